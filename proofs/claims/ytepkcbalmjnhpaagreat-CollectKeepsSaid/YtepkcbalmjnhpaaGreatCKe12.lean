/-
  What the claim leans on, part 12.
-/
import Derived.Test.YtepkcbalmjnhpaaGreatCKe11
set_option maxRecDepth 100000
set_option maxHeartbeats 1000000
set_option linter.unusedVariables false
set_option linter.unusedSimpArgs false
namespace Go.Proofs.YtepkcbalmjnhpaaGreat
open Go.RowKit
def tE (R : List Rk) (s : Nat) (i : Int) : Prop := ∃ r ∈ R, r.gWhat = 1 ∧ r.gSeq = (s : Int) ∧ r.gEvent.gN = i
def tL (R : List Rk) (s : Nat) : Prop := ∃ r ∈ R, r.gWhat = 2 ∧ r.gSeq ≤ (s : Int) ∧ (s : Int) < r.gSeq + r.gCount
def tT (R : List Rk) (t : Int) : Prop := ∃ r ∈ R, r.gWhat = 3 ∧ r.gSeq = t
structure Cons (R : List Rk) : Prop where
  one : ∀ s i j, s < 48 → tE R s i → tE R s j → i = j
  tot : ∀ t u, tT R t → tT R u → t = u
  snd : ∀ t (s : Nat), s < 48 → tT R t → t ≤ (s : Int) → (∀ i, ¬ tE R s i) ∧ ¬ tL R s
structure Rep (K : Kn) (R : List Rk) : Prop where
  ids : ∀ s : Nat, s < 48 → ∀ i, i ≠ 0 → (K.gIds s = i ↔ tE R s i)
  lost : ∀ s : Nat, s < 48 → K.gIds s = 0 → (K.gLost s = true ↔ tL R s)
  tot : ∀ t, 0 ≤ t → (K.gTotal = t ↔ tT R t)
  snd : Sound K
theorem tE_app {R S : List Rk} {s : Nat} {i : Int} : tE (R ++ S) s i ↔ tE R s i ∨ tE S s i := by
  constructor
  · rintro ⟨r, hr, h⟩
    rcases List.mem_append.1 hr with h1 | h1
    · exact .inl ⟨r, h1, h⟩
    · exact .inr ⟨r, h1, h⟩
  · rintro (⟨r, hr, h⟩ | ⟨r, hr, h⟩)
    · exact ⟨r, List.mem_append_left _ hr, h⟩
    · exact ⟨r, List.mem_append_right _ hr, h⟩
theorem tL_app {R S : List Rk} {s : Nat} : tL (R ++ S) s ↔ tL R s ∨ tL S s := by
  constructor
  · rintro ⟨r, hr, h⟩
    rcases List.mem_append.1 hr with h1 | h1
    · exact .inl ⟨r, h1, h⟩
    · exact .inr ⟨r, h1, h⟩
  · rintro (⟨r, hr, h⟩ | ⟨r, hr, h⟩)
    · exact ⟨r, List.mem_append_left _ hr, h⟩
    · exact ⟨r, List.mem_append_right _ hr, h⟩
theorem tT_app {R S : List Rk} {t : Int} : tT (R ++ S) t ↔ tT R t ∨ tT S t := by
  constructor
  · rintro ⟨r, hr, h⟩
    rcases List.mem_append.1 hr with h1 | h1
    · exact .inl ⟨r, h1, h⟩
    · exact .inr ⟨r, h1, h⟩
  · rintro (⟨r, hr, h⟩ | ⟨r, hr, h⟩)
    · exact ⟨r, List.mem_append_left _ hr, h⟩
    · exact ⟨r, List.mem_append_right _ hr, h⟩
theorem tE_mono {R S : List Rk} (h : ∀ r ∈ R, r ∈ S) {s : Nat} {i : Int} : tE R s i → tE S s i := fun ⟨r, hr, k⟩ => ⟨r, h r hr, k⟩
theorem tL_mono {R S : List Rk} (h : ∀ r ∈ R, r ∈ S) {s : Nat} : tL R s → tL S s := fun ⟨r, hr, k⟩ => ⟨r, h r hr, k⟩
theorem tT_mono {R S : List Rk} (h : ∀ r ∈ R, r ∈ S) {t : Int} : tT R t → tT S t := fun ⟨r, hr, k⟩ => ⟨r, h r hr, k⟩
theorem Cons.mono {R S : List Rk} (h : ∀ r ∈ R, r ∈ S) (hS : Cons S) : Cons R :=
  ⟨fun s i j hs h1 h2 => hS.one s i j hs (tE_mono h h1) (tE_mono h h2), fun t u h1 h2 => hS.tot t u (tT_mono h h1) (tT_mono h h2), fun t s hs h1 h2 => ⟨fun i hi => (hS.snd t s hs (tT_mono h h1) h2).1 i (tE_mono h hi), fun hl => (hS.snd t s hs (tT_mono h h1) h2).2 (tL_mono h hl)⟩⟩
def Small2 (R : List Rk) : Prop := ∀ r ∈ R, Small r
theorem tE_ne {R : List Rk} (h : Small2 R) {s : Nat} {i : Int} (k : tE R s i) : i ≠ 0 := by
  obtain ⟨r, hr, h1, h2, rfl⟩ := k
  exact (h r hr).name h1
theorem tT_nn {R : List Rk} (h : Small2 R) {t : Int} (k : tT R t) : 0 ≤ t ∧ t < 48 := by
  obtain ⟨r, hr, h1, rfl⟩ := k
  exact (h r hr).seq
theorem Rep.cons {K : Kn} {R : List Rk} (hR : Small2 R) (h : Rep K R) : Cons R := by
  have hone : ∀ s i j, s < 48 → tE R s i → tE R s j → i = j := fun s i j hs h1 h2 => by
    have a := (h.ids s hs i (tE_ne hR h1)).2 h1
    have b := (h.ids s hs j (tE_ne hR h2)).2 h2
    rw [← a, ← b]
  refine ⟨hone, fun t u h1 h2 => ?_, fun t s hs h1 h2 => ?_⟩
  · have a := (h.tot t (tT_nn hR h1).1).2 h1
    have b := (h.tot u (tT_nn hR h2).1).2 h2
    rw [← a, ← b]
  · have a := (h.tot t (tT_nn hR h1).1).2 h1
    have := (tT_nn hR h1).1
    obtain ⟨k1, k2⟩ := h.snd s hs (by omega) (by omega)
    refine ⟨fun i hi => ?_, fun hl => ?_⟩
    · have := (h.ids s hs i (tE_ne hR hi)).2 hi
      exact tE_ne hR hi (by rw [← this, k1])
    · have := (h.lost s hs k1).2 hl
      rw [k2] at this; cases this
theorem raw_E {rs : List Rk} {s : Nat} {i : Int} : (∃ r ∈ (partRaw rs).gentries, r.gSeq = (s : Int) ∧ r.gEvent.gN = i) ↔ tE rs s i := by
  constructor
  · rintro ⟨r, hr, h⟩
    have := mem_ents.1 hr
    exact ⟨r, this.1, this.2, h⟩
  · rintro ⟨r, hr, h1, h⟩
    exact ⟨r, mem_ents.2 ⟨hr, h1⟩, h⟩
theorem raw_L {rs : List Rk} {s : Nat} : inS (partRaw rs).glost (s : Int) ↔ tL rs s := by
  constructor
  · rintro ⟨q, hq, h⟩
    obtain ⟨r, r1, rfl⟩ := List.mem_map.1 hq
    have r2 := List.mem_filter.1 r1
    exact ⟨r, r2.1, by simpa using r2.2, h⟩
  · rintro ⟨r, hr, h1, h⟩
    exact ⟨spanOf r, List.mem_map.2 ⟨r, List.mem_filter.2 ⟨hr, by simpa using h1⟩, rfl⟩, h⟩
theorem raw_T {rs : List Rk} (h1 : OneEnd rs) {t : Int} : ((partRaw rs).gknown = true ∧ (partRaw rs).gtotal = t) ↔ tT rs t := by
  constructor
  · rintro ⟨h, rfl⟩
    obtain ⟨r, r1, r2, r3⟩ := endOf_mem h
    exact ⟨r, r1, r2, r3⟩
  · rintro ⟨r, hr, h3, rfl⟩
    have := endOf_some hr h3 h1
    exact ⟨by show (endOf rs).1 = true; rw [this], by show (endOf rs).2 = _; rw [this]⟩
theorem rep_of_joined {A K : Kn} {R rs : List Rk} (hA : Rep A R) (h1 : OneEnd rs) (hJ : Joined A (partRaw rs) K) : (∀ s : Nat, s < 48 → ∀ i, i ≠ 0 → (K.gIds s = i ↔ tE (R ++ rs) s i)) ∧ (∀ s : Nat, s < 48 → K.gIds s = 0 → (K.gLost s = true ↔ tL (R ++ rs) s)) ∧ ∀ t, 0 ≤ t → (K.gTotal = t ↔ tT (R ++ rs) t) := by
  have hids : ∀ s : Nat, s < 48 → ∀ i, i ≠ 0 → (K.gIds s = i ↔ tE (R ++ rs) s i) := fun s hs i hi => by
    rw [hJ.ids s hs i hi, raw_E, tE_app, hA.ids s hs i hi]
  refine ⟨hids, fun s hs h0 => ?_, fun t ht => ?_⟩
  · have hA0 : A.gIds s = 0 := Classical.byContradiction fun hne => by
      have := (hJ.ids s hs _ hne).2 (.inl rfl)
      omega
    rw [hJ.lost s hs h0, raw_L, tL_app, hA.lost s hs hA0]
  · rw [hJ.tot t ht, raw_T h1, tT_app, hA.tot t ht]
theorem rep_sound {K : Kn} {R : List Rk} (hR : Small2 R) (hids : ∀ s : Nat, s < 48 → ∀ i, i ≠ 0 → (K.gIds s = i ↔ tE R s i)) (hlost : ∀ s : Nat, s < 48 → K.gIds s = 0 → (K.gLost s = true ↔ tL R s)) (htot : ∀ t, 0 ≤ t → (K.gTotal = t ↔ tT R t)) (hC : Cons R) : Sound K := by
  intro s hs h0 hts
  have hT := (htot _ h0).1 rfl
  obtain ⟨k1, k2⟩ := hC.snd _ s hs hT hts
  have hid : K.gIds s = 0 := Classical.byContradiction fun hne => k1 _ ((hids s hs _ hne).1 rfl)
  refine ⟨hid, ?_⟩
  rw [Bool.eq_false_iff]
  intro hl
  exact k2 ((hlost s hs hid).1 hl)
theorem refAdd_rep {A K : Kn} {ok : Bool} {R rs : List Rk} (hA : Rep A R) (hrng : -1 ≤ A.gTotal ∧ A.gTotal < 48) (hR : Small2 R) (hrs : Small2 rs) (hl : rs.length ≤ 1099511627776) (h : e30_Add A (rs.map toRef) = some (K, ok)) : (ok = true ↔ Cons (R ++ rs)) ∧ (ok = true → Rep K (R ++ rs)) := by
  have hS : Small2 (R ++ rs) := fun r hr => (List.mem_append.1 hr).elim (hR r) (hrs r)
  obtain ⟨K0, ok0, h0, h1⟩ := refAdd_spec A hrng rs hl hrs
  rw [h] at h0
  obtain ⟨rfl, rfl⟩ : K = K0 ∧ ok = ok0 := by injection h0 with h0; injection h0 with a b; exact ⟨a, b⟩
  have oneOf : Cons (R ++ rs) → OneEnd rs := fun hC r hr q hq r3 q3 => hC.tot _ _ (tT_app.2 (.inr ⟨r, hr, r3, rfl⟩)) (tT_app.2 (.inr ⟨q, hq, q3, rfl⟩))
  rcases h1 with ⟨rfl, j1, j2, j3⟩ | ⟨rfl, rfl, hno⟩
  · obtain ⟨a, b, c⟩ := rep_of_joined hA j3 j1
    have hRep : Rep K (R ++ rs) := ⟨a, b, c, j2⟩
    exact ⟨⟨fun _ => hRep.cons hS, fun _ => rfl⟩, fun _ => hRep⟩
  · refine ⟨⟨fun h => (by cases h), fun hC => ?_⟩, fun h => (by cases h)⟩
    exfalso
    rcases hno with (⟨r, r1, r2, r3⟩ | ⟨r, r1, q, q1, h1, h2⟩ | ⟨h1, h2, h3⟩) | hno | ⟨K1, j1, j2⟩
    · have hr := mem_ents.1 r1
      have hs := (hrs r hr.1).seq
      have e : ((r.gSeq.toNat : Nat) : Int) = r.gSeq := by omega
      have hE := (hA.ids _ (by omega) _ r2).1 rfl
      exact r3 (hC.one _ _ _ (show r.gSeq.toNat < 48 by omega) (tE_app.2 (.inl hE)) (tE_app.2 (.inr ⟨r, hr.1, hr.2, e.symm, rfl⟩)))
    · have hr := mem_ents.1 r1
      have hq := mem_ents.1 q1
      have hs := (hrs r hr.1).seq
      have e : ((r.gSeq.toNat : Nat) : Int) = r.gSeq := by omega
      exact h2 (hC.one _ _ _ (show r.gSeq.toNat < 48 by omega) (tE_app.2 (.inr ⟨r, hr.1, hr.2, e.symm, rfl⟩)) (tE_app.2 (.inr ⟨q, hq.1, hq.2, by rw [e, h1], rfl⟩)))
    · obtain ⟨q, q1, q2, q3⟩ := endOf_mem h2
      exact h3 (hC.tot _ _ (tT_app.2 (.inl ((hA.tot _ h1).1 rfl))) (tT_app.2 (.inr ⟨q, q1, q2, q3⟩)))
    · exact hno (oneOf hC)
    · obtain ⟨a, b, c⟩ := rep_of_joined hA (oneOf hC) j1
      exact j2 (rep_sound hS a b c hC)
theorem refMerge_rep {c : Int} {A B K : Kn} {ok : Bool} {R S : List Rk} {o : CPart} (hB : Rel (GE c) o B) (hA : Rep A R) (hBS : Rep B S) (hrng : -1 ≤ A.gTotal ∧ A.gTotal < 48) (hR : Small2 R) (hS : Small2 S) (h : e30_Merge A B = some (K, ok)) : (ok = true ↔ Cons (R ++ S)) ∧ (ok = true → Rep K (R ++ S)) := by
  have hG := good_GE c
  have hRS : Small2 (R ++ S) := fun r hr => (List.mem_append.1 hr).elim (hR r) (hS r)
  -- what the other part tells
  have oE : ∀ s : Nat, s < 48 → ∀ i, i ≠ 0 → ((∃ r ∈ o.gentries, r.gSeq = (s : Int) ∧ r.gEvent.gN = i) ↔ tE S s i) := fun s hs i hi => by
    rw [← hBS.ids s hs i hi]
    constructor
    · rintro ⟨r, r1, r2, r3⟩
      have := (hB.good r r1).2
      rw [r2, Int.toNat_natCast] at this
      rw [this, r3]
    · intro h
      obtain ⟨r, r1, r2⟩ := hB.cov s hs (by rw [h]; exact hi)
      have := (hB.good r r1).2
      rw [r2, Int.toNat_natCast] at this
      exact ⟨r, r1, r2, by rw [← this, h]⟩
  have oL : ∀ s : Nat, s < 48 → B.gIds s = 0 → (inS o.glost (s : Int) ↔ tL S s) := fun s hs h0 => by
    rw [← hBS.lost s hs h0, hB.lost]
    constructor
    · rintro ⟨q, q1, q2, q3, q4⟩
      have : q = s := by omega
      subst this; exact q3
    · intro h; exact ⟨s, hs, rfl, h, h0⟩
  have oT : ∀ t, 0 ≤ t → ((o.gknown = true ∧ o.gtotal = t) ↔ tT S t) := fun t ht => by
    rw [← hBS.tot t ht, hB.kno, hB.tot, decide_eq_true_eq]
    constructor
    · rintro ⟨h1, h2⟩; rw [if_pos h1] at h2; exact h2
    · intro h; rw [if_pos (by omega)]; exact ⟨by omega, h⟩
  have rep : ∀ K1, Joined A o K1 → (∀ s : Nat, s < 48 → ∀ i, i ≠ 0 → (K1.gIds s = i ↔ tE (R ++ S) s i)) ∧ (∀ s : Nat, s < 48 → K1.gIds s = 0 → (K1.gLost s = true ↔ tL (R ++ S) s)) ∧ ∀ t, 0 ≤ t → (K1.gTotal = t ↔ tT (R ++ S) t) := fun K1 hJ => by
    refine ⟨fun s hs i hi => by rw [hJ.ids s hs i hi, oE s hs i hi, tE_app, hA.ids s hs i hi], fun s hs h0 => ?_, fun t ht => by rw [hJ.tot t ht, oT t ht, tT_app, hA.tot t ht]⟩
    have hA0 : A.gIds s = 0 := Classical.byContradiction fun hne => by
      have := (hJ.ids s hs _ hne).2 (.inl rfl)
      omega
    have hB0 : B.gIds s = 0 := Classical.byContradiction fun hne => by
      have := (hJ.ids s hs _ hne).2 (.inr ((oE s hs _ hne).2 ((hBS.ids s hs _ hne).1 rfl)))
      omega
    rw [hJ.lost s hs h0, oL s hs hB0, tL_app, hA.lost s hs hA0]
  obtain ⟨K0, ok0, h0, h1⟩ := refMerge_spec hG hrng hB
  rw [h] at h0
  obtain ⟨rfl, rfl⟩ : K = K0 ∧ ok = ok0 := by injection h0 with h0; injection h0 with a b; exact ⟨a, b⟩
  rcases h1 with ⟨rfl, j1, j2⟩ | ⟨rfl, rfl, hno⟩
  · obtain ⟨a, b, c⟩ := rep _ j1
    have hRep : Rep K (R ++ S) := ⟨a, b, c, j2⟩
    exact ⟨⟨fun _ => hRep.cons hRS, fun _ => rfl⟩, fun _ => hRep⟩
  · refine ⟨⟨fun h => (by cases h), fun hC => ?_⟩, fun h => (by cases h)⟩
    exfalso
    have nm : ∀ r ∈ o.gentries, 0 ≤ r.gSeq ∧ r.gSeq < 48 ∧ tE S r.gSeq.toNat r.gEvent.gN := fun r hr => by
      have g := (hB.good r hr).1
      have hs := hG.seq r g
      refine ⟨hs.1, hs.2, (oE _ (by omega) _ (hG.name r g)).1 ⟨r, hr, by omega, rfl⟩⟩
    rcases hno with (⟨r, r1, r2, r3⟩ | ⟨r, r1, q, q1, h1, h2⟩ | ⟨h1, h2, h3⟩) | ⟨K1, j1, j2⟩
    · obtain ⟨s1, s2, s3⟩ := nm r r1
      have hE := (hA.ids _ (by omega) _ r2).1 rfl
      exact r3 (hC.one _ _ _ (show r.gSeq.toNat < 48 by omega) (tE_app.2 (.inl hE)) (tE_app.2 (.inr s3)))
    · obtain ⟨s1, s2, s3⟩ := nm r r1
      obtain ⟨t1, t2, t3⟩ := nm q q1
      rw [← h1] at t3
      exact h2 (hC.one _ _ _ (show r.gSeq.toNat < 48 by omega) (tE_app.2 (.inr s3)) (tE_app.2 (.inr t3)))
    · have ho := (hB.PW hG).tot.1
      exact h3 (hC.tot _ _ (tT_app.2 (.inl ((hA.tot _ h1).1 rfl))) (tT_app.2 (.inr ((oT _ ho).1 ⟨h2, rfl⟩))))
    · obtain ⟨a, b, c⟩ := rep _ j1
      exact j2 (rep_sound hRS a b c hC)
end Go.Proofs.YtepkcbalmjnhpaaGreat
set_option maxRecDepth 100000
set_option maxHeartbeats 1000000
set_option linter.unusedVariables false
set_option linter.unusedSimpArgs false
namespace Go.Proofs.YtepkcbalmjnhpaaGreat
open Go.RowKit
abbrev Fi := w30_File
def FileSpec (n : Nat) (f : Fi) (y : List Int × List Rk) : Prop := w30_File_bytes f (n : Int) = some (fileC f (n : Int), y.1, y.2.map toRef) ∧ recorder_Read y.1 = some (y.2, 0) ∧ (∀ r ∈ y.2, Reads (fileC f (n : Int)) r) ∧ y.2.length ≤ 12
theorem files_fun (n : Nat) (hn : 1 ≤ n ∧ n ≤ 8) : ∃ φ : Fi → List Int × List Rk, ∀ f, FileOk f → FileSpec n f (φ f) := by
  have h : ∀ f : Fi, ∃ y : List Int × List Rk, FileOk f → FileSpec n f y := fun f => by
    by_cases hf : FileOk f
    · obtain ⟨p, rs, h1, h2, h3, h4⟩ := file_read f (n : Int) (by omega) hf
      exact ⟨(p, rs), fun _ => ⟨h1, h2, h3, h4⟩⟩
    · exact ⟨([], []), fun h => absurd h hf⟩
  exact ⟨fun f => Classical.choose (h f), fun f hf => Classical.choose_spec (h f) hf⟩
def cOf (n : Nat) (f : Fi) : Nat := (fileC f (n : Int)).toNat
theorem cOf_eq {n : Nat} (hn : 1 ≤ n ∧ n ≤ 8) (f : Fi) : fileC f (n : Int) = (cOf n f : Int) ∧ cOf n f < n + 1 := by
  have := fileC_rng f (n : Int) (by omega)
  unfold cOf; omega
structure Sta (n : Nat) (parts : List CPart) (Ks : List Kn) (Rs : Nat → List Rk) : Prop where
  inv : Inv n parts Ks
  small : ∀ i, Small2 (Rs i)
  rep : ∀ (i : Nat) (h : i < Ks.length), Rep Ks[i] (Rs i)
theorem rep0 : Rep kn0 [] := by
  refine ⟨fun s hs i hi => ⟨fun h => ?_, fun ⟨r, hr, _⟩ => (by cases hr)⟩, fun s hs h => ⟨fun k => ?_, fun ⟨r, hr, _⟩ => (by cases hr)⟩, fun t ht => ⟨fun h => ?_, fun ⟨r, hr, _⟩ => (by cases hr)⟩, fun s hs h => ?_⟩
  · rw [kn0_ids] at h; exact absurd h.symm hi
  · rw [kn0_lost] at k; cases k
  · have : kn0.gTotal = -1 := rfl
    omega
  · have : kn0.gTotal = -1 := rfl
    omega
theorem sta0 (n : Nat) : Sta n (List.replicate (n + 1) part0) (List.replicate (n + 1) kn0) (fun _ => []) :=
  ⟨inv0 n, fun _ r hr => (by cases hr), fun i h => by rw [List.getElem_replicate]; exact rep0⟩
theorem Sta.add {n : Nat} {parts : List CPart} {Ks : List Kn} {Rs : Nat → List Rk} (h : Sta n parts Ks Rs) (hn : n ≤ 8) (c : Nat) (hc : c < n + 1) (p : List Int) (rs : List Rk) (hr : recorder_Read p = some (rs, 0)) (hrs : ∀ r ∈ rs, Reads (c : Int) r) (hl : rs.length ≤ 12) :
    ∃ K ok e parts', e30_Add (Ks[c]'(by rw [h.inv.lenK]; exact hc)) (rs.map toRef) = some (K, ok) ∧ CColl_Add_a (c : Int) p ⟨parts⟩ = some (e, ⟨parts'⟩) ∧ ((ok = true ∧ e = 0 ∧ Cons (Rs c ++ rs) ∧ Sta n parts' (Ks.set c K) (upd Rs c (Rs c ++ rs))) ∨ (ok = false ∧ e = 14 ∧ ¬ Cons (Rs c ++ rs) ∧ parts' = parts ∧ Ks.set c K = Ks)) := by
  have hck : c < Ks.length := by rw [h.inv.lenK]; exact hc
  obtain ⟨K, ok, e, parts', a1, a2, a3, a4⟩ := add_step h.inv hn c hc p rs 0 hr hrs (by omega)
  have hsm : Small2 rs := fun r hr => (hrs r hr).small
  obtain ⟨b1, b2⟩ := refAdd_rep (h.rep c hck) (h.inv.rel c (by rw [h.inv.len]; exact hc) hck).rng (h.small c) hsm (by omega) a1
  refine ⟨K, ok, e, parts', a1, a2, ?_⟩
  rcases a3 with ⟨rfl, rfl⟩ | ⟨rfl, rfl, rfl, hK⟩
  · refine .inl ⟨rfl, rfl, b1.1 rfl, a4, fun i => ?_, fun i hi => ?_⟩
    · unfold upd
      split
      · exact fun r hr => (List.mem_append.1 hr).elim (h.small c r) (hsm r)
      · exact h.small i
    · rw [List.getElem_set]
      unfold upd
      by_cases e : c = i
      · subst e; rw [if_pos rfl, if_pos rfl]; exact b2 rfl
      · rw [if_neg e, if_neg (fun x => e x.symm)]
        exact h.rep i (by rw [List.length_set] at hi; exact hi)
  · refine .inr ⟨rfl, rfl, fun hC => ?_, rfl, by rw [hK]; exact set_self _ _ hck⟩
    have := b1.2 hC
    cases this
def allR (n : Nat) (φ : Fi → List Int × List Rk) (l : List Fi) (c : Nat) : List Rk := l.flatMap fun f => if cOf n f = c then (φ f).2 else []
theorem mem_allR {n : Nat} {φ : Fi → List Int × List Rk} {l : List Fi} {c : Nat} {r : Rk} : r ∈ allR n φ l c ↔ ∃ f ∈ l, cOf n f = c ∧ r ∈ (φ f).2 := by
  unfold allR
  rw [List.mem_flatMap]
  constructor
  · rintro ⟨f, hf, hr⟩
    split at hr
    · exact ⟨f, hf, by assumption, hr⟩
    · cases hr
  · rintro ⟨f, hf, h1, h2⟩
    exact ⟨f, hf, by rw [if_pos h1]; exact h2⟩
theorem Sta.file {n : Nat} {parts : List CPart} {Ks : List Kn} {Rs : Nat → List Rk} (h : Sta n parts Ks Rs) (hn : 1 ≤ n ∧ n ≤ 8) {φ : Fi → List Int × List Rk} {f : Fi} (hf : FileSpec n f (φ f)) :
    ∃ K ok e parts', e30_Add (Ks[cOf n f]'(by rw [h.inv.lenK]; exact (cOf_eq hn f).2)) ((φ f).2.map toRef) = some (K, ok) ∧ CColl_Add_a (cOf n f : Int) (φ f).1 ⟨parts⟩ = some (e, ⟨parts'⟩) ∧ ((ok = true ∧ e = 0 ∧ Cons (Rs (cOf n f) ++ (φ f).2) ∧ Sta n parts' (Ks.set (cOf n f) K) (upd Rs (cOf n f) (Rs (cOf n f) ++ (φ f).2))) ∨ (ok = false ∧ e = 14 ∧ ¬ Cons (Rs (cOf n f) ++ (φ f).2) ∧ parts' = parts ∧ Ks.set (cOf n f) K = Ks)) := by
  obtain ⟨h1, h2, h3, h4⟩ := hf
  have hc := cOf_eq hn f
  rw [hc.1] at h3
  exact h.add hn.2 (cOf n f) hc.2 (φ f).1 (φ f).2 h2 h3 h4
structure Took (n : Nat) (φ : Fi → List Int × List Rk) (all seen : List Fi) (Rs : Nat → List Rk) : Prop where
  sub : ∀ c r, r ∈ Rs c → r ∈ allR n φ all c
  full : (∀ c, Cons (allR n φ all c)) → ∀ c r, r ∈ allR n φ seen c → r ∈ Rs c
theorem Took.next {n : Nat} {φ : Fi → List Int × List Rk} {all seen : List Fi} {Rs : Nat → List Rk} (h : Took n φ all seen Rs) {f : Fi} (hf : f ∈ all) : Took n φ all (seen ++ [f]) (upd Rs (cOf n f) (Rs (cOf n f) ++ (φ f).2)) := by
  constructor
  · intro c r hr
    unfold upd at hr
    split at hr
    · rename_i e
      rcases List.mem_append.1 hr with h1 | h1
      · rw [e]; exact h.sub _ r h1
      · rw [e]; exact mem_allR.2 ⟨f, hf, rfl, h1⟩
    · exact h.sub c r hr
  · intro hC c r hr
    obtain ⟨g, hg, e1, e2⟩ := mem_allR.1 hr
    unfold upd
    rcases List.mem_append.1 hg with hg | hg
    · have := h.full hC c r (mem_allR.2 ⟨g, hg, e1, e2⟩)
      split
      · rename_i e; rw [e] at this; exact List.mem_append_left _ this
      · exact this
    · rw [List.mem_singleton] at hg; subst hg
      rw [if_pos e1.symm]
      exact List.mem_append_right _ e2
theorem Took.clash {n : Nat} {φ : Fi → List Int × List Rk} {all seen : List Fi} {Rs : Nat → List Rk} (h : Took n φ all seen Rs) {f : Fi} (hf : f ∈ all) (hno : ¬ Cons (Rs (cOf n f) ++ (φ f).2)) : ¬ Cons (allR n φ all (cOf n f)) := fun hC => hno (hC.mono fun r hr => by
  rcases List.mem_append.1 hr with h1 | h1
  · exact h.sub _ r h1
  · exact mem_allR.2 ⟨f, hf, rfl, h1⟩)
theorem Took.skip {n : Nat} {φ : Fi → List Int × List Rk} {all seen : List Fi} {Rs : Nat → List Rk} (h : Took n φ all seen Rs) {f : Fi} (hno : ∃ c, ¬ Cons (allR n φ all c)) : Took n φ all (seen ++ [f]) Rs := ⟨h.sub, fun hC => by obtain ⟨c, hc⟩ := hno; exact absurd (hC c) hc⟩
theorem took0 (n : Nat) (φ : Fi → List Int × List Rk) (all : List Fi) : Took n φ all [] (fun _ => []) := ⟨fun c r hr => (by cases hr), fun _ c r hr => by simp [allR] at hr⟩
theorem add_loop2 {n : Nat} {φ : Fi → List Int × List Rk} (hn : 1 ≤ n ∧ n ≤ 8) (hφ : ∀ f, FileOk f → FileSpec n f (φ f)) (l : List Fi) (hl : ∀ f ∈ l, FileOk f) {parts : List CPart} {Ks : List Kn} {Rs : Nat → List Rk} (h : Sta n parts Ks Rs) (hT : Took n φ (l.take 8) [] Rs) : ∃ parts' Ks' Rs', w30_add_a (n : Int) l ⟨parts⟩ Ks = some (true, ⟨parts'⟩, Ks') ∧ Sta n parts' Ks' Rs' ∧ Took n φ (l.take 8) (l.take 8) Rs' := by
  unfold w30_add_a
  have hInd := whileM_ind (S := (List Kn) × Int × (List CPart)) (E := ((List Kn) × (List CPart)) ⊕ (Bool × CColl × (List Kn))) (step := fun s => w30_add_a_L2 (n : Int) l s.1 s.2.1 s.2.2) (s0 := (Ks, 0, parts)) (fun s => ∃ (i : Nat) (Rs : Nat → List Rk), s.2.1 = (i : Int) ∧ i ≤ l.length ∧ i ≤ 8 ∧ Sta n s.2.2 s.1 Rs ∧ Took n φ (l.take 8) (l.take i) Rs) (fun s => (8 - s.2.1).toNat) (fun e => ∃ parts' Ks' Rs', e = .inl (Ks', parts') ∧ Sta n parts' Ks' Rs' ∧ Took n φ (l.take 8) (l.take 8) Rs') ⟨0, Rs, rfl, Nat.zero_le _, by omega, h, hT⟩ (by (try dsimp only); omega) ?_
  · obtain ⟨e, h1, parts', Ks', Rs', rfl, h2, h3⟩ := hInd
    rw [h1]
    exact ⟨parts', Ks', Rs', rfl, h2, h3⟩
  · rintro ⟨Ks1, ii, parts1⟩ ⟨i, Rs1, h1, h2, h3, hI, hTk⟩
    dsimp only at h1 hI ⊢
    subst h1
    unfold w30_add_a_L2
    by_cases hc : i < l.length ∧ i < 8
    · have hd : ((decide ((i : Int) < (List.length l : Int))) && (decide ((i : Int) < 8))) = true := by
        simp only [Bool.and_eq_true, decide_eq_true_eq]; omega
      have tk : l.take (i + 1) = l.take i ++ [l[i]'hc.1] := List.take_succ_eq_append_getElem hc.1
      have hmem : l[i]'hc.1 ∈ l.take 8 := by
        rw [List.mem_take_iff_getElem]
        exact ⟨i, by omega, rfl⟩
      have hf := hφ _ (hl _ (List.getElem_mem hc.1))
      rw [hd, if_pos rfl, idx_lt hc.1, Option.bind_some]
      generalize l[i]'hc.1 = f at hf hmem tk ⊢
      have hcc := cOf_eq hn f
      have hck : cOf n f < Ks1.length := by rw [hI.inv.lenK]; exact hcc.2
      obtain ⟨K, ok, e, parts', a1, a2, a3⟩ := hI.file hn hf
      have wi : IntKind.wrap .i64 ((i : Int) + 1) = ((i + 1 : Nat) : Int) := by rw [wrap_i64 (by omega) (by omega)]; omega
      rw [hf.1, Option.bind_some, hcc.1]
      dsimp only
      rw [a2, Option.bind_some]
      simp only [idx_lt hck, Option.bind_some, a1, Int.toNat_natCast]
      refine .inl ⟨(Ks1.set (cOf n f) K, ((i + 1 : Nat) : Int), parts'), ?_, ?_, by (try dsimp only); omega⟩
      · rcases a3 with ⟨rfl, rfl, _, hS⟩ | ⟨rfl, rfl, _, rfl, hK⟩
        · have hag := hS.inv.agrees hn.2
          simp [gb, hag, wi]
        · rw [hK]
          have hag := hI.inv.agrees hn.2
          simp [gb, hag, wi]
      · dsimp only
        rcases a3 with ⟨rfl, rfl, _, hS⟩ | ⟨rfl, rfl, hno, rfl, hK⟩
        · exact ⟨i + 1, _, rfl, by omega, by omega, hS, by rw [tk]; exact hTk.next hmem⟩
        · rw [hK]
          exact ⟨i + 1, _, rfl, by omega, by omega, hI, by rw [tk]; exact hTk.skip ⟨_, hTk.clash hmem hno⟩⟩
    · have hd : ((decide ((i : Int) < (List.length l : Int))) && (decide ((i : Int) < 8))) = false := by
        rw [Bool.eq_false_iff]
        simp only [ne_eq, Bool.and_eq_true, decide_eq_true_eq]; omega
      rw [hd]
      have : l.take i = l.take 8 := by
        by_cases h8 : i = 8
        · rw [h8]
        · rw [List.take_of_length_le (by omega), List.take_of_length_le (by omega)]
      rw [this] at hTk
      exact .inr ⟨_, rfl, parts1, Ks1, Rs1, rfl, hI, hTk⟩
theorem collected2 {φ : Fi → List Int × List Rk} (x0 : Int) (hx : 0 ≤ x0 ∧ x0 ≤ 255) (hφ : ∀ f, FileOk f → FileSpec (nOf x0) f (φ f)) (x1 : List Fi) (hl : ∀ f ∈ x1, FileOk f) : ∃ parts Ks Rs, w30_collected x0 x1 = some (.inl (⟨parts⟩, Ks)) ∧ Sta (nOf x0) parts Ks Rs ∧ Took (nOf x0) φ (x1.take 8) (x1.take 8) Rs := by
  have hn : 1 ≤ nOf x0 ∧ nOf x0 ≤ 8 := by unfold nOf; omega
  obtain ⟨parts', Ks', Rs', h1, h2, h3⟩ := add_loop2 hn hφ x1 hl (sta0 (nOf x0)) (took0 _ _ _)
  refine ⟨parts', Ks', Rs', ?_, h2, h3⟩
  unfold w30_collected
  rw [begin_eq x0 hx, Option.bind_some]
  dsimp only
  rw [h1]
  rfl
end Go.Proofs.YtepkcbalmjnhpaaGreat
set_option maxRecDepth 100000
set_option maxHeartbeats 4000000
set_option linter.unusedVariables false
set_option linter.unusedSimpArgs false
namespace Go.Proofs.YtepkcbalmjnhpaaGreat
open Go.RowKit
def slices_Clone_collect_part_collect_part_r (x0 : List CPart) : Option (List CPart) := chk (apOk 64 (List.length ([] : List CPart) + List.length x0)) (some (([] : List CPart) ++ x0))
theorem slices_Clone_collect_part_collect_part_r_c {x0 : List CPart} {r : List CPart} (hM : slices_Clone_collect_part_collect_part_r x0 = some r) : ACall Tryz.prog 74 ⟨[.row 100000], [(100000, some (.row 137 4 (List.map CPart.dv x0)))], .row 50000, [(50000, some (.row 137 4 (List.map CPart.dv r))), (100000, some (.row 137 4 (List.map CPart.dv x0)))], [50000]⟩ := by
  unfold slices_Clone_collect_part_collect_part_r at hM
  obtain ⟨h, hM⟩ := of_chk hM
  obtain rfl := Option.some.inj hM
  refine ACall.body Tryz.func74 Tryz.ntmps74 rfl rfl rfl rfl ?_
  refine a_seq (a_region (.cons (o_assign rfl) <| .nil _) (by kernel_rfl) (by kernel_rfl) ?_)
  refine a_seq (a_seq ?_)
  refine a_isnil_r rfl rfl (by decide) (by decide) (fun b hb => ?_)
  refine a_cond _ rfl (fun c => ?_) (fun c => ?_)
  · have h0 : x0 = [] := List.map_eq_nil_iff.1 (hb c)
    subst h0
    refine a_seq (a_region (.cons (o_assign rfl) <| .nil _) (by kernel_rfl) (by kernel_rfl) ?_)
    refine a_imp (Imp.nilRow (t := 2) (id := 50000) 137 4 rfl rfl) ?_
    exact a_ret (a_post (.r1 (.tmp rfl)) (DLe.refl _) (PostOk.spec (.cons rfl (.cons rfl .nil))))
  · refine a_skip (a_seq (a_region (.cons (t_build CPart.dv ([] : List CPart) rfl rfl rfl rfl rfl rfl rfl) <| .cons (o_move rfl) <| .cons (t_append x0 h rfl rfl rfl (Src.row rfl)) <| .cons (o_assign rfl) <| .nil _) (by kernel_rfl) (by kernel_rfl) ?_))
    refine a_imp (σ' := ⟨[(2, .row 50000)], [(50000, some (.row 137 4 (List.map CPart.dv (([] : List CPart) ++ x0)))), (100000, some (.row 137 4 (List.map CPart.dv x0)))], [50000, 100000]⟩) (Imp.of (fun i => bif Nat.beq i 50000 then 7 else i) (.cons rfl (DLe.refl _) .nil) (.cons rfl (.refl _) (.cons rfl (.refl _) .nil)) rfl rfl rfl) ?_
    exact a_ret (a_post (.r1 (.tmp rfl)) (DLe.refl _) (PostOk.spec (.cons rfl (.cons rfl .nil))))
theorem slices_Clone_collect_span_collect_span_p_c {x0 : List CSpan} {r : List CSpan} (hM : slices_Clone_collect_span_collect_span x0 = some r) : PCall Tryz.prog 75 [.sl 2 (List.map CSpan.dv x0)] (.sl 2 (List.map CSpan.dv r)) := by
  unfold slices_Clone_collect_span_collect_span at hM
  obtain ⟨h, hM⟩ := of_chk hM
  obtain rfl := Option.some.inj hM
  refine PCall.body Tryz.func75 Tryz.ntmps75 rfl rfl rfl rfl ?_
  refine a_seq (a_region (.cons (o_assign rfl) <| .nil _) (by kernel_rfl) (by kernel_rfl) ?_)
  refine a_seq (a_seq ?_)
  refine a_isnil rfl (by decide) (by decide) (fun b hb => ?_)
  refine a_cond _ rfl (fun c => ?_) (fun c => ?_)
  · have h0 : x0 = [] := List.map_eq_nil_iff.1 (hb c)
    subst h0
    refine a_seq (a_region (.cons (o_assign rfl) <| .nil _) (by kernel_rfl) (by kernel_rfl) ?_)
    exact a_ret (a_post (.r1 (.tmp rfl)) (DLe.nils _) PostOk.nil.spec)
  · refine a_skip (a_seq (a_region (.cons (t_build CSpan.dv ([] : List CSpan) rfl rfl rfl rfl rfl rfl rfl) <| .cons (o_move rfl) <| .cons (t_append x0 h rfl rfl rfl Src.sl) <| .cons (o_assign rfl) <| .nil _) (by kernel_rfl) (by kernel_rfl) ?_))
    refine a_imp (Imp.freeze (id := 7) rfl) ?_
    exact a_ret (a_post (.r1 (.tmp rfl)) (DLe.refl _) PostOk.nil.spec)
def CColl_Copy_a_K1 (a4 : List CPart) : Option CColl :=
  some (CColl.mk a4)
def CColl_Copy_a_L2 (k5 : Nat) (a6 : List CPart) : Option (List CPart) :=
  (idx a6 (k5 : Int)).bind fun v11 =>
  (collect_cloneAll v11.gentries).bind fun v13 =>
  (idx a6 (k5 : Int)).bind fun v15 =>
  (idx (List.set a6 (Int.toNat (k5 : Int)) (CPart.mk v13 v15.glost v15.gknown v15.gtotal)) (k5 : Int)).bind fun v17 =>
  (slices_Clone_collect_span_collect_span v17.glost).bind fun v19 =>
  (idx (List.set a6 (Int.toNat (k5 : Int)) (CPart.mk v13 v15.glost v15.gknown v15.gtotal)) (k5 : Int)).bind fun v21 =>
  some (List.set (List.set a6 (Int.toNat (k5 : Int)) (CPart.mk v13 v15.glost v15.gknown v15.gtotal)) (Int.toNat (k5 : Int)) (CPart.mk v21.gentries v19 v21.gknown v21.gtotal))
def CColl_Copy_a (o0 : CColl) : Option CColl :=
  (slices_Clone_collect_part_collect_part_r o0.gparts).bind fun v3 =>
  (foldM' 9223372036854775807 (List.length v3 : Int) (fun k5 s => CColl_Copy_a_L2 k5 s) v3).bind fun s => CColl_Copy_a_K1 s
theorem CColl_Copy_a_c {o0 : CColl} {r : CColl} (hM : CColl_Copy_a o0 = some r) : ACall Tryz.prog 27 ⟨[.ref 100000 0], [(100000, some (.blk 134 [.row 100001])), (100001, some (.row 137 4 (List.map CPart.dv o0.gparts)))], .ref 50000 0, [(50000, some (.blk 134 [.row 50001])), (50001, some (.row 137 4 (List.map CPart.dv r.gparts))), (100000, some (.blk 134 [.row 100001])), (100001, some (.row 137 4 (List.map CPart.dv o0.gparts)))], [50000, 50001]⟩ := by
  unfold CColl_Copy_a at hM
  refine ACall.body Tryz.func27 Tryz.ntmps27 rfl rfl rfl rfl ?_
  refine a_seq (ar (.cons (o_assign rfl) <| .nil _) ?_)
  refine a_seq (a_seq (ar (.cons (o_move rfl) <| .cons (o_ptr_eq rfl) <| .nil _) ?_))
  refine a_cond _ rfl (fun c => by cases c) (fun _ => ?_)
  refine a_skip (a_seq ?_)
  obtain ⟨v3, h2, hM⟩ := of_bind hM
  refine ar (.cons (o_move rfl) <| .cons (o_nilCheck rfl) <| .cons (o_fieldAddr rfl) <| .cons (o_load_s rfl rfl rfl) <| .cons (o_callN (fun i => bif Nat.beq i 50000 then 11 else bif Nat.beq i 100000 then 100001 else i) 1 (slices_Clone_collect_part_collect_part_r_c h2) rfl (DLeL.refl _) (.cons rfl .nil) rfl (.cons rfl .nil)) <| .cons (o_build rfl rfl rfl) <| .cons (o_box rfl rfl) <| .cons (o_assign rfl) <| .nil _) ?_
  refine a_cut (α := (List CPart)) (fun s => ⟨[(3, .ref 13 0)], [(13, some (.blk 134 [.row 10001])), (10001, some (.row 137 4 (List.map CPart.dv s))), (100000, some (.blk 134 [.row 100001])), (100001, some (.row 137 4 (List.map CPart.dv o0.gparts)))], [13, 10001, 100000, 100001]⟩) (fun s => CColl_Copy_a_K1 s = some r) ?_ ?_
  · refine a_seq (ar (.cons (o_move rfl) <| .cons (o_nilCheck rfl) <| .cons (o_fieldAddr rfl) <| .cons (o_load_s rfl rfl rfl) <| .cons (t_len_r rfl rfl) <| .cons (o_move rfl) <| .nil _) ?_)
    obtain ⟨a6, hL7, hK7⟩ := of_bind hM
    refine a_block ?_
    refine a_fold (fun k5 (s : (List CPart)) => ⟨[(3, .ref 13 0), (18, .int .i64 (List.length v3 : Int)), (19, .int .i64 (k5 : Int))], [(13, some (.blk 134 [.row 10002])), (10002, some (.row 137 4 (List.map CPart.dv s))), (100000, some (.blk 134 [.row 100001])), (100001, some (.row 137 4 (List.map CPart.dv o0.gparts)))], [13, 10002, 100000, 100001]⟩) _ hL7 (Imp.sh (fun i => bif Nat.beq i 10002 then 11 else i) rfl rfl rfl rfl rfl rfl) ?_ ?_
    · rintro k5 a6 t8 hk5 hx5 hM
      replace hM : CColl_Copy_a_L2 k5 a6 = some t8 := hM
      unfold CColl_Copy_a_L2 at hM
      refine a_seq (ar (.cons (o_int rfl rfl rfl) <| .nil _) ?_)
      refine a_seq ?_
      refine a_cond _ rfl (fun _ => ?_) (fun c => absurd hk5 (of_decide_eq_false c))
      refine a_skip (a_seq (a_block (a_seq (ar (.cons (o_move rfl) <| .cons (o_assign rfl) <| .nil _) ?_))))
      refine a_seq ?_
      obtain ⟨v11, h10, hM⟩ := of_bind hM
      obtain ⟨v13, h12, hM⟩ := of_bind hM
      obtain ⟨v15, h14, hM⟩ := of_bind hM
      refine ad mixed (.cons (o_move rfl) <| .cons (o_nilCheck rfl) <| .cons (o_fieldAddr rfl) <| .cons (o_load_s rfl rfl rfl) <| .cons (o_move rfl) <| .cons (o_move rfl) <| .cons (o_nilCheck rfl) <| .cons (o_fieldAddr rfl) <| .cons (o_load_s rfl rfl rfl) <| .cons (o_move rfl) <| .cons (t_index_r h10 rfl rfl rfl) <| .cons (o_fieldAddr_p rfl) <| .cons (t_load_ps h10 rfl rfl rfl rfl) <| .cons (o_call (collect_cloneAll_c h12) rfl (DLeL.refl _) rfl) <| .cons (t_index_r h14 rfl rfl rfl) <| .cons (o_fieldAddr_p rfl) <| .cons (t_store_p (CPart.mk v13 v15.glost v15.gknown v15.gtotal) h14 rfl rfl rfl rfl rfl rfl rfl rfl rfl rfl rfl) <| .nil _) ?_
      obtain ⟨v17, h16, hM⟩ := of_bind hM
      obtain ⟨v19, h18, hM⟩ := of_bind hM
      obtain ⟨v21, h20, hM⟩ := of_bind hM
      refine ad mixed (.cons (o_move rfl) <| .cons (o_nilCheck rfl) <| .cons (o_fieldAddr rfl) <| .cons (o_load_s rfl rfl rfl) <| .cons (o_move rfl) <| .cons (o_move rfl) <| .cons (o_nilCheck rfl) <| .cons (o_fieldAddr rfl) <| .cons (o_load_s rfl rfl rfl) <| .cons (o_move rfl) <| .cons (t_index_r h16 rfl rfl rfl) <| .cons (o_fieldAddr_p rfl) <| .cons (t_load_ps h16 rfl rfl rfl rfl) <| .cons (o_call (slices_Clone_collect_span_collect_span_p_c h18) rfl (DLeL.refl _) rfl) <| .cons (t_index_r h20 rfl rfl rfl) <| .cons (o_fieldAddr_p rfl) <| .cons (t_store_p (CPart.mk v21.gentries v19 v21.gknown v21.gtotal) h20 rfl rfl rfl rfl rfl rfl rfl rfl rfl rfl rfl) <| .nil _) ?_
      refine ar (.cons (o_add rfl rfl (inR_i64 hk5 hx5)) <| .cons (o_move rfl) <| .nil _) ?_
      obtain rfl := Option.some.inj hM
      exact (Imp.of (fun i => i) (.cons rfl (DLe.refl _) (.cons rfl (DLe.refl _) (.cons rfl (DLe.succ _ _) .nil))) (.cons rfl (.refl _) (.cons rfl (.refl _) (.cons rfl (.refl _) (.cons rfl (.refl _) .nil)))) rfl rfl rfl)
    · rintro k5 hk5 hx5
      refine a_seq (ar (.cons (o_int rfl rfl rfl) <| .nil _) ?_)
      refine a_seq ?_
      refine a_cond _ rfl (fun c => absurd (of_decide_eq_true c) (Int.not_lt.2 hk5)) (fun _ => ?_)
      refine a_exit ?_
      exact ⟨a6, hK7, (Imp.sh (fun i => bif Nat.beq i 10001 then 10002 else i) rfl rfl rfl rfl rfl rfl)⟩
  · rintro a4 hM
    replace hM : CColl_Copy_a_K1 a4 = some r := hM
    unfold CColl_Copy_a_K1 at hM
    refine a_seq (ar (.cons (o_move rfl) <| .cons (o_assign rfl) <| .nil _) ?_)
    obtain rfl := Option.some.inj hM
    refine a_imp (σ' := ⟨[(2, .ref 50000 0)], [(50000, some (.blk 134 [.row 50001])), (50001, some (.row 137 4 (List.map CPart.dv ((CColl.mk a4).gparts)))), (100000, some (.blk 134 [.row 100001])), (100001, some (.row 137 4 (List.map CPart.dv o0.gparts)))], [50000, 50001, 100000, 100001]⟩) (Imp.sh (fun i => bif Nat.beq i 50001 then 10001 else bif Nat.beq i 50000 then 13 else i) rfl rfl rfl rfl rfl rfl) ?_
    exact a_ret (a_post (.r1 (.tmp rfl)) (DLe.refl _) (PostOk.spec (.cons rfl (.cons rfl (.cons rfl (.cons rfl .nil))))))
def w30_CollectKeeps_K2 : Option Bool :=
  some true
def w30_CollectKeeps_K4 : Option (Ctl Unit Bool) :=
  some (.next ())
def w30_CollectKeeps_K7 : Option (Ctl Unit Bool) :=
  some (.next ())
def w30_CollectKeeps_L8 (v18 : (List RRec)) (v34 : Nat → Int) (k35 : Nat) : Option (Ctl Unit Bool) :=
  (idx v18 (k35 : Int)).bind fun v40 =>
  if ((decide ((v34 0) ≤ v40.gSeq)) && (decide ((IntKind.wrap .u64 (v40.gSeq - (v34 0))) < (v34 1)))) = true then
    some (.done false)
  else
    some (.next ())
def w30_CollectKeeps_L6 (v18 : (List RRec)) (v28 : (List (Nat → Int))) (k29 : Nat) : Option (Ctl Unit Bool) :=
  (idx v28 (k29 : Int)).bind fun v34 =>
  (forM' (E := Bool) 9223372036854775807 (List.length v18 : Int) (fun k35 s => w30_CollectKeeps_L8 v18 v34 k35) ()).bind fun
    | .next s => w30_CollectKeeps_K7
    | .done r => some (.done r)
def w30_CollectKeeps_K5 (v9 : CColl) (a12 : List CPart) (k13 : Nat) (v18 : (List RRec)) (a21 : Int) : Option (Ctl Unit Bool) :=
  (CColl_Total_a (k13 : Int) v9).bind fun v23 =>
  (CColl_Total_a (k13 : Int) (CColl.mk a12)).bind fun v25 =>
  if ((a21 != (List.length v18 : Int)) || (v23.2 && ((!v25.2) || (v23.1 != v25.1)))) = true then
    some (.done false)
  else
    (CColl_Missing_a (k13 : Int) (CColl.mk a12)).bind fun v28 =>
    (forM' (E := Bool) 9223372036854775807 (List.length v28 : Int) (fun k29 s => w30_CollectKeeps_L6 v18 v28 k29) ()).bind fun
      | .next s => w30_CollectKeeps_K4
      | .done r => some (.done r)
def w30_CollectKeeps_L9 (v18 : (List RRec)) (v20 : (List RRec)) (k42 : Nat) (a43 : Int) : Option Int :=
  (idx v20 (k42 : Int)).bind fun v48 =>
  (gb (decide (a43 < (List.length v18 : Int))) (RRec.mk 0 0 (VClk.mk (arr 0 [])) 0 (AEv.mk 0 0 0 0 0 0 0 0 []) 0) (idx v18 a43)).bind fun v50 =>
  (gb (decide (a43 < (List.length v18 : Int))) (false) (record_Equal v50 v48)).bind fun v52 =>
  if ((decide (a43 < (List.length v18 : Int))) && v52) = true then
    some (IntKind.wrap .i64 (a43 + 1))
  else
    some a43
def w30_CollectKeeps_L3 (v9 : CColl) (a12 : List CPart) (k13 : Nat) : Option (Ctl Unit Bool) :=
  (CColl_Records_a (k13 : Int) v9).bind fun v18 =>
  (CColl_Records_a (k13 : Int) (CColl.mk a12)).bind fun v20 =>
  (foldM' 9223372036854775807 (List.length v20 : Int) (fun k42 s => w30_CollectKeeps_L9 v18 v20 k42 s) 0).bind fun s => w30_CollectKeeps_K5 v9 a12 k13 v18 s
def w30_CollectKeeps_K1 (v2_0 : CColl × (List e30_Known)) (v9 : CColl) (a12 : List CPart) : Option Bool :=
  (forM' (E := Bool) 9223372036854775807 (List.length v2_0.2 : Int) (fun k13 s => w30_CollectKeeps_L3 v9 a12 k13) ()).bind fun
    | .next s => w30_CollectKeeps_K2
    | .done r => some r
def w30_CollectKeeps_L10 (x2 : List w30_File) (v2_0 : CColl × (List e30_Known)) (a54 : Int) (a55 : List CPart) : Option (Ctl (Int × (List CPart)) (List CPart)) :=
  if ((decide (a54 < (List.length x2 : Int))) && (decide (a54 < 8))) = true then
    (idx x2 a54).bind fun v60 =>
    (w30_File_bytes v60 (IntKind.wrap .i64 ((List.length v2_0.2 : Int) - 1))).bind fun v62 =>
    (CColl_Add_a v62.1 v62.2.1 (CColl.mk a55)).bind fun v64 =>
    some (.next ((IntKind.wrap .i64 (a54 + 1)), v64.2.gparts))
  else
    some (.done a55)
def w30_CollectKeeps (x0 : Int) (x1 : List w30_File) (x2 : List w30_File) : Option Bool :=
  (w30_collected x0 x1).bind fun v2 =>
  match v2 with
  | .inl v2_0 =>
    (w30_collected x0 x2).bind fun v4 =>
    match v4 with
    | .inl v4_0 =>
      (w30_awake).bind fun v6 =>
      if (((!v6) || false) || false) = true then
        some false
      else
        (CColl_Copy_a v2_0.1).bind fun v9 =>
        (CColl_Merge_a v2_0.1 v4_0.1).bind fun v11 =>
        (whileM (E := (List CPart)) (fun s => w30_CollectKeeps_L10 x2 v2_0 s.1 s.2) (0, v11.2.gparts)).bind fun e => w30_CollectKeeps_K1 v2_0 v9 e
    | .inr v4_1 =>
      none
  | .inr v2_1 =>
    none
theorem w30_CollectKeeps_c {x0 : Int} {x1 : List w30_File} {x2 : List w30_File} {r : Bool} (hM : w30_CollectKeeps x0 x1 x2 = some r) : PCall Tryz.prog 7 [.int .u8 x0, .sl 2 (List.map w30_File.dv x1), .sl 2 (List.map w30_File.dv x2)] (.bool r) := by
  unfold w30_CollectKeeps at hM
  refine PCall.body Tryz.func7 Tryz.ntmps7 rfl rfl rfl rfl ?_
  refine a_seq (ar (.cons (o_assign rfl) <| .nil _) ?_)
  refine a_seq ?_
  obtain ⟨v2, h1, hM⟩ := of_bind hM
  rcases v2 with v2_0 | v2_1
  · refine ar (.cons (o_move rfl) <| .cons (o_move rfl) <| .cons (o_callN (fun i => bif Nat.beq i 50002 then 10003 else bif Nat.beq i 50001 then 10002 else bif Nat.beq i 50000 then 10001 else i) 3 (w30_collected_c0 h1) rfl (DLeL.refl _) .nil rfl .nil) <| .cons (o_move rfl) <| .cons (o_extract rfl rfl) <| .cons (o_extract rfl rfl) <| .cons (o_assign rfl) <| .cons (o_assign rfl) <| .nil _) ?_
    refine a_seq ?_
    obtain ⟨v4, h3, hM⟩ := of_bind hM
    rcases v4 with v4_0 | v4_1
    · refine ar (.cons (o_move rfl) <| .cons (o_move rfl) <| .cons (o_callN (fun i => bif Nat.beq i 50002 then 10006 else bif Nat.beq i 50001 then 10005 else bif Nat.beq i 50000 then 10004 else i) 3 (w30_collected_c0 h3) rfl (DLeL.refl _) .nil rfl .nil) <| .cons (o_move rfl) <| .cons (o_extract rfl rfl) <| .cons (o_extract rfl rfl) <| .cons (o_assign rfl) <| .cons (o_assign rfl) <| .nil _) ?_
      refine a_seq (a_seq ?_)
      obtain ⟨v6, h5, hM⟩ := of_bind hM
      refine ar (.cons (o_call (w30_awake_c h5) rfl (DLeL.refl _) rfl) <| .cons (o_not rfl) <| .cons (o_move rfl) <| .cons (o_guardG .bF rfl rfl (fun hb => (.keep .nil)) (fun hb => o_move rfl)) <| .cons (o_guardG .bF rfl rfl (fun hb => (.strip rfl hb .nil)) (fun hb => o_ptr_eq rfl)) <| .cons (o_or rfl rfl) <| .cons (o_move rfl) <| .cons (o_guardG .bF rfl rfl (fun hb => (.keep .nil)) (fun hb => o_move rfl)) <| .cons (o_guardG .bF rfl rfl (fun hb => (.strip rfl hb .nil)) (fun hb => o_ptr_eq rfl)) <| .cons (o_or rfl rfl) <| .nil _) ?_
      refine a_cond _ rfl (fun h7 => ?_) (fun h7 => ?_)
      · replace hM := (of_if hM).1 h7
        refine a_seq (ar (.cons (o_assign rfl) <| .nil _) ?_)
        obtain rfl := Option.some.inj hM
        exact a_ret (a_post (.r1 (.tmp rfl)) (DLe.refl _) PostOk.nil.spec)
      · replace hM := (of_if hM).2 h7
        refine a_skip (a_seq ?_)
        obtain ⟨v9, h8, hM⟩ := of_bind hM
        refine ar (.cons (o_move rfl) <| .cons (o_callN (fun i => bif Nat.beq i 50001 then 10008 else bif Nat.beq i 50000 then 10007 else bif Nat.beq i 100000 then 10001 else bif Nat.beq i 100001 then 10002 else i) 2 (CColl_Copy_a_c h8) rfl (DLeL.refl _) (.cons rfl (.cons rfl .nil)) rfl (.cons rfl (.cons rfl .nil))) <| .cons (o_assign rfl) <| .nil _) ?_
        refine a_seq ?_
        obtain ⟨v11, h10, hM⟩ := of_bind hM
        refine ar (.cons (o_move rfl) <| .cons (o_move rfl) <| .cons (o_callN (fun i => bif Nat.beq i 50000 then 10009 else bif Nat.beq i 100000 then 10001 else bif Nat.beq i 100001 then 10002 else bif Nat.beq i 100002 then 10004 else bif Nat.beq i 100003 then 10005 else i) 3 (CColl_Merge_a_c h10) rfl (DLeL.refl _) (.cons rfl (.cons rfl (.cons rfl (.cons rfl .nil)))) rfl (.cons rfl (.cons rfl .nil))) <| .nil _) ?_
        refine a_cut (α := (List CPart)) (fun s => ⟨[(7, .ref 10001 0), (8, .sl 97 (List.map e30_Known.dv v2_0.2)), (11, .ref 10007 0)], [(10001, some (.blk 134 [.row 10010])), (10007, some (.blk 134 [.row 10011])), (10010, some (.row 137 4 (List.map CPart.dv s))), (10011, some (.row 137 4 (List.map CPart.dv v9.gparts)))], [10001, 10007, 10010, 10011]⟩) (fun s => w30_CollectKeeps_K1 v2_0 v9 s = some r) ?_ ?_
        · refine a_seq (ar (.cons (o_assign rfl) <| .nil _) ?_)
          obtain ⟨e56, hL56, hK56⟩ := of_bind hM
          refine a_block (a_while (fun s : Int × (List CPart) => ⟨[(2, .sl 2 (List.map w30_File.dv x2)), (7, .ref 10001 0), (8, .sl 97 (List.map e30_Known.dv v2_0.2)), (11, .ref 10007 0), (12, .int .i64 s.1)], [(10001, some (.blk 134 [.row 10026])), (10007, some (.blk 134 [.row 10027])), (10026, some (.row 137 4 (List.map CPart.dv s.2))), (10027, some (.row 137 4 (List.map CPart.dv v9.gparts)))], [10001, 10007, 10026, 10027]⟩) _ hL56 ((Imp.freeze (id := 10003) rfl).trans (Imp.sh (fun i => bif Nat.beq i 10027 then 10008 else bif Nat.beq i 10026 then 10009 else i) rfl rfl rfl rfl rfl rfl)) ?_)
          rintro ⟨a54, a55⟩ t57 hM hE56
          replace hM : w30_CollectKeeps_L10 x2 v2_0 a54 a55 = some t57 := hM
          unfold w30_CollectKeeps_L10 at hM
          refine a_seq (a_seq (ar (.cons (o_move rfl) <| .cons (o_move rfl) <| .cons (t_len rfl) <| .cons (o_int rfl rfl rfl) <| .cons (o_move rfl) <| .cons (o_guardG .bT rfl rfl (fun hb => (.keep .nil)) (fun hb => o_move rfl)) <| .cons (o_guardG .bT rfl rfl (fun hb => (.strip rfl hb .nil)) (fun hb => o_int rfl rfl rfl)) <| .cons (o_and rfl rfl) <| .nil _) ?_))
          refine a_cond _ rfl (fun h58 => ?_) (fun h58 => ?_)
          · replace hM := (of_if hM).1 h58
            refine a_skip (a_seq (a_block (a_seq ?_)))
            obtain ⟨v60, h59, hM⟩ := of_bind hM
            obtain ⟨v62, h61, hM⟩ := of_bind hM
            refine ar (.cons (o_move rfl) <| .cons (o_move rfl) <| .cons (t_index h59 rfl rfl rfl) <| .cons (o_load_er rfl rfl rfl) <| .cons (o_move rfl) <| .cons (t_len rfl) <| .cons (o_int rfl rfl rfl) <| .cons (o_callN (fun i => bif Nat.beq i 50001 then 10029 else bif Nat.beq i 50000 then 10028 else i) 2 (w30_File_bytes_c h61) rfl (DLeL.refl _) .nil rfl .nil) <| .cons (o_move rfl) <| .cons (o_extract rfl rfl) <| .cons (o_extract rfl rfl) <| .cons (o_extract rfl rfl) <| .cons (o_assign rfl) <| .cons (o_assign rfl) <| .cons (o_assign rfl) <| .nil _) ?_
            refine a_imp (Imp.freeze (id := 10028) rfl) ?_
            obtain ⟨v64, h63, hM⟩ := of_bind hM
            refine ar (.cons (o_move rfl) <| .cons (o_move rfl) <| .cons (o_move rfl) <| .cons (o_callN (fun i => bif Nat.beq i 50000 then 10030 else bif Nat.beq i 100000 then 10001 else bif Nat.beq i 100001 then 10026 else i) 3 (CColl_Add_a_c h63) rfl (DLeL.refl _) (.cons rfl (.cons rfl .nil)) rfl .nil) <| .nil _) ?_
            refine ar (.cons (o_move rfl) <| .cons (o_int rfl rfl rfl) <| .cons (o_assign rfl) <| .nil _) ?_
            obtain rfl := Option.some.inj hM
            exact ⟨((IntKind.wrap .i64 (a54 + 1)), v64.2.gparts), rfl, (Imp.sh (fun i => bif Nat.beq i 10026 then 10030 else i) rfl rfl rfl rfl rfl rfl)⟩
          · replace hM := (of_if hM).2 h58
            refine a_exit ?_
            obtain rfl := Option.some.inj hM
            obtain rfl := hE56 _ rfl
            exact ⟨a55, hK56, (Imp.sh (fun i => bif Nat.beq i 10011 then 10027 else bif Nat.beq i 10010 then 10026 else i) rfl rfl rfl rfl rfl rfl)⟩
        · rintro a12 hM
          replace hM : w30_CollectKeeps_K1 v2_0 v9 a12 = some r := hM
          unfold w30_CollectKeeps_K1 at hM
          refine a_cut (α := Unit) (fun s => ⟨[], [], []⟩) (fun s => w30_CollectKeeps_K2 = some r) ?_ ?_
          · refine a_seq (ar (.cons (o_move rfl) <| .cons (t_len rfl) <| .cons (o_move rfl) <| .nil _) ?_)
            obtain ⟨t14, hL14, hK14⟩ := of_bind hM
            refine a_block ?_
            refine a_for (fun k13 (s : Unit) => ⟨[(7, .ref 10001 0), (11, .ref 10007 0), (84, .int .i64 (List.length v2_0.2 : Int)), (85, .int .i64 (k13 : Int))], [(10001, some (.blk 134 [.row 10012])), (10007, some (.blk 134 [.row 10013])), (10012, some (.row 137 4 (List.map CPart.dv a12))), (10013, some (.row 137 4 (List.map CPart.dv v9.gparts)))], [10001, 10007, 10012, 10013]⟩) _ hL14 (Imp.sh (fun i => bif Nat.beq i 10013 then 10011 else bif Nat.beq i 10012 then 10010 else i) rfl rfl rfl rfl rfl rfl) ?_ ?_
            · rintro k13 _ t15 hk13 hx13 hM hE14
              replace hM : w30_CollectKeeps_L3 v9 a12 k13 = some t15 := hM
              unfold w30_CollectKeeps_L3 at hM
              refine a_seq (ar (.cons (o_int rfl rfl rfl) <| .nil _) ?_)
              refine a_seq ?_
              refine a_cond _ rfl (fun _ => ?_) (fun c => absurd hk13 (of_decide_eq_false c))
              refine a_skip ?_
              refine a_cut (α := Unit) (fun s => ⟨[(7, .ref 10001 0), (11, .ref 10007 0), (84, .int .i64 (List.length v2_0.2 : Int)), (85, .int .i64 (k13 : Int))], [(10001, some (.blk 134 [.row 10014])), (10007, some (.blk 134 [.row 10015])), (10014, some (.row 137 4 (List.map CPart.dv a12))), (10015, some (.row 137 4 (List.map CPart.dv v9.gparts)))], [10001, 10007, 10014, 10015]⟩) (fun s => w30_CollectKeeps_K4 = some t15) ?_ ?_
              · refine a_block (a_seq (ar (.cons (o_move rfl) <| .cons (o_assign rfl) <| .nil _) ?_))
                refine a_seq ?_
                obtain ⟨v18, h17, hM⟩ := of_bind hM
                obtain ⟨v20, h19, hM⟩ := of_bind hM
                refine ar (.cons (o_move rfl) <| .cons (o_move rfl) <| .cons (o_callN (fun i => bif Nat.beq i 100000 then 10007 else bif Nat.beq i 100001 then 10013 else i) 0 (CColl_Records_a_c h17) rfl (DLeL.refl _) (.cons rfl (.cons rfl .nil)) rfl (.cons rfl (.cons rfl .nil))) <| .cons (o_move rfl) <| .cons (o_move rfl) <| .cons (o_callN (fun i => bif Nat.beq i 100000 then 10001 else bif Nat.beq i 100001 then 10012 else i) 0 (CColl_Records_a_c h19) rfl (DLeL.refl _) (.cons rfl (.cons rfl .nil)) rfl (.cons rfl (.cons rfl .nil))) <| .cons (o_assign rfl) <| .cons (o_assign rfl) <| .nil _) ?_
                refine a_seq (ar (.cons (o_assign rfl) <| .nil _) ?_)
                refine a_cut (α := Int) (fun s => ⟨[(7, .ref 10001 0), (11, .ref 10007 0), (16, .int .i64 (k13 : Int)), (17, .sl 29 (List.map RRec.dv v18)), (19, .int .i64 s), (84, .int .i64 (List.length v2_0.2 : Int)), (85, .int .i64 (k13 : Int))], [(10001, some (.blk 134 [.row 10016])), (10007, some (.blk 134 [.row 10017])), (10016, some (.row 137 4 (List.map CPart.dv a12))), (10017, some (.row 137 4 (List.map CPart.dv v9.gparts)))], [10001, 10007, 10016, 10017]⟩) (fun s => w30_CollectKeeps_K5 v9 a12 k13 v18 s = some t15) ?_ ?_
                · refine a_seq (ar (.cons (o_move rfl) <| .cons (t_len rfl) <| .cons (o_move rfl) <| .nil _) ?_)
                  obtain ⟨a43, hL44, hK44⟩ := of_bind hM
                  refine a_block ?_
                  refine a_fold (fun k42 (s : Int) => ⟨[(7, .ref 10001 0), (11, .ref 10007 0), (16, .int .i64 (k13 : Int)), (17, .sl 29 (List.map RRec.dv v18)), (19, .int .i64 s), (84, .int .i64 (List.length v2_0.2 : Int)), (85, .int .i64 (k13 : Int)), (94, .sl 29 (List.map RRec.dv v20)), (95, .int .i64 (List.length v20 : Int)), (96, .int .i64 (k42 : Int))], [(10001, some (.blk 134 [.row 10024])), (10007, some (.blk 134 [.row 10025])), (10024, some (.row 137 4 (List.map CPart.dv a12))), (10025, some (.row 137 4 (List.map CPart.dv v9.gparts)))], [10001, 10007, 10024, 10025]⟩) _ hL44 (Imp.sh (fun i => bif Nat.beq i 10025 then 10013 else bif Nat.beq i 10024 then 10012 else i) rfl rfl rfl rfl rfl rfl) ?_ ?_
                  · rintro k42 a43 t45 hk42 hx42 hM
                    replace hM : w30_CollectKeeps_L9 v18 v20 k42 a43 = some t45 := hM
                    unfold w30_CollectKeeps_L9 at hM
                    refine a_seq (ar (.cons (o_int rfl rfl rfl) <| .nil _) ?_)
                    refine a_seq ?_
                    refine a_cond _ rfl (fun _ => ?_) (fun c => absurd hk42 (of_decide_eq_false c))
                    refine a_skip (a_seq (a_block (a_seq ?_)))
                    obtain ⟨v48, h47, hM⟩ := of_bind hM
                    refine ar (.cons (t_index h47 rfl rfl rfl) <| .cons (o_load_er rfl rfl rfl) <| .cons (o_alloc rfl) <| .cons (o_store rfl rfl rfl rfl rfl rfl rfl) <| .nil _) ?_
                    refine a_seq ?_
                    obtain ⟨v50, h49, hM⟩ := of_bind hM
                    obtain ⟨v52, h51, hM⟩ := of_bind hM
                    refine ad mixed (.cons (o_move rfl) <| .cons (o_move rfl) <| .cons (t_len rfl) <| .cons (o_int rfl rfl rfl) <| .cons (o_move rfl) <| .cons (o_guardG .bT rfl rfl (fun hb => (.keep .nil)) (fun hb => o_move rfl)) <| .cons (o_guardG .bT rfl rfl (fun hb => (.keep .nil)) (fun hb => o_move rfl)) <| .cons (o_guardG .bT rfl rfl (fun hb => (.strip rfl hb (.strip rfl hb .nil))) (fun hb => t_index (of_gb h49 hb) rfl rfl rfl)) <| .cons (o_guardG .bT rfl rfl (fun hb => (.strip rfl hb .nil)) (fun hb => o_load_er rfl rfl rfl)) <| .cons (o_guardG .bT rfl rfl (fun hb => (.keep .nil)) (fun hb => o_load_r rfl rfl rfl rfl)) <| .cons (o_guardG .bT rfl rfl (fun hb => (.strip rfl hb (.strip rfl hb .nil))) (fun hb => o_call (record_Equal_c (of_gb h51 hb)) rfl (DLeL.refl _) rfl)) <| .cons (o_and rfl rfl) <| .nil _) ?_
                    refine a_cond _ rfl (fun h53 => ?_) (fun h53 => ?_)
                    · replace hM := (of_if hM).1 h53
                      refine ar (.cons (o_move rfl) <| .cons (o_int rfl rfl rfl) <| .cons (o_assign rfl) <| .nil _) ?_
                      refine ar (.cons (o_add rfl rfl (inR_i64 hk42 hx42)) <| .cons (o_move rfl) <| .nil _) ?_
                      obtain rfl := Option.some.inj hM
                      exact (Imp.of (fun i => i) (.cons rfl (DLe.refl _) (.cons rfl (DLe.refl _) (.cons rfl (DLe.refl _) (.cons rfl (DLe.refl _) (.cons rfl (DLe.refl _) (.cons rfl (DLe.refl _) (.cons rfl (DLe.refl _) (.cons rfl (DLe.refl _) (.cons rfl (DLe.refl _) (.cons rfl (DLe.succ _ _) .nil)))))))))) (.cons rfl (.refl _) (.cons rfl (.refl _) (.cons rfl (.refl _) (.cons rfl (.refl _) .nil)))) rfl rfl rfl)
                    · replace hM := (of_if hM).2 h53
                      refine a_skip (ar (.cons (o_add rfl rfl (inR_i64 hk42 hx42)) <| .cons (o_move rfl) <| .nil _) ?_)
                      obtain rfl := Option.some.inj hM
                      exact (Imp.of (fun i => i) (.cons rfl (DLe.refl _) (.cons rfl (DLe.refl _) (.cons rfl (DLe.refl _) (.cons rfl (DLe.refl _) (.cons rfl (DLe.refl _) (.cons rfl (DLe.refl _) (.cons rfl (DLe.refl _) (.cons rfl (DLe.refl _) (.cons rfl (DLe.refl _) (.cons rfl (DLe.succ _ _) .nil)))))))))) (.cons rfl (.refl _) (.cons rfl (.refl _) (.cons rfl (.refl _) (.cons rfl (.refl _) .nil)))) rfl rfl rfl)
                  · rintro k42 hk42 hx42
                    refine a_seq (ar (.cons (o_int rfl rfl rfl) <| .nil _) ?_)
                    refine a_seq ?_
                    refine a_cond _ rfl (fun c => absurd (of_decide_eq_true c) (Int.not_lt.2 hk42)) (fun _ => ?_)
                    refine a_exit ?_
                    exact ⟨a43, hK44, (Imp.sh (fun i => bif Nat.beq i 10017 then 10025 else bif Nat.beq i 10016 then 10024 else i) rfl rfl rfl rfl rfl rfl)⟩
                · rintro a21 hM
                  replace hM : w30_CollectKeeps_K5 v9 a12 k13 v18 a21 = some t15 := hM
                  unfold w30_CollectKeeps_K5 at hM
                  refine a_seq ?_
                  obtain ⟨v23, h22, hM⟩ := of_bind hM
                  refine ar (.cons (o_move rfl) <| .cons (o_move rfl) <| .cons (o_callN (fun i => bif Nat.beq i 100000 then 10007 else bif Nat.beq i 100001 then 10017 else i) 0 (CColl_Total_a_c h22) rfl (DLeL.refl _) (.cons rfl (.cons rfl .nil)) rfl (.cons rfl (.cons rfl .nil))) <| .cons (o_move rfl) <| .cons (o_extract rfl rfl) <| .cons (o_extract rfl rfl) <| .cons (o_assign rfl) <| .cons (o_assign rfl) <| .nil _) ?_
                  refine a_seq ?_
                  obtain ⟨v25, h24, hM⟩ := of_bind hM
                  refine ar (.cons (o_move rfl) <| .cons (o_move rfl) <| .cons (o_callN (fun i => bif Nat.beq i 100000 then 10001 else bif Nat.beq i 100001 then 10016 else i) 0 (CColl_Total_a_c h24) rfl (DLeL.refl _) (.cons rfl (.cons rfl .nil)) rfl (.cons rfl (.cons rfl .nil))) <| .cons (o_move rfl) <| .cons (o_extract rfl rfl) <| .cons (o_extract rfl rfl) <| .cons (o_assign rfl) <| .cons (o_assign rfl) <| .nil _) ?_
                  refine a_seq (a_seq (ar (.cons (o_move rfl) <| .cons (o_move rfl) <| .cons (t_len rfl) <| .cons (o_int rfl rfl rfl) <| .cons (o_move rfl) <| .cons (o_guardG .bF rfl rfl (fun hb => (.keep .nil)) (fun hb => o_move rfl)) <| .cons (o_guardG .bF rfl rfl (fun hb => (.strip rfl hb .nil)) (fun hb => o_move rfl)) <| .cons (o_guardG .iT rfl rfl (fun hb => (.keep .nil)) (fun hb => o_move rfl)) <| .cons (o_guardG .iT rfl rfl (fun hb => (.strip rfl hb .nil)) (fun hb => o_not rfl)) <| .cons (o_guardG .iT rfl rfl (fun hb => (.strip rfl hb .nil)) (fun hb => o_move rfl)) <| .cons (o_guardG .iF rfl rfl (fun hb => (.keep .nil)) (fun hb => o_move rfl)) <| .cons (o_guardG .iF rfl rfl (fun hb => (.keep .nil)) (fun hb => o_move rfl)) <| .cons (o_guardG .iF rfl rfl (fun hb => (.strip rfl hb (.strip rfl hb .nil))) (fun hb => o_int rfl rfl rfl)) <| .cons (o_guardG .iT rfl rfl (fun hb => (.strip rfl hb (.half rfl hb .nil))) (fun hb => o_or rfl rfl)) <| .cons (o_guardG .bF rfl rfl (fun hb => (.strip rfl hb (.half rfl hb .nil))) (fun hb => o_and rfl rfl)) <| .cons (o_or rfl rfl) <| .nil _) ?_))
                  refine a_cond _ rfl (fun h26 => ?_) (fun h26 => ?_)
                  · replace hM := (of_if hM).1 h26
                    refine a_seq (ar (.cons (o_assign rfl) <| .nil _) ?_)
                    obtain rfl := Option.some.inj hM
                    obtain rfl := hE14 _ rfl
                    obtain rfl := Option.some.inj hK14
                    exact a_ret (a_post (.r1 (.tmp rfl)) (DLe.refl _) PostOk.nil.spec)
                  · replace hM := (of_if hM).2 h26
                    refine a_skip (a_seq ?_)
                    obtain ⟨v28, h27, hM⟩ := of_bind hM
                    refine ar (.cons (o_move rfl) <| .cons (o_move rfl) <| .cons (o_callN (fun i => bif Nat.beq i 100000 then 10001 else bif Nat.beq i 100001 then 10016 else i) 0 (CColl_Missing_a_c h27) rfl (DLeL.refl _) (.cons rfl (.cons rfl .nil)) rfl (.cons rfl (.cons rfl .nil))) <| .cons (t_len rfl) <| .cons (o_move rfl) <| .nil _) ?_
                    obtain ⟨t30, hL30, hK30⟩ := of_bind hM
                    refine a_block ?_
                    refine a_for (fun k29 (s : Unit) => ⟨[(7, .ref 10001 0), (11, .ref 10007 0), (17, .sl 29 (List.map RRec.dv v18)), (84, .int .i64 (List.length v2_0.2 : Int)), (85, .int .i64 (k13 : Int)), (145, .sl 2 (List.map array_2_uint64.dv v28)), (146, .int .i64 (List.length v28 : Int)), (147, .int .i64 (k29 : Int))], [(10001, some (.blk 134 [.row 10018])), (10007, some (.blk 134 [.row 10019])), (10018, some (.row 137 4 (List.map CPart.dv a12))), (10019, some (.row 137 4 (List.map CPart.dv v9.gparts)))], [10001, 10007, 10018, 10019]⟩) _ hL30 (Imp.sh (fun i => bif Nat.beq i 10019 then 10017 else bif Nat.beq i 10018 then 10016 else i) rfl rfl rfl rfl rfl rfl) ?_ ?_
                    · rintro k29 _ t31 hk29 hx29 hM hE30
                      replace hM : w30_CollectKeeps_L6 v18 v28 k29 = some t31 := hM
                      unfold w30_CollectKeeps_L6 at hM
                      refine a_seq (ar (.cons (o_int rfl rfl rfl) <| .nil _) ?_)
                      refine a_seq ?_
                      refine a_cond _ rfl (fun _ => ?_) (fun c => absurd hk29 (of_decide_eq_false c))
                      refine a_skip ?_
                      refine a_cut (α := Unit) (fun s => ⟨[(7, .ref 10001 0), (11, .ref 10007 0), (17, .sl 29 (List.map RRec.dv v18)), (84, .int .i64 (List.length v2_0.2 : Int)), (85, .int .i64 (k13 : Int)), (145, .sl 2 (List.map array_2_uint64.dv v28)), (146, .int .i64 (List.length v28 : Int)), (147, .int .i64 (k29 : Int))], [(10001, some (.blk 134 [.row 10020])), (10007, some (.blk 134 [.row 10021])), (10020, some (.row 137 4 (List.map CPart.dv a12))), (10021, some (.row 137 4 (List.map CPart.dv v9.gparts)))], [10001, 10007, 10020, 10021]⟩) (fun s => w30_CollectKeeps_K7 = some t31) ?_ ?_
                      · refine a_block (a_seq ?_)
                        obtain ⟨v34, h33, hM⟩ := of_bind hM
                        refine ar (.cons (t_index h33 rfl rfl rfl) <| .cons (o_load_er rfl rfl rfl) <| .cons (o_alloc rfl) <| .cons (o_store rfl rfl rfl rfl rfl rfl rfl) <| .nil _) ?_
                        refine a_seq (ar (.cons (o_move rfl) <| .cons (t_len rfl) <| .cons (o_move rfl) <| .nil _) ?_)
                        obtain ⟨t36, hL36, hK36⟩ := of_bind hM
                        refine a_block ?_
                        refine a_for (fun k35 (s : Unit) => ⟨[(7, .ref 10001 0), (11, .ref 10007 0), (17, .sl 29 (List.map RRec.dv v18)), (27, .ref 27 0), (84, .int .i64 (List.length v2_0.2 : Int)), (85, .int .i64 (k13 : Int)), (145, .sl 2 (List.map array_2_uint64.dv v28)), (146, .int .i64 (List.length v28 : Int)), (147, .int .i64 (k29 : Int)), (151, .sl 29 (List.map RRec.dv v18)), (152, .int .i64 (List.length v18 : Int)), (153, .int .i64 (k35 : Int))], [(27, some (.blk 80 (array_2_uint64.cs v34))), (10001, some (.blk 134 [.row 10022])), (10007, some (.blk 134 [.row 10023])), (10022, some (.row 137 4 (List.map CPart.dv a12))), (10023, some (.row 137 4 (List.map CPart.dv v9.gparts)))], [27, 10001, 10007, 10022, 10023]⟩) _ hL36 (Imp.sh (fun i => bif Nat.beq i 10023 then 10019 else bif Nat.beq i 10022 then 10018 else i) rfl rfl rfl rfl rfl rfl) ?_ ?_
                        · rintro k35 _ t37 hk35 hx35 hM hE36
                          replace hM : w30_CollectKeeps_L8 v18 v34 k35 = some t37 := hM
                          unfold w30_CollectKeeps_L8 at hM
                          refine a_seq (ar (.cons (o_int rfl rfl rfl) <| .nil _) ?_)
                          refine a_seq ?_
                          refine a_cond _ rfl (fun _ => ?_) (fun c => absurd hk35 (of_decide_eq_false c))
                          refine a_skip (a_seq (a_block (a_seq ?_)))
                          obtain ⟨v40, h39, hM⟩ := of_bind hM
                          refine ar (.cons (t_index h39 rfl rfl rfl) <| .cons (o_load_er rfl rfl rfl) <| .cons (o_alloc rfl) <| .cons (o_store rfl rfl rfl rfl rfl rfl rfl) <| .nil _) ?_
                          refine a_seq (ar (.cons (o_fieldAddr rfl) <| .cons (o_load_s rfl rfl rfl) <| .cons (o_indexAddr_a 0 rfl rfl rfl (by decide)) <| .cons (o_load_s rfl rfl rfl) <| .cons (o_int rfl rfl rfl) <| .cons (o_move rfl) <| .cons (o_guardG .bT rfl rfl (fun hb => (.keep .nil)) (fun hb => o_fieldAddr rfl)) <| .cons (o_guardG .bT rfl rfl (fun hb => (.strip rfl hb .nil)) (fun hb => o_load_s rfl rfl rfl)) <| .cons (o_guardG .bT rfl rfl (fun hb => (.keep .nil)) (fun hb => o_indexAddr_a 0 rfl rfl rfl (by decide))) <| .cons (o_guardG .bT rfl rfl (fun hb => (.strip rfl hb .nil)) (fun hb => o_load_s rfl rfl rfl)) <| .cons (o_guardG .bT rfl rfl (fun hb => (.strip rfl hb (.strip rfl hb .nil))) (fun hb => o_int rfl rfl rfl)) <| .cons (o_guardG .bT rfl rfl (fun hb => (.keep .nil)) (fun hb => o_indexAddr_a 1 rfl rfl rfl (by decide))) <| .cons (o_guardG .bT rfl rfl (fun hb => (.strip rfl hb .nil)) (fun hb => o_load_s rfl rfl rfl)) <| .cons (o_guardG .bT rfl rfl (fun hb => (.strip rfl hb (.strip rfl hb .nil))) (fun hb => o_int rfl rfl rfl)) <| .cons (o_and rfl rfl) <| .nil _) ?_)
                          refine a_cond _ rfl (fun h41 => ?_) (fun h41 => ?_)
                          · replace hM := (of_if hM).1 h41
                            refine a_seq (ar (.cons (o_assign rfl) <| .nil _) ?_)
                            obtain rfl := Option.some.inj hM
                            obtain rfl := hE36 _ rfl
                            obtain rfl := Option.some.inj hK36
                            obtain rfl := hE30 _ rfl
                            obtain rfl := Option.some.inj hK30
                            obtain rfl := hE14 _ rfl
                            obtain rfl := Option.some.inj hK14
                            exact a_ret (a_post (.r1 (.tmp rfl)) (DLe.refl _) PostOk.nil.spec)
                          · replace hM := (of_if hM).2 h41
                            refine a_skip (ar (.cons (o_add rfl rfl (inR_i64 hk35 hx35)) <| .cons (o_move rfl) <| .nil _) ?_)
                            obtain rfl := Option.some.inj hM
                            exact ⟨(), rfl, (Imp.of (fun i => i) (.cons rfl (DLe.refl _) (.cons rfl (DLe.refl _) (.cons rfl (DLe.refl _) (.cons rfl (DLe.refl _) (.cons rfl (DLe.refl _) (.cons rfl (DLe.refl _) (.cons rfl (DLe.refl _) (.cons rfl (DLe.refl _) (.cons rfl (DLe.refl _) (.cons rfl (DLe.refl _) (.cons rfl (DLe.refl _) (.cons rfl (DLe.succ _ _) .nil)))))))))))) (.cons rfl (.refl _) (.cons rfl (.refl _) (.cons rfl (.refl _) (.cons rfl (.refl _) (.cons rfl (.refl _) .nil))))) rfl rfl rfl)⟩
                        · rintro k35 _ hk35 hx35 rfl
                          refine a_seq (ar (.cons (o_int rfl rfl rfl) <| .nil _) ?_)
                          refine a_seq ?_
                          refine a_cond _ rfl (fun c => absurd (of_decide_eq_true c) (Int.not_lt.2 hk35)) (fun _ => ?_)
                          refine a_exit ?_
                          exact ⟨(), hK36, (Imp.sh (fun i => bif Nat.beq i 10021 then 10023 else bif Nat.beq i 10020 then 10022 else i) rfl rfl rfl rfl rfl rfl)⟩
                      · rintro _ hM
                        replace hM : w30_CollectKeeps_K7 = some t31 := hM
                        unfold w30_CollectKeeps_K7 at hM
                        refine ar (.cons (o_add rfl rfl (inR_i64 hk29 hx29)) <| .cons (o_move rfl) <| .nil _) ?_
                        obtain rfl := Option.some.inj hM
                        exact ⟨(), rfl, (Imp.of (fun i => bif Nat.beq i 10019 then 10021 else bif Nat.beq i 10018 then 10020 else i) (.cons rfl (DLe.refl _) (.cons rfl (DLe.refl _) (.cons rfl (DLe.refl _) (.cons rfl (DLe.refl _) (.cons rfl (DLe.refl _) (.cons rfl (DLe.refl _) (.cons rfl (DLe.refl _) (.cons rfl (DLe.succ _ _) .nil)))))))) (.cons rfl (.refl _) (.cons rfl (.refl _) (.cons rfl (.refl _) (.cons rfl (.refl _) .nil)))) rfl rfl rfl)⟩
                    · rintro k29 _ hk29 hx29 rfl
                      refine a_seq (ar (.cons (o_int rfl rfl rfl) <| .nil _) ?_)
                      refine a_seq ?_
                      refine a_cond _ rfl (fun c => absurd (of_decide_eq_true c) (Int.not_lt.2 hk29)) (fun _ => ?_)
                      refine a_exit ?_
                      exact ⟨(), hK30, (Imp.sh (fun i => bif Nat.beq i 10015 then 10019 else bif Nat.beq i 10014 then 10018 else i) rfl rfl rfl rfl rfl rfl)⟩
              · rintro _ hM
                replace hM : w30_CollectKeeps_K4 = some t15 := hM
                unfold w30_CollectKeeps_K4 at hM
                refine ar (.cons (o_add rfl rfl (inR_i64 hk13 hx13)) <| .cons (o_move rfl) <| .nil _) ?_
                obtain rfl := Option.some.inj hM
                exact ⟨(), rfl, (Imp.of (fun i => bif Nat.beq i 10013 then 10015 else bif Nat.beq i 10012 then 10014 else i) (.cons rfl (DLe.refl _) (.cons rfl (DLe.refl _) (.cons rfl (DLe.refl _) (.cons rfl (DLe.succ _ _) .nil)))) (.cons rfl (.refl _) (.cons rfl (.refl _) (.cons rfl (.refl _) (.cons rfl (.refl _) .nil)))) rfl rfl rfl)⟩
            · rintro k13 _ hk13 hx13 rfl
              refine a_seq (ar (.cons (o_int rfl rfl rfl) <| .nil _) ?_)
              refine a_seq ?_
              refine a_cond _ rfl (fun c => absurd (of_decide_eq_true c) (Int.not_lt.2 hk13)) (fun _ => ?_)
              refine a_exit ?_
              exact ⟨(), hK14, (Imp.sh (fun i => i) rfl rfl rfl rfl rfl rfl)⟩
          · rintro _ hM
            replace hM : w30_CollectKeeps_K2 = some r := hM
            unfold w30_CollectKeeps_K2 at hM
            refine a_seq (ar (.cons (o_assign rfl) <| .nil _) ?_)
            obtain rfl := Option.some.inj hM
            exact a_ret (a_post (.r1 (.tmp rfl)) (DLe.refl _) PostOk.nil.spec)
    · cases hM
  · cases hM
end Go.Proofs.YtepkcbalmjnhpaaGreat
set_option maxRecDepth 100000
set_option maxHeartbeats 1000000
set_option linter.unusedVariables false
set_option linter.unusedSimpArgs false
namespace Go.Proofs.YtepkcbalmjnhpaaGreat
open Go.RowKit
theorem copy_eq {n : Nat} {P : List CPart} {Ks : List Kn} (h : Inv n P Ks) (hn : n ≤ 8) : CColl_Copy_a ⟨P⟩ = some ⟨P⟩ := by
  have hl := h.len
  have hk := h.lenK
  unfold CColl_Copy_a slices_Clone_collect_part_collect_part_r
  dsimp only
  rw [chk_pos (by simp only [apOk, List.length_nil, Nat.zero_add]; omega), Option.bind_some, List.nil_append]
  rw [foldM_spec (s0 := P) P.length (fun _ => P) rfl rfl (by omega) (fun j hj => ?_)]
  · rfl
  · have hr := h.rel j hj (by omega)
    have hne := hr.ne
    have hnl := hr.nl
    have c1 : collect_cloneAll P[j].gentries = some P[j].gentries := cloneAll_eq _ (by omega) fun r hm => (good_GE _).fits r (hr.good r hm).1
    have c2 : slices_Clone_collect_span_collect_span P[j].glost = some P[j].glost := by
      unfold slices_Clone_collect_span_collect_span
      rw [chk_pos (by simp only [apOk, List.length_nil, Nat.zero_add]; omega), List.nil_append]
    have e : P.set j P[j] = P := set_self P j hj
    unfold CColl_Copy_a_L2
    rw [idx_lt hj, Option.bind_some, c1, Option.bind_some, Option.bind_some, Int.toNat_natCast, part_eta, e, idx_lt hj, Option.bind_some, c2, Option.bind_some, Option.bind_some, part_eta, e]
theorem Sta.merge {n : Nat} {P Q : List CPart} {Ks Bs : List Kn} {Rs Ss : Nat → List Rk} (hn : n ≤ 8) (hP : Sta n P Ks Rs) (hQ : Sta n Q Bs Ss) : ∃ e P', CColl_Merge_a ⟨P⟩ ⟨Q⟩ = some (e, ⟨P'⟩) ∧ (((∀ c, c < n + 1 → Cons (Rs c ++ Ss c)) ∧ e = 0 ∧ ∃ Ks', Sta n P' Ks' (fun c => Rs c ++ Ss c)) ∨ (¬ (∀ c, c < n + 1 → Cons (Rs c ++ Ss c)) ∧ e = 14 ∧ P' = P)) := by
  have hk1 := hP.inv.lenK
  have hk2 := hQ.inv.lenK
  have hl1 := hP.inv.len
  have hl2 := hQ.inv.len
  have hjl : (jnL Ks Bs).length = n + 1 := by unfold jnL; rw [List.length_zipWith, hk1, hk2, Nat.min_self]
  have hsm : ∀ c, Small2 (Rs c ++ Ss c) := fun c r hr => (List.mem_append.1 hr).elim (hP.small c r) (hQ.small c r)
  have hone : ∀ c (h : c < n + 1), (((jnL Ks Bs)[c]'(by rw [hjl]; exact h)).2 = true ↔ Cons (Rs c ++ Ss c)) ∧ (((jnL Ks Bs)[c]'(by rw [hjl]; exact h)).2 = true → Rep ((jnL Ks Bs)[c]'(by rw [hjl]; exact h)).1 (Rs c ++ Ss c)) := fun c h => by
    have hp := hP.inv.rel c (by rw [hl1]; exact h) (by rw [hk1]; exact h)
    have hq := hQ.inv.rel c (by rw [hl2]; exact h) (by rw [hk2]; exact h)
    have hj := jn_some hp hq
    have e : (jnL Ks Bs)[c]'(by rw [hjl]; exact h) = jn (Ks[c]'(by rw [hk1]; exact h)) (Bs[c]'(by rw [hk2]; exact h)) := List.getElem_zipWith
    rw [e]
    exact refMerge_rep hq (hP.rep c (by rw [hk1]; exact h)) (hQ.rep c (by rw [hk2]; exact h)) hp.rng (hP.small c) (hQ.small c) hj
  obtain ⟨e, P', m1, m2⟩ := merge_coll hn hP.inv hQ.inv
  refine ⟨e, P', m1, ?_⟩
  rcases m2 with ⟨b1, rfl, b3⟩ | ⟨b1, rfl, rfl⟩
  · have hall : ∀ c (h : c < n + 1), ((jnL Ks Bs)[c]'(by rw [hjl]; exact h)).2 = true := fun c h => (List.all_eq_true.1 b1) _ (List.getElem_mem (by rw [hjl]; exact h))
    refine .inl ⟨fun c h => (hone c h).1.1 (hall c h), rfl, _, b3, hsm, fun i hi => ?_⟩
    rw [List.length_map, hjl] at hi
    rw [List.getElem_map]
    exact (hone i hi).2 (hall i hi)
  · refine .inr ⟨fun hC => ?_, rfl, rfl⟩
    have : (jnL Ks Bs).all (·.2) = true := by
      rw [List.all_eq_true]
      intro x hx
      obtain ⟨c, hc, rfl⟩ := List.getElem_of_mem hx
      rw [hjl] at hc
      exact (hone c hc).1.2 (hC c hc)
    rw [b1] at this; cases this
end Go.Proofs.YtepkcbalmjnhpaaGreat
set_option maxRecDepth 100000
set_option maxHeartbeats 1000000
set_option linter.unusedVariables false
set_option linter.unusedSimpArgs false
namespace Go.Proofs.YtepkcbalmjnhpaaGreat
open Go.RowKit
theorem keep_count {G : Rk → Prop} {c : Int} (hG : Good c G) {old now : List Rk} (ho : Asc old) (hn : Asc now) (hl : old.length ≤ 48) (hln : now.length ≤ 48) (hfo : ∀ r ∈ old, G r) (hfn : ∀ r ∈ now, G r) (hsub : ∀ r ∈ old, ∃ q ∈ now, q.gSeq = r.gSeq) (hname : ∀ r ∈ old, ∀ q ∈ now, q.gSeq = r.gSeq → q.gEvent.gN = r.gEvent.gN) : foldM' 9223372036854775807 (List.length now : Int) (fun k42 s => w30_CollectKeeps_L9 old now k42 s) 0 = some (old.length : Int) := by
  have hInd := foldM_ind (S := Int) (mx := 9223372036854775807) (n := (List.length now : Int)) (body := fun k42 s => w30_CollectKeeps_L9 old now k42 s) (s0 := 0)
    (fun j s => ∃ a : Nat, s = (a : Int) ∧ a ≤ old.length ∧ ∀ q (hq : q < old.length), a ≤ q → ∀ j' (hj' : j' < now.length), j' < j → now[j'].gSeq ≠ old[q].gSeq)
    (by omega) (by omega) ⟨0, rfl, Nat.zero_le _, fun q hq _ j' hj' h => by omega⟩ ?_
  · obtain ⟨s, h1, a, rfl, h2, h3⟩ := hInd
    rw [h1]
    have : a = old.length := by
      rcases Nat.lt_or_eq_of_le h2 with h | h
      · obtain ⟨q, hq, e⟩ := hsub _ (List.getElem_mem h)
        obtain ⟨j', hj', rfl⟩ := List.getElem_of_mem hq
        exact absurd e (h3 a h (Nat.le_refl _) j' hj' (by omega))
      · exact h
    rw [this]
  · rintro j s hj ⟨a, rfl, h2, h3⟩
    have hj' : j < now.length := by omega
    unfold w30_CollectKeeps_L9
    rw [idx_lt hj', Option.bind_some]
    -- whoever of the old ones has this number is the next one
    have nxt : ∀ q (hq : q < old.length), a ≤ q → now[j].gSeq = old[q].gSeq → q = a := fun q hq haq e => by
      refine Classical.byContradiction fun hne => ?_
      have hlt : a < q := by omega
      have h4 := ho.at hlt hq
      obtain ⟨y, hy, e2⟩ := hsub _ (List.getElem_mem (show a < old.length by omega))
      obtain ⟨j2, hj2, rfl⟩ := List.getElem_of_mem hy
      have : j2 < j := by
        rcases Nat.lt_or_ge j2 j with h | h
        · exact h
        · have := hn.le h hj2; omega
      exact h3 a (by omega) (Nat.le_refl _) j2 hj2 this e2
    by_cases ha : a < old.length
    · have hd : decide ((a : Int) < (List.length old : Int)) = true := by simp only [decide_eq_true_eq]; omega
      have go := hfo _ (List.getElem_mem ha)
      have gn := hfn _ (List.getElem_mem hj')
      simp only [hd, gb, if_true, idx_lt ha, Option.bind_some, equal_eq (hG.fits _ go), Bool.true_and]
      by_cases he : recEq (reOf old[a]) (reOf now[j]) = true
      · rw [he]
        have wa : IntKind.wrap .i64 ((a : Int) + 1) = ((a + 1 : Nat) : Int) := by rw [wrap_i64 (by omega) (by omega)]; omega
        refine ⟨_, by rw [wa]; rfl, a + 1, rfl, ha, fun q hq haq j' hj2 hlt => ?_⟩
        have es : old[a].gSeq = now[j].gSeq := Eqr.seq he
        by_cases e : j' = j
        · subst e
          have := ho.at (show a < q by omega) hq
          omega
        · exact h3 q hq (by omega) j' hj2 (by omega)
      · rw [Bool.eq_false_iff.2 he]
        refine ⟨_, rfl, a, rfl, h2, fun q hq haq j' hj2 hlt => ?_⟩
        by_cases e : j' = j
        · subst e
          intro e2
          have hqa := nxt q hq haq e2
          subst hqa
          exact he (hG.one _ _ go gn e2.symm (hname _ (List.getElem_mem hq) _ (List.getElem_mem hj') e2).symm)
        · exact h3 q hq haq j' hj2 (by omega)
    · have hd : decide ((a : Int) < (List.length old : Int)) = false := by simp only [decide_eq_false_iff_not]; omega
      rw [hd]
      simp only [gb, Bool.false_eq_true, if_false, Option.bind_some, Bool.false_and]
      exact ⟨_, rfl, a, rfl, h2, fun q hq haq => by omega⟩
theorem keeps_law (x0 : Int) (x1 x2 : List Fi) (hx : 0 ≤ x0 ∧ x0 ≤ 255) (h1 : ∀ f ∈ x1, FileOk f) (h2 : ∀ f ∈ x2, FileOk f) : w30_CollectKeeps x0 x1 x2 = some true := by
  have hn : 1 ≤ nOf x0 ∧ nOf x0 ≤ 8 := by unfold nOf; omega
  obtain ⟨φ, hφ⟩ := files_fun (nOf x0) hn
  obtain ⟨P, Ks, Rs, p1, p2, _⟩ := collected2 x0 hx hφ x1 h1
  obtain ⟨Q, Bs, Ss, q1, q2, _⟩ := collected2 x0 hx hφ x2 h2
  unfold w30_CollectKeeps
  rw [p1, Option.bind_some]
  dsimp only
  rw [q1, Option.bind_some]
  dsimp only
  rw [awake30, Option.bind_some]
  simp only [Bool.not_true, Bool.or_self, Bool.false_eq_true, if_false]
  generalize hN : nOf x0 = n at hn hφ p2 q2
  have hk := p2.inv.lenK
  have hl := p2.inv.len
  have wn : IntKind.wrap .i64 ((List.length Ks : Int) - 1) = (n : Int) := by rw [wrap_i64 (by omega) (by omega)]; omega
  rw [copy_eq p2.inv hn.2, Option.bind_some]
  obtain ⟨e, P1, m1, m2⟩ := Sta.merge hn.2 p2 q2
  rw [m1, Option.bind_some]
  dsimp only
  obtain ⟨K1, R1, s1, k1⟩ : ∃ K1 R1, Sta n P1 K1 R1 ∧ ∀ c r, r ∈ Rs c → r ∈ R1 c := by
    rcases m2 with ⟨_, _, K1, hS⟩ | ⟨_, _, rfl⟩
    · exact ⟨K1, _, hS, fun c r hr => List.mem_append_left _ hr⟩
    · exact ⟨Ks, Rs, p2, fun c r hr => hr⟩
  -- further files
  have hloop := whileM_ind (S := Int × List CPart) (E := List CPart) (step := fun s => w30_CollectKeeps_L10 x2 (⟨P⟩, Ks) s.1 s.2) (s0 := (0, P1)) (fun s => ∃ (i : Nat) (K : List Kn) (R : Nat → List Rk), s.1 = (i : Int) ∧ i ≤ 8 ∧ Sta n s.2 K R ∧ ∀ c r, r ∈ Rs c → r ∈ R c) (fun s => (8 - s.1).toNat) (fun e => ∃ (K : List Kn) (R : Nat → List Rk), Sta n e K R ∧ ∀ c r, r ∈ Rs c → r ∈ R c) ⟨0, K1, R1, rfl, by omega, s1, k1⟩ (by (try dsimp only); omega) ?_
  · obtain ⟨P2, w1, K2, R2, s2, k2⟩ := hloop
    rw [w1, Option.bind_some]
    have hk2 := s2.inv.lenK
    have hl2 := s2.inv.len
    unfold w30_CollectKeeps_K1
    dsimp only
    rw [forM_next (S := Unit) (E := Bool) (s0 := ()) Ks.length (fun _ => ()) rfl rfl (by omega) (fun j hj => ?_)]
    · rfl
    · have rp := p2.inv.rel j (by omega) hj
      have rn := s2.inv.rel j (by omega) (by omega)
      have ep := p2.rep j hj
      have en := s2.rep j (by omega)
      have hjp : j < P.length := by omega
      have hjn : j < P2.length := by omega
      have hG := good_GE (j : Int)
      have part : ∀ (L : List CPart) (h : j < L.length), CColl_part_a (j : Int) ⟨L⟩ = some L[j] := fun L h => by
        unfold CColl_part_a
        have hd : ¬ ((decide ((j : Int) < 0)) || (decide ((List.length L : Int) ≤ (j : Int)))) = true := by simp; omega
        dsimp only
        rw [if_neg hd, idx_lt h]
        rfl
      have hne := rp.ne
      have hne2 := rn.ne
      have hnl2 := rn.nl
      have c1 : CColl_Records_a (j : Int) ⟨P⟩ = some P[j].gentries := by
        unfold CColl_Records_a
        rw [part P hjp, Option.bind_some, cloneAll_eq _ (by omega) (fun r hr => hG.fits r (rp.good r hr).1)]
        rfl
      have c2 : CColl_Records_a (j : Int) ⟨P2⟩ = some P2[j].gentries := by
        unfold CColl_Records_a
        rw [part P2 hjn, Option.bind_some, cloneAll_eq _ (by omega) (fun r hr => hG.fits r (rn.good r hr).1)]
        rfl
      have t1 : CColl_Total_a (j : Int) ⟨P⟩ = some (P[j].gtotal, P[j].gknown) := by
        unfold CColl_Total_a
        rw [part P hjp]; rfl
      have t2 : CColl_Total_a (j : Int) ⟨P2⟩ = some (P2[j].gtotal, P2[j].gknown) := by
        unfold CColl_Total_a
        rw [part P2 hjn]; rfl
      have hsq : ∀ r ∈ P2[j].gentries, seqOk r := fun r hr => by have := hG.seq r (rn.good r hr).1; exact ⟨this.1, by omega⟩
      have ht : 0 ≤ P2[j].gtotal ∧ P2[j].gtotal ≤ 18446744073709551615 := by
        have := rn.rng
        rw [rn.tot]; split <;> omega
      obtain ⟨ee, l, a1, a2, a3, a4, a5, a6⟩ := missing_spec P2[j] rn.asc hsq rn.can rn.sp (by omega) (by omega) ht
      have hmi : CColl_Missing_a (j : Int) ⟨P2⟩ = some (l.map pairOf) := by
        unfold CColl_Missing_a
        rw [part P2 hjn, Option.bind_some, a2, Option.bind_some, pairs_eq _ (by omega) a4]
        rfl
      -- ids that were known are known
      have hid : ∀ s : Nat, s < 48 → Ks[j].gIds s ≠ 0 → (K2[j]'(by omega)).gIds s = Ks[j].gIds s := fun s hs h0 => (en.ids s hs _ h0).2 (tE_mono (k2 j) ((ep.ids s hs _ h0).1 rfl))
      have hsub : ∀ r ∈ P[j].gentries, ∃ q ∈ P2[j].gentries, q.gSeq = r.gSeq := fun r hr => by
        obtain ⟨g1, g2⟩ := rp.good r hr
        have sq := hG.seq r g1
        have hn0 := hG.name r g1
        rw [← g2] at hn0
        have := hid r.gSeq.toNat (by omega) hn0
        obtain ⟨q, q1, q2⟩ := rn.cov r.gSeq.toNat (by omega) (by rw [this]; exact hn0)
        exact ⟨q, q1, by omega⟩
      have hname : ∀ r ∈ P[j].gentries, ∀ q ∈ P2[j].gentries, q.gSeq = r.gSeq → q.gEvent.gN = r.gEvent.gN := fun r hr q hq e => by
        obtain ⟨g1, g2⟩ := rp.good r hr
        obtain ⟨g3, g4⟩ := rn.good q hq
        have sq := hG.seq r g1
        have hn0 := hG.name r g1
        rw [← g2] at hn0
        have := hid r.gSeq.toNat (by omega) hn0
        rw [← g4, ← g2, e, this]
      unfold w30_CollectKeeps_L3
      rw [c1, Option.bind_some, c2, Option.bind_some, keep_count hG rp.asc rn.asc hne hne2 (fun r hr => (rp.good r hr).1) (fun r hr => (rn.good r hr).1) hsub hname, Option.bind_some]
      unfold w30_CollectKeeps_K5
      rw [t1, Option.bind_some, t2, Option.bind_some]
      dsimp only
      have hcond : ((((P[j].gentries.length : Int)) != (List.length P[j].gentries : Int)) || (P[j].gknown && ((!P2[j].gknown) || (P[j].gtotal != P2[j].gtotal)))) = false := by
        rw [rp.kno, rn.kno, rp.tot, rn.tot]
        by_cases h0 : 0 ≤ Ks[j].gTotal
        · have := (en.tot _ h0).2 (tT_mono (k2 j) ((ep.tot _ h0).1 rfl))
          rw [this]; simp [h0]
        · simp [h0]
      rw [hcond]
      simp only [Bool.false_eq_true, if_false]
      rw [hmi, Option.bind_some, forM_next (S := Unit) (E := Bool) (s0 := ()) l.length (fun _ => ()) rfl (by rw [List.length_map]) (by rw [List.length_map]; omega) (fun i hi => ?_)]
      · rfl
      · have hi2 : i < (l.map pairOf).length := by rw [List.length_map]; exact hi
        unfold w30_CollectKeeps_L6
        rw [idx_lt hi2, Option.bind_some, List.getElem_map, forM_next (S := Unit) (E := Bool) (s0 := ()) P[j].gentries.length (fun _ => ()) rfl rfl (by omega) (fun q hq => ?_)]
        · rfl
        · unfold w30_CollectKeeps_L8
          rw [idx_lt hq, Option.bind_some]
          have hs := a4 _ (List.getElem_mem hi)
          obtain ⟨y, y1, y2⟩ := hsub _ (List.getElem_mem hq)
          have hsq2 := hG.seq _ (rp.good _ (List.getElem_mem hq)).1
          have hno : ¬ (l[i].gfrom ≤ P[j].gentries[q].gSeq ∧ P[j].gentries[q].gSeq < l[i].gto) := fun h => ((a5 _).1 ⟨_, List.getElem_mem hi, h⟩).2 ⟨y, y1, y2⟩
          have p0 : pairOf l[i] 0 = l[i].gfrom := rfl
          have p1 : pairOf l[i] 1 = l[i].gto - l[i].gfrom := rfl
          have hf : ¬ ((decide ((pairOf l[i] 0) ≤ P[j].gentries[q].gSeq)) && (decide ((IntKind.wrap .u64 (P[j].gentries[q].gSeq - (pairOf l[i] 0))) < (pairOf l[i] 1)))) = true := by
            rw [p0, p1]
            simp only [Bool.and_eq_true, decide_eq_true_eq]
            rintro ⟨z1, z2⟩
            have z3 := hs.1
            rw [wrap_u64 (by omega) (by omega)] at z2
            exact hno ⟨z1, by omega⟩
          rw [if_neg hf]
  · rintro ⟨ii, parts⟩ ⟨i, K, R, hi, hi8, hS, hsub⟩
    dsimp only at hi hS ⊢
    subst hi
    unfold w30_CollectKeeps_L10
    dsimp only
    by_cases hc : i < x2.length ∧ i < 8
    · have hd : ((decide ((i : Int) < (List.length x2 : Int))) && (decide ((i : Int) < 8))) = true := by
        simp only [Bool.and_eq_true, decide_eq_true_eq]; omega
      have hf := hφ _ (h2 _ (List.getElem_mem hc.1))
      rw [hd, if_pos rfl, idx_lt hc.1, Option.bind_some, wn]
      generalize x2[i]'hc.1 = f at hf ⊢
      have hcc := cOf_eq hn f
      obtain ⟨K', ok, e, parts', a1, a2, a3⟩ := hS.file hn hf
      have wi : IntKind.wrap .i64 ((i : Int) + 1) = ((i + 1 : Nat) : Int) := by rw [wrap_i64 (by omega) (by omega)]; omega
      rw [hf.1, Option.bind_some, hcc.1]
      dsimp only
      rw [a2, Option.bind_some, wi]
      refine .inl ⟨_, rfl, ?_, by (try dsimp only); omega⟩
      rcases a3 with ⟨rfl, rfl, _, hS'⟩ | ⟨rfl, rfl, _, rfl, hK⟩
      · refine ⟨i + 1, _, _, rfl, by omega, hS', fun c r hr => ?_⟩
        unfold upd
        split
        · rename_i e; rw [e] at hr; exact List.mem_append_left _ (hsub _ r hr)
        · exact hsub c r hr
      · exact ⟨i + 1, K, R, rfl, by omega, hS, hsub⟩
    · have hd : ((decide ((i : Int) < (List.length x2 : Int))) && (decide ((i : Int) < 8))) = false := by
        rw [Bool.eq_false_iff]
        simp only [ne_eq, Bool.and_eq_true, decide_eq_true_eq]; omega
      rw [hd]
      exact .inr ⟨_, rfl, K, R, hS, hsub⟩
end Go.Proofs.YtepkcbalmjnhpaaGreat

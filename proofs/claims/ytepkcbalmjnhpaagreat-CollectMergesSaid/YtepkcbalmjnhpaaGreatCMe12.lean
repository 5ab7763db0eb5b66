/-
  What the claim leans on, part 12.
-/
import Derived.Test.YtepkcbalmjnhpaaGreatCMe11
set_option maxRecDepth 100000
set_option maxHeartbeats 1000000
set_option linter.unusedVariables false
set_option linter.unusedSimpArgs false
namespace Go.Proofs.YtepkcbalmjnhpaaGreat
open Go.RowKit
def toRef (r : Rk) : e30_Record := ⟨r.gWhat, r.gSeq, r.gEvent.gN, r.gCount⟩
theorem with_entry (K : Kn) (q : e30_Record) (hw : q.gWhat = 1) (hs : 0 ≤ q.gSeq ∧ q.gSeq < 48) : e30_with K q = if K.gIds q.gSeq.toNat ≠ 0 ∧ K.gIds q.gSeq.toNat ≠ q.gId then some (K, false) else some (⟨upd K.gIds q.gSeq.toNat q.gId, K.gLost, K.gTotal⟩, true) := by
  unfold e30_with
  have hi : inA 48 q.gSeq := ⟨hs.1, by omega⟩
  rw [if_pos (by simpa using hw), chk_pos hi, chk_pos (fun _ => hi), chk_pos hi]
  by_cases h : K.gIds q.gSeq.toNat ≠ 0 ∧ K.gIds q.gSeq.toNat ≠ q.gId
  · rw [if_pos h, if_pos (by simpa using h)]
  · rw [if_neg h, if_neg (by simpa using h)]
    rfl
theorem with_entry_no (K : Kn) (q : e30_Record) (hw : q.gWhat = 1) (hs : 0 ≤ q.gSeq ∧ q.gSeq < 48) (h : K.gIds q.gSeq.toNat ≠ 0 ∧ K.gIds q.gSeq.toNat ≠ q.gId) : e30_with K q = some (K, false) := by rw [with_entry K q hw hs, if_pos h]
theorem with_entry_yes (K : Kn) (q : e30_Record) (hw : q.gWhat = 1) (hs : 0 ≤ q.gSeq ∧ q.gSeq < 48) (h : ¬ (K.gIds q.gSeq.toNat ≠ 0 ∧ K.gIds q.gSeq.toNat ≠ q.gId)) : e30_with K q = some (⟨upd K.gIds q.gSeq.toNat q.gId, K.gLost, K.gTotal⟩, true) := by rw [with_entry K q hw hs, if_neg h]
theorem with_lost (K : Kn) (q : e30_Record) (hw : q.gWhat = 2) (hs : 0 ≤ q.gSeq ∧ 0 < q.gCount ∧ q.gSeq + q.gCount ≤ 48) : ∃ L, e30_with K q = some (⟨K.gIds, L, K.gTotal⟩, true) ∧ ∀ s : Nat, L s = true ↔ K.gLost s = true ∨ (q.gSeq ≤ (s : Int) ∧ (s : Int) < q.gSeq + q.gCount) := by
  unfold e30_with
  rw [if_neg (by simp [hw]), if_pos (by simpa using hw)]
  have hw1 : IntKind.wrap .i64 (q.gSeq + q.gCount) = q.gSeq + q.gCount := wrap_i64 (by omega) (by omega)
  have := whileM_ind (S := Int × (Nat → Bool)) (E := (Nat → Int) × (Nat → Bool) × Int) (step := fun s => e30_with_L2 K q s.1 s.2) (s0 := (q.gSeq, K.gLost)) (fun s => q.gSeq ≤ s.1 ∧ s.1 ≤ q.gSeq + q.gCount ∧ ∀ j : Nat, s.2 j = true ↔ K.gLost j = true ∨ (q.gSeq ≤ (j : Int) ∧ (j : Int) < s.1)) (fun s => (q.gSeq + q.gCount - s.1).toNat) (fun e => e.1 = K.gIds ∧ e.2.2 = K.gTotal ∧ ∀ s : Nat, e.2.1 s = true ↔ K.gLost s = true ∨ (q.gSeq ≤ (s : Int) ∧ (s : Int) < q.gSeq + q.gCount)) ⟨Int.le_refl _, by (try dsimp only); omega, fun j => ⟨fun h => .inl h, fun h => h.elim id fun h => by (try dsimp only at h); omega⟩⟩ (by (try dsimp only); omega) ?_
  · obtain ⟨⟨a, b, c⟩, h1, h2, h3, h4⟩ := this
    dsimp only at h2 h3 h4
    subst h2 h3
    refine ⟨b, ?_, h4⟩
    rw [h1]; rfl
  · rintro ⟨i, f⟩ ⟨h1, h2, h3⟩
    dsimp only at h1 h2 h3 ⊢
    unfold e30_with_L2
    rw [hw1]
    by_cases hc : i < q.gSeq + q.gCount
    · have wi : IntKind.wrap .i64 (i + 1) = i + 1 := wrap_i64 (by omega) (by omega)
      rw [if_pos (by simpa using hc), chk_pos ⟨by omega, by omega⟩, wi]
      refine .inl ⟨_, rfl, ⟨by (try dsimp only); omega, by (try dsimp only); omega, fun j => ?_⟩, by (try dsimp only); omega⟩
      dsimp only
      unfold upd
      by_cases e : j = i.toNat
      · rw [if_pos e]
        exact ⟨fun _ => .inr ⟨by omega, by omega⟩, fun _ => rfl⟩
      · rw [if_neg e, h3]
        constructor
        · rintro (h | h)
          · exact .inl h
          · exact .inr ⟨h.1, by omega⟩
        · rintro (h | h)
          · exact .inl h
          · exact .inr ⟨h.1, by omega⟩
    · rw [if_neg (by simpa using hc)]
      refine .inr ⟨_, rfl, rfl, rfl, fun s => ?_⟩
      rw [h3]
      have : i = q.gSeq + q.gCount := by omega
      rw [this]
theorem with_end (K : Kn) (q : e30_Record) (hw : q.gWhat = 3) : e30_with K q = if 0 ≤ K.gTotal ∧ K.gTotal ≠ q.gSeq then some (K, false) else some (⟨K.gIds, K.gLost, q.gSeq⟩, true) := by
  unfold e30_with
  rw [if_neg (by simp [hw]), if_neg (by simp [hw])]
  by_cases h : 0 ≤ K.gTotal ∧ K.gTotal ≠ q.gSeq
  · rw [if_pos h, if_pos (by simpa using h)]
  · rw [if_neg h, if_neg (by simpa using h)]
    rfl
theorem with_end_no (K : Kn) (q : e30_Record) (hw : q.gWhat = 3) (h : 0 ≤ K.gTotal ∧ K.gTotal ≠ q.gSeq) : e30_with K q = some (K, false) := by rw [with_end K q hw, if_pos h]
theorem with_end_yes (K : Kn) (q : e30_Record) (hw : q.gWhat = 3) (h : ¬ (0 ≤ K.gTotal ∧ K.gTotal ≠ q.gSeq)) : e30_with K q = some (⟨K.gIds, K.gLost, q.gSeq⟩, true) := by rw [with_end K q hw, if_neg h]
theorem sound_eq (K : Kn) : ∃ b, e30_sound K = some b ∧ (b = true ↔ Sound K) := by
  unfold e30_sound
  have hInd := forM_ind (S := Unit) (E := Bool) (mx := 9223372036854775807) (n := 48) (body := fun k1 s => e30_sound_L2 K k1) (s0 := ()) (fun k _ => ∀ s : Nat, s < k → 0 ≤ K.gTotal → K.gTotal ≤ (s : Int) → K.gIds s = 0 ∧ K.gLost s = false) (fun t => match t with
    | .next _ => Sound K
    | .done r => r = false ∧ ¬ Sound K) (by decide) (by decide) (fun s hs => by omega) ?_ (fun s hs => hs)
  · obtain ⟨t, h1, h2⟩ := hInd
    rw [h1]
    cases t with
    | next s => exact ⟨true, rfl, fun _ => h2, fun _ => rfl⟩
    | done r =>
      obtain ⟨rfl, h3⟩ := h2
      exact ⟨false, rfl, fun h => (by cases h), fun h => absurd h h3⟩
  · intro k s hk hI
    have hk' : k < 48 := by omega
    unfold e30_sound_L2
    rw [chk_pos (fun _ => inA48 hk'), chk_pos (fun _ => inA48 hk'), Int.toNat_natCast]
    by_cases hb : (0 ≤ K.gTotal ∧ K.gTotal ≤ (k : Int)) ∧ (K.gIds k ≠ 0 ∨ K.gLost k = true)
    · rw [if_pos (by simpa using hb)]
      refine .inr ⟨false, rfl, rfl, fun h => ?_⟩
      have := h k hk' hb.1.1 hb.1.2
      rcases hb.2 with h1 | h1
      · exact h1 this.1
      · rw [this.2] at h1; cases h1
    · rw [if_neg (by simpa using hb)]
      refine .inl ⟨(), rfl, fun q hq h0 h1 => ?_⟩
      rcases Nat.lt_or_eq_of_le (Nat.le_of_lt_succ hq) with h | h
      · exact hI q h h0 h1
      · subst h
        refine Classical.byContradiction fun hn => hb ⟨⟨h0, h1⟩, ?_⟩
        by_cases hid : K.gIds q = 0
        · refine .inr ?_
          cases hl : K.gLost q with
          | true => rfl
          | false => exact absurd ⟨hid, hl⟩ hn
        · exact .inl hid
theorem endOf_mem : ∀ {l : List Rk}, (endOf l).1 = true → ∃ r ∈ l, r.gWhat = 3 ∧ r.gSeq = (endOf l).2
  | [], h => by cases h
  | q :: l, h => by
    unfold endOf at h ⊢
    by_cases hq : q.gWhat = 3
    · have hb : (q.gWhat == 3) = true := by simpa using hq
      rw [if_pos hb]
      exact ⟨q, List.mem_cons_self .., hq, rfl⟩
    · have hb : ¬ (q.gWhat == 3) = true := by simpa using hq
      rw [if_neg hb] at h ⊢
      obtain ⟨r, r1, r2⟩ := endOf_mem h
      exact ⟨r, List.mem_cons_of_mem _ r1, r2⟩
structure Small (r : Rk) : Prop where
  ok : RecOk r
  seq : 0 ≤ r.gSeq ∧ r.gSeq < 48
  what : r.gWhat = 1 ∨ r.gWhat = 2 ∨ r.gWhat = 3
  name : r.gWhat = 1 → r.gEvent.gN ≠ 0
  lost : r.gWhat = 2 → 0 < r.gCount ∧ r.gSeq + r.gCount ≤ 48
theorem ents_snoc (l : List Rk) (v : Rk) : entsOf (l ++ [v]) = if v.gWhat = 1 then entsOf l ++ [v] else entsOf l := by
  unfold entsOf; rw [List.filter_append, List.filter_cons]
  by_cases h : v.gWhat = 1 <;> simp [h]
theorem lost_snoc (l : List Rk) (v : Rk) : lostOf (l ++ [v]) = if v.gWhat = 2 then lostOf l ++ [spanOf v] else lostOf l := by
  unfold lostOf; rw [List.filter_append, List.filter_cons]
  by_cases h : v.gWhat = 2 <;> simp [h]
theorem end_snoc (l : List Rk) (v : Rk) (h : v.gWhat ≠ 3) : endOf (l ++ [v]) = endOf l := by
  induction l with
  | nil => simp [endOf, h]
  | cons x m ih => simp only [List.cons_append, endOf, ih]
def OneEnd (l : List Rk) : Prop := ∀ r ∈ l, ∀ q ∈ l, r.gWhat = 3 → q.gWhat = 3 → r.gSeq = q.gSeq
theorem mem_ents {l : List Rk} {r : Rk} : r ∈ entsOf l ↔ r ∈ l ∧ r.gWhat = 1 := by
  unfold entsOf; rw [List.mem_filter]; simp
theorem refAdd_spec (A : Kn) (hA : -1 ≤ A.gTotal ∧ A.gTotal < 48) (l : List Rk) (hlen : l.length ≤ 1099511627776) (hl : ∀ r ∈ l, Small r) : ∃ K ok, e30_Add A (l.map toRef) = some (K, ok) ∧ ((ok = true ∧ Joined A (partRaw l) K ∧ Sound K ∧ OneEnd l) ∨ (ok = false ∧ K = A ∧ (Clash A (partRaw l) ∨ ¬ OneEnd l ∨ ∃ K1, Joined A (partRaw l) K1 ∧ ¬ Sound K1))) := by
  unfold e30_Add
  have hInd := forM_ind (S := (Nat → Int) × (Nat → Bool) × Int) (E := e30_Known × Bool) (mx := 9223372036854775807) (n := (List.length (l.map toRef) : Int)) (body := fun k7 s => e30_Add_L2 A (l.map toRef) k7 s.1 s.2.1 s.2.2) (s0 := (A.gIds, A.gLost, A.gTotal))
    (fun k s => Joined A (partRaw (l.take k)) ⟨s.1, s.2.1, s.2.2⟩ ∧ OneEnd (l.take k))
    (fun t => match t with
      | .next s => Joined A (partRaw l) ⟨s.1, s.2.1, s.2.2⟩ ∧ OneEnd l
      | .done r => r = (A, false) ∧ (Clash A (partRaw l) ∨ ¬ OneEnd l))
    (by rw [List.length_map]; omega) (by omega) ⟨⟨fun s hs i hi => ⟨fun h => .inl h, fun h => h.elim id fun ⟨r, hr, _⟩ => (by cases hr)⟩, fun s hs _ => ⟨fun h => .inl h, fun h => h.elim id fun h => absurd h (inS_nil _)⟩, fun t ht => ⟨fun h => .inl h, fun h => h.elim id fun h => (by cases h.1)⟩, hA⟩, fun r hr => by simp at hr⟩ ?_ ?_
  · obtain ⟨t, t1, t2⟩ := hInd
    rw [t1]
    cases t with
    | done r =>
      obtain ⟨rfl, h⟩ := t2
      refine ⟨A, false, rfl, .inr ⟨rfl, rfl, ?_⟩⟩
      rcases h with h | h
      · exact .inl h
      · exact .inr (.inl h)
    | next s =>
      obtain ⟨h1, h2⟩ := t2
      simp only [Option.bind_some]
      unfold e30_Add_K1
      obtain ⟨b, b1, b2⟩ := sound_eq ⟨s.1, s.2.1, s.2.2⟩
      rw [b1, Option.bind_some]
      cases b with
      | true => exact ⟨_, true, rfl, .inl ⟨rfl, h1, b2.1 rfl, h2⟩⟩
      | false => exact ⟨A, false, rfl, .inr ⟨rfl, rfl, .inr (.inr ⟨_, h1, fun h => by have := b2.2 h; cases this⟩)⟩⟩
  · rintro k ⟨ids, lost, tot⟩ hk ⟨hJ, hO⟩
    rw [List.length_map] at hk
    have hk' : k < l.length := by omega
    have tk : l.take (k + 1) = l.take k ++ [l[k]] := List.take_succ_eq_append_getElem hk'
    have hm := List.getElem_mem hk'
    have hv := hl _ hm
    dsimp only at hJ ⊢
    unfold e30_Add_L2
    have gi : idx (l.map toRef) (k : Int) = some (toRef l[k]) := by
      have : k < (l.map toRef).length := by rw [List.length_map]; exact hk'
      rw [idx_lt this, List.getElem_map]
    rw [gi, Option.bind_some, tk]
    generalize hvv : l[k] = v at hm hv tk ⊢
    have tin : ∀ r ∈ l.take k, r ∈ l := fun r hr => List.mem_of_mem_take hr
    have oneNo : v.gWhat ≠ 3 → OneEnd (l.take k ++ [v]) := fun h3 r hr q hq r3 q3 => by
      have : ∀ r ∈ l.take k ++ [v], r.gWhat = 3 → r ∈ l.take k := fun r hr r3 => by
        rcases List.mem_append.1 hr with h | h
        · exact h
        · rw [List.mem_singleton] at h; subst h; exact absurd r3 h3
      exact hO r (this r hr r3) q (this q hq q3) r3 q3
    rcases hv.what with h1 | h1 | h1
    · -- an entry
      have hseq := hv.seq
      have e1 : (partRaw (l.take k ++ [v])).gentries = entsOf (l.take k) ++ [v] := by show entsOf _ = _; rw [ents_snoc, if_pos h1]
      have e2 : (partRaw (l.take k ++ [v])).glost = lostOf (l.take k) := by show lostOf _ = _; rw [lost_snoc, if_neg (by omega)]
      have e3 : endOf (l.take k ++ [v]) = endOf (l.take k) := end_snoc _ _ (by omega)
      have e4 : (partRaw (l.take k ++ [v])).gknown = (endOf (l.take k)).1 := by show (endOf _).1 = _; rw [e3]
      have e5 : (partRaw (l.take k ++ [v])).gtotal = (endOf (l.take k)).2 := by show (endOf _).2 = _; rw [e3]
      have hN := hv.name h1
      have hst : ((v.gSeq.toNat : Nat) : Int) = v.gSeq := by omega
      have hs48 : v.gSeq.toNat < 48 := by omega
      by_cases hc : ids v.gSeq.toNat ≠ 0 ∧ ids v.gSeq.toNat ≠ v.gEvent.gN
      · rw [with_entry_no ⟨ids, lost, tot⟩ (toRef v) h1 hseq hc, Option.bind_some]
        refine .inr ⟨_, rfl, rfl, .inl ?_⟩
        have vin : v ∈ (partRaw l).gentries := mem_ents.2 ⟨hm, h1⟩
        rcases (hJ.ids _ hs48 _ hc.1).1 rfl with h | ⟨r, r1, r2, r3⟩
        · exact .inl ⟨v, vin, by rw [h]; exact hc.1, by rw [h]; exact hc.2⟩
        · have r4 := mem_ents.1 r1
          exact .inr (.inl ⟨r, mem_ents.2 ⟨tin r r4.1, r4.2⟩, v, vin, by rw [r2, hst], by rw [r3]; exact hc.2⟩)
      · rw [with_entry_yes ⟨ids, lost, tot⟩ (toRef v) h1 hseq hc, Option.bind_some]
        refine .inl ⟨_, rfl, ⟨fun s hs i hi => ?_, fun s hs hid => ?_, fun t ht => ?_, hJ.rng⟩, oneNo (by omega)⟩
        · show upd ids v.gSeq.toNat v.gEvent.gN s = i ↔ _
          rw [e1]
          unfold upd
          have hj := hJ.ids s hs i hi
          dsimp only at hj
          by_cases es : s = v.gSeq.toNat
          · rw [if_pos es]
            constructor
            · intro h; exact .inr ⟨v, by simp, by omega, h⟩
            · intro h
              have hor : ids s = i ∨ v.gEvent.gN = i := by
                rcases h with h | ⟨r, r1, r2, r3⟩
                · exact .inl (hj.2 (.inl h))
                · rcases List.mem_append.1 r1 with r1 | r1
                  · exact .inl (hj.2 (.inr ⟨r, r1, r2, r3⟩))
                  · rw [List.mem_singleton] at r1; subst r1; exact .inr r3
              rcases hor with h | h
              · refine Classical.byContradiction fun hne => hc ⟨?_, ?_⟩
                · rw [← es, h]; exact hi
                · rw [← es, h]; exact fun e => hne e.symm
              · exact h
          · rw [if_neg es, hj]
            constructor
            · rintro (h | ⟨r, r1, r2, r3⟩)
              · exact .inl h
              · exact .inr ⟨r, List.mem_append_left _ r1, r2, r3⟩
            · rintro (h | ⟨r, r1, r2, r3⟩)
              · exact .inl h
              · rcases List.mem_append.1 r1 with r1 | r1
                · exact .inr ⟨r, r1, r2, r3⟩
                · rw [List.mem_singleton] at r1; subst r1; omega
        · show lost s = true ↔ _
          rw [e2]
          have hid' : upd ids v.gSeq.toNat v.gEvent.gN s = 0 := hid
          unfold upd at hid'
          by_cases es : s = v.gSeq.toNat
          · rw [if_pos es] at hid'; exact absurd hid' hN
          · rw [if_neg es] at hid'
            exact hJ.lost s hs hid'
        · show tot = t ↔ _
          rw [e4, e5]
          exact hJ.tot t ht
    · -- a Lost record
      have hls := hv.lost h1
      obtain ⟨L, w1, w2⟩ := with_lost ⟨ids, lost, tot⟩ (toRef v) h1 ⟨hv.seq.1, hls.1, hls.2⟩
      rw [w1, Option.bind_some]
      have e1 : (partRaw (l.take k ++ [v])).gentries = entsOf (l.take k) := by show entsOf _ = _; rw [ents_snoc, if_neg (by omega)]
      have e2 : (partRaw (l.take k ++ [v])).glost = lostOf (l.take k) ++ [spanOf v] := by show lostOf _ = _; rw [lost_snoc, if_pos h1]
      have e3 : endOf (l.take k ++ [v]) = endOf (l.take k) := end_snoc _ _ (by omega)
      have e4 : (partRaw (l.take k ++ [v])).gknown = (endOf (l.take k)).1 := by show (endOf _).1 = _; rw [e3]
      have e5 : (partRaw (l.take k ++ [v])).gtotal = (endOf (l.take k)).2 := by show (endOf _).2 = _; rw [e3]
      refine .inl ⟨(ids, L, tot), rfl, ⟨fun s hs i hi => ?_, fun s hs hid => ?_, fun t ht => ?_, hJ.rng⟩, oneNo (by omega)⟩
      · rw [e1]; exact hJ.ids s hs i hi
      · show L s = true ↔ _
        have hj : lost s = true ↔ A.gLost s = true ∨ inS (lostOf (l.take k)) (s : Int) := hJ.lost s hs hid
        rw [e2, w2, inS_app, inS_one]
        show (lost s = true ∨ _) ↔ _
        rw [hj]
        constructor
        · rintro ((h | h) | h)
          · exact .inl h
          · exact .inr (.inl h)
          · exact .inr (.inr h)
        · rintro (h | h | h)
          · exact .inl (.inl h)
          · exact .inl (.inr h)
          · exact .inr h
      · rw [e4, e5]; exact hJ.tot t ht
    · -- an end
      have e1 : (partRaw (l.take k ++ [v])).gentries = entsOf (l.take k) := by show entsOf _ = _; rw [ents_snoc, if_neg (by omega)]
      have e2 : (partRaw (l.take k ++ [v])).glost = lostOf (l.take k) := by show lostOf _ = _; rw [lost_snoc, if_neg (by omega)]
      by_cases hc : 0 ≤ tot ∧ tot ≠ v.gSeq
      · rw [with_end_no ⟨ids, lost, tot⟩ (toRef v) h1 hc, Option.bind_some]
        refine .inr ⟨_, rfl, rfl, ?_⟩
        by_cases hone : OneEnd l
        · rcases (hJ.tot tot hc.1).1 rfl with h | ⟨h, h2⟩
          · have he := endOf_some hm h1 hone
            refine .inl (.inr (.inr ⟨by omega, ?_, ?_⟩))
            · show (endOf l).1 = true; rw [he]
            · show A.gTotal ≠ (endOf l).2; rw [he, h]; exact hc.2
          · obtain ⟨r, r1, r2, r3⟩ := endOf_mem h
            have := hone r (tin r r1) v hm r2 h1
            have h2' : (endOf (l.take k)).2 = tot := h2
            omega
        · exact .inr hone
      · rw [with_end_yes ⟨ids, lost, tot⟩ (toRef v) h1 hc, Option.bind_some]
        have hO2 : OneEnd (l.take k ++ [v]) := by
          have hall : ∀ r ∈ l.take k ++ [v], r.gWhat = 3 → r.gSeq = v.gSeq := fun r hr r3 => by
            rcases List.mem_append.1 hr with h | h
            · have he := endOf_some h r3 hO
              have := (hJ.tot r.gSeq (hl r (tin r h)).seq.1).2 (.inr ⟨by show (endOf _).1 = true; rw [he], by show (endOf _).2 = _; rw [he]⟩)
              have ht : tot = r.gSeq := this
              have := (hl r (tin r h)).seq.1
              refine Classical.byContradiction fun hne => hc ⟨by omega, by omega⟩
            · rw [List.mem_singleton] at h; subst h; rfl
          intro r hr q hq r3 q3
          rw [hall r hr r3, hall q hq q3]
        have he := endOf_some (l := l.take k ++ [v]) (r := v) (by simp) h1 hO2
        have e4 : (partRaw (l.take k ++ [v])).gknown = true := by show (endOf _).1 = _; rw [he]
        have e5 : (partRaw (l.take k ++ [v])).gtotal = v.gSeq := by show (endOf _).2 = _; rw [he]
        refine .inl ⟨_, rfl, ⟨fun s hs i hi => ?_, fun s hs hid => ?_, fun t ht => ?_, ?_⟩, hO2⟩
        · rw [e1]; exact hJ.ids s hs i hi
        · rw [e2]; exact hJ.lost s hs hid
        · show v.gSeq = t ↔ _
          rw [e4, e5]
          constructor
          · intro h; exact .inr ⟨rfl, h⟩
          · rintro (h | h)
            · have h2 := (hJ.tot t ht).2 (.inl h)
              have h3 : tot = t := h2
              refine Classical.byContradiction fun hne => hc ⟨by omega, by omega⟩
            · exact h.2
        · have := hv.seq
          show -1 ≤ v.gSeq ∧ v.gSeq < 48
          omega
  · rintro s ⟨h1, h2⟩
    rw [Int.toNat_natCast, List.length_map, List.take_length] at h1 h2
    exact ⟨h1, h2⟩
end Go.Proofs.YtepkcbalmjnhpaaGreat
set_option maxRecDepth 100000
set_option maxHeartbeats 1000000
set_option linter.unusedVariables false
set_option linter.unusedSimpArgs false
namespace Go.Proofs.YtepkcbalmjnhpaaGreat
open Go.RowKit
def zer16 : Nat → Int := arr 0 [0, 0, 0, 0, 0, 0, 0, 0, 0, 0, 0, 0, 0, 0, 0, 0]
theorem zer16_at (i : Nat) : zer16 i = 0 := by
  unfold zer16 arr
  match i with
  | 0 | 1 | 2 | 3 | 4 | 5 | 6 | 7 | 8 | 9 | 10 | 11 | 12 | 13 | 14 | 15 => rfl
  | n + 16 => rfl
structure RawOk (x : w30_Raw) : Prop where
  what : 0 ≤ x.gWhat ∧ x.gWhat ≤ 255
  seq : 0 ≤ x.gSeq ∧ x.gSeq ≤ 255
  id : 0 ≤ x.gId ∧ x.gId ≤ 255
  count : 0 ≤ x.gCount ∧ x.gCount ≤ 255
def mkE (c s i : Int) : Rk := ⟨c, s, ⟨upd zer16 c.toNat 1⟩, 1, ⟨s, c, 3, 0, i, 0, 0, 0, []⟩, 0⟩
def mkR (c : Int) (x : w30_Raw) : Rk :=
  if x.gWhat % 4 = 2 then ⟨c, x.gSeq % 40, ⟨zer16⟩, 2, ⟨0, 0, 0, 0, 0, 0, 0, 0, []⟩, 1 + x.gCount % 8⟩
  else if x.gWhat % 4 = 3 then ⟨c, x.gSeq % 40, ⟨zer16⟩, 3, ⟨0, 0, 0, 0, 0, 0, 0, 0, []⟩, 0⟩
  else mkE c (x.gSeq % 40) (1 + x.gId % 3)
theorem tick_eq (c : Int) (hc : 0 ≤ c ∧ c < 16) : VClk_Tick ⟨zer16⟩ c = some ⟨upd zer16 c.toNat 1⟩ := by
  unfold VClk_Tick
  have hi : inA 16 c := ⟨hc.1, by omega⟩
  dsimp only
  have hz : decide (zer16 c.toNat < 18446744073709551615) = true := by rw [decide_eq_true_eq, zer16_at]; decide
  rw [chk_pos (fun _ => hi), if_pos (by simp only [hz, Bool.and_eq_true, decide_eq_true_eq]; exact ⟨⟨hc.1, hc.2⟩, trivial⟩), chk_pos hi, chk_pos hi, zer16_at]
  rfl
theorem make_eq (x : w30_Raw) (c : Int) (hx : RawOk x) (hc : 0 ≤ c ∧ c ≤ 8) : w30_Raw_make x c = some (mkR c x, toRef (mkR c x)) := by
  obtain ⟨⟨a1, a2⟩, ⟨b1, b2⟩, ⟨c1, c2⟩, ⟨d1, d2⟩⟩ := hx
  have w1 : IntKind.wrap .i64 (x.gSeq % 40) = x.gSeq % 40 := wrap_i64 (by omega) (by omega)
  have w2 : IntKind.wrap .u64 (x.gSeq % 40) = x.gSeq % 40 := wrap_u64 (by omega) (by omega)
  have w3 : IntKind.wrap .i64 (x.gCount % 8) = x.gCount % 8 := wrap_i64 (by omega) (by omega)
  have w4 : IntKind.wrap .i64 (1 + x.gCount % 8) = 1 + x.gCount % 8 := wrap_i64 (by omega) (by omega)
  have w5 : IntKind.wrap .u64 (1 + x.gCount % 8) = 1 + x.gCount % 8 := wrap_u64 (by omega) (by omega)
  have w6 : IntKind.wrap .i64 (x.gId % 3) = x.gId % 3 := wrap_i64 (by omega) (by omega)
  have w7 : IntKind.wrap .i64 (1 + x.gId % 3) = 1 + x.gId % 3 := wrap_i64 (by omega) (by omega)
  unfold w30_Raw_make
  rw [chk_pos ⟨b1, by decide⟩, chk_pos ⟨a1, by decide⟩]
  simp only [w1, w2, w3, w4, w5, w6, w7]
  unfold mkR
  by_cases h2 : x.gWhat % 4 = 2
  · rw [if_pos (by simpa using h2), chk_pos ⟨d1, by decide⟩, if_pos h2]
    rfl
  · rw [if_neg (by simpa using h2), if_neg h2]
    by_cases h3 : x.gWhat % 4 = 3
    · rw [if_pos (by simpa using h3), if_pos h3]
      rfl
    · rw [if_neg (by simpa using h3), if_neg h3, chk_pos ⟨c1, by decide⟩]
      have := tick_eq c ⟨hc.1, by omega⟩
      unfold zer16 at this
      rw [this]
      rfl
theorem ck_fits {f : Nat → Int} (h : ∀ i, 0 ≤ f i ∧ f i ≤ 1) : ckFits ⟨f⟩ = true := by
  unfold ckFits
  rw [List.all_eq_true]
  intro i _
  have := h i
  rw [okI_iff]
  exact ⟨this.1, by have := this.2; show f i ≤ 18446744073709551615; omega⟩
theorem mkE_ok (c s i : Int) (hc : 0 ≤ c ∧ c ≤ 8) (hs : 0 ≤ s ∧ s < 48) (hi : 1 ≤ i ∧ i ≤ 255) : reFits (mkE c s i) = true ∧ validB (reOf (mkE c s i)) = true := by
  have hck : ckFits (mkE c s i).gClock = true := ck_fits fun j => by
    show 0 ≤ upd zer16 c.toNat 1 j ∧ upd zer16 c.toNat 1 j ≤ 1
    unfold upd
    rw [zer16_at]
    split <;> omega
  constructor
  · unfold reFits
    rw [hck]
    simp only [mkE, evFits, List.all_nil, List.length_nil, Bool.and_eq_true, okI_iff, decide_eq_true_eq]
    have j : ∀ v : Int, 0 ≤ v ∧ v ≤ 255 → InR .i64 v ∧ InR .u64 v ∧ InR .u8 v := fun v hv => ⟨⟨by show -9223372036854775808 ≤ v; omega, by show v ≤ 9223372036854775807; omega⟩, ⟨hv.1, by show v ≤ 18446744073709551615; omega⟩, hv⟩
    have jc := j c (by omega)
    have js := j s (by omega)
    have j0 := j 0 (by omega)
    have j1 := j 1 (by omega)
    have j3 := j 3 (by omega)
    have ji := j i (by omega)
    exact ⟨⟨⟨⟨⟨jc.1, js.2.1⟩, trivial⟩, j1.2.2⟩, ⟨⟨⟨⟨⟨⟨⟨⟨⟨js.1, jc.1⟩, j3.2.2⟩, j0.1⟩, ji.1⟩, j0.1⟩, j0.1⟩, j0.1⟩, trivial⟩, rfl⟩⟩, j0.2.1⟩
  · simp only [validB, okWhat, evOk, reOf, evOf, mkE, inB, if_true, beq_self_eq_true, Bool.and_eq_true, decide_eq_true_eq, List.length_nil, true_and, and_true]
    exact ⟨⟨⟨⟨⟨⟨⟨⟨decide_eq_true ⟨by omega, by omega⟩, rfl⟩, rfl⟩, rfl⟩, decide_eq_true ⟨by omega, by omega⟩⟩, rfl⟩, rfl⟩, rfl⟩, decide_eq_true ⟨by omega, by omega⟩⟩
theorem mkR_ok (c : Int) (x : w30_Raw) (hc : 0 ≤ c ∧ c ≤ 8) (hx : RawOk x) : reFits (mkR c x) = true ∧ validB (reOf (mkR c x)) = true := by
  obtain ⟨⟨a1, a2⟩, ⟨b1, b2⟩, ⟨c1, c2⟩, ⟨d1, d2⟩⟩ := hx
  have hz : ckFits ⟨zer16⟩ = true := ck_fits fun i => by rw [zer16_at]; omega
  have hs : sameTo (fun i => if i < 16 then zer16 i else 0) clk0 16 = true := (sameTo_iff _ _ _).2 fun i hi => by rw [if_pos hi, zer16_at]; rfl
  unfold mkR
  by_cases h2 : x.gWhat % 4 = 2
  · rw [if_pos h2]
    constructor
    · unfold reFits
      rw [hz]
      simp [okI, InR, evFits, IntKind.min, IntKind.max, IntKind.signed, IntKind.bits]
      omega
    · simp [validB, okWhat, bareB, reOf, evOf, hs, inB, evEq, ev0]
      omega
  · rw [if_neg h2]
    by_cases h3 : x.gWhat % 4 = 3
    · rw [if_pos h3]
      constructor
      · unfold reFits
        rw [hz]
        simp [okI, InR, evFits, IntKind.min, IntKind.max, IntKind.signed, IntKind.bits]
        omega
      · simp [validB, okWhat, bareB, reOf, evOf, hs, inB, evEq, ev0]
        omega
    · rw [if_neg h3]
      exact mkE_ok c _ _ hc ⟨by omega, by omega⟩ ⟨by omega, by omega⟩
theorem fits_ofRe {y : Re} (hT : ReT y) (ha : y.ev.args.length ≤ 4) : reFits (ofRe y) = true := by
  have h1 := hT.comp
  have h2 := hT.seq
  have h3 := hT.clk
  have h4 := hT.what
  have h5 := hT.ev
  have h6 := hT.count
  unfold reFits ckFits evFits
  simp only [Bool.and_eq_true, List.all_eq_true, okI_iff, decide_eq_true_eq]
  have e1 := h5.tick
  have e2 := h5.comp
  have e3 := h5.kind
  have e4 := h5.peer
  have e5 := h5.n
  have e6 := h5.copy
  have e7 := h5.handler
  have e8 := h5.d
  have e9 := h5.args
  simp only [I64, U64] at *
  have u : ∀ v : Int, 0 ≤ v ∧ v < 18446744073709551616 → InR .u64 v := fun v hv => ⟨hv.1, by show v ≤ 18446744073709551615; omega⟩
  exact ⟨⟨⟨⟨⟨h1, u _ h2⟩, fun i _ => u _ (h3 i)⟩, h4⟩, ⟨⟨⟨⟨⟨⟨⟨⟨⟨e1, e2⟩, e3⟩, e4⟩, e5⟩, e6⟩, e7⟩, e8⟩, e9⟩, by show y.ev.args.length ≤ _; omega⟩⟩, u _ h6⟩
theorem reOf_ofRe (y : Re) : recEq (reOf (ofRe y)) y = true := recEq_iff.2 ⟨rfl, rfl, fun i hi => by simp [reOf, ofRe, hi], rfl, rfl, rfl⟩
theorem recEq_tr {a b c : Re} (h : recEq a b = true) (k : recEq b c = true) : recEq a c = true := by
  obtain ⟨h1, h2, h3, h4, h5, h6⟩ := recEq_iff.1 h
  obtain ⟨k1, k2, k3, k4, k5, k6⟩ := recEq_iff.1 k
  exact recEq_iff.2 ⟨h1.trans k1, h2.trans k2, fun i hi => (h3 i hi).trans (k3 i hi), h4.trans k4, h5.trans k5, h6.trans k6⟩
theorem rec_reads (r : Rk) (hf : reFits r = true) (hv : validB (reOf r) = true) : ∃ q, ReadsAs (recBytes (reOf r)) q ∧ Eqr q r ∧ reFits q = true ∧ (recBytes (reOf r)).length ≤ 400 := by
  have hT := (reFits_T hf).1
  obtain ⟨y, y1, y2⟩ := readRec_of hv hT
  have hb := recBytes_byt hT
  have hl := recBytes_small hT
  obtain ⟨z1, z2, z3, z4⟩ := readRec_ok hb (by omega) y2
  refine ⟨ofRe y, ?_, ?_, fits_ofRe z3 z4, hl⟩
  · unfold ReadsAs record_Read
    have hbo : bytOk (recBytes (reOf r)) = true := by
      unfold bytOk
      simp only [Bool.and_eq_true, List.all_eq_true, okI_iff, decide_eq_true_eq]
      exact ⟨fun b h => ⟨(hb b h).1, (hb b h).2⟩, by omega⟩
    rw [chk_pos hbo, y2]
  · exact recEq_tr (reOf_ofRe y) y1
def GE (c : Int) (r : Rk) : Prop := reFits r = true ∧ ∃ s i, (0 ≤ s ∧ s < 48) ∧ (1 ≤ i ∧ i ≤ 255) ∧ Eqr r (mkE c s i)
theorem eqr_all {x y : Rk} (h : Eqr x y) : x.gComponent = y.gComponent ∧ x.gSeq = y.gSeq ∧ x.gWhat = y.gWhat ∧ x.gEvent.gN = y.gEvent.gN ∧ x.gCount = y.gCount := by
  obtain ⟨h1, h2, h3, h4, h5, h6⟩ := recEq_iff.1 h
  exact ⟨h1, h2, h4, congrArg Ev.n h5, h6⟩
theorem good_GE (c : Int) : Good c (GE c) := by
  refine ⟨fun r ⟨hf, s, i, hs, hi, he⟩ => ?_, fun r ⟨hf, s, i, hs, hi, he⟩ => ?_, fun r ⟨hf, s, i, hs, hi, he⟩ => ?_, fun r ⟨hf, s, i, hs, hi, he⟩ => ?_, fun r h => h.1, fun r q ⟨hf, s, i, hs, hi, he⟩ ⟨hf', s', i', hs', hi', he'⟩ h1 h2 => ?_⟩
  · have := he.seq; show 0 ≤ r.gSeq ∧ r.gSeq < 48; rw [this]; exact hs
  · rw [(eqr_all he).2.2.2.1]; show i ≠ 0; omega
  · rw [(eqr_all he).2.2.1]; rfl
  · rw [(eqr_all he).1]; rfl
  · have e1 : s = s' := by have a := he.seq; have b := he'.seq; have a' : r.gSeq = s := a; have b' : q.gSeq = s' := b; omega
    have e2 : i = i' := by have a : r.gEvent.gN = i := (eqr_all he).2.2.2.1; have b : q.gEvent.gN = i' := (eqr_all he').2.2.2.1; omega
    subst e1 e2
    exact he.trans he'.symm
theorem GE_up (c : Int) (r q : Rk) (h : GE c r) (he : Eqr q r) (hf : reFits q = true) : GE c q := by
  obtain ⟨_, s, i, hs, hi, h⟩ := h
  exact ⟨hf, s, i, hs, hi, he.trans h⟩
theorem toRef_congr {x y : Rk} (h : Eqr x y) : toRef x = toRef y := by
  obtain ⟨h1, h2, h3, h4, h5⟩ := eqr_all h
  unfold toRef; rw [h2, h3, h4, h5]
structure Reads (c : Int) (r : Rk) : Prop where
  small : Small r
  comp : r.gComponent = c
  good : r.gWhat = 1 → GE c r
theorem reads_of {c : Int} {x : w30_Raw} (hc : 0 ≤ c ∧ c ≤ 8) (hx : RawOk x) {r : Rk} (he : Eqr r (mkR c x)) (hf : reFits r = true) : Reads c r := by
  obtain ⟨h1, h2, h3, h4, h5⟩ := eqr_all he
  obtain ⟨⟨a1, a2⟩, ⟨b1, b2⟩, ⟨c1, c2⟩, ⟨d1, d2⟩⟩ := hx
  unfold mkR at h1 h2 h3 h4 h5 he
  by_cases w2 : x.gWhat % 4 = 2
  · rw [if_pos w2] at h1 h2 h3 h4 h5
    simp only at h1 h2 h3 h4 h5
    refine ⟨⟨⟨hf, fun _ => ⟨by omega, by omega⟩⟩, by omega, by omega, fun h => by omega, fun _ => ⟨by omega, by omega⟩⟩, h1, fun h => by omega⟩
  · rw [if_neg w2] at h1 h2 h3 h4 h5 he
    by_cases w3 : x.gWhat % 4 = 3
    · rw [if_pos w3] at h1 h2 h3 h4 h5
      simp only at h1 h2 h3 h4 h5
      refine ⟨⟨⟨hf, fun h => by omega⟩, by omega, by omega, fun h => by omega, fun h => by omega⟩, h1, fun h => by omega⟩
    · rw [if_neg w3] at h1 h2 h3 h4 h5 he
      simp only [mkE] at h1 h2 h3 h4 h5
      refine ⟨⟨⟨hf, fun h => by omega⟩, by omega, by omega, fun h => by omega, fun h => by omega⟩, h1, fun h => ⟨hf, _, _, ⟨by omega, by omega⟩, ⟨by omega, by omega⟩, he⟩⟩
structure FileOk (f : w30_File) : Prop where
  comp : 0 ≤ f.gComponent ∧ f.gComponent ≤ 255
  recs : ∀ x ∈ f.gRecords, RawOk x
theorem flat_frames_len (bs : List (List Int)) (h : ∀ b ∈ bs, b.length ≤ 400) : (bs.flatMap frameOf).length ≤ bs.length * 408 := by
  induction bs with
  | nil => simp
  | cons b bs ih =>
    rw [List.flatMap_cons, List.length_append, frameOf_len]
    have := h b (List.mem_cons_self ..)
    have := ih fun x hx => h x (List.mem_cons_of_mem _ hx)
    simp only [List.length_cons, Nat.succ_mul]; omega
def fileC (f : w30_File) (n : Int) : Int := f.gComponent % (n + 1)
def fileX (f : w30_File) : List w30_Raw := f.gRecords.take 12
def fileB (c : Int) (xs : List w30_Raw) : List (List Int) := xs.map fun x => recBytes (reOf (mkR c x))
theorem bytes_eq (f : w30_File) (n : Int) (hn : 1 ≤ n ∧ n ≤ 8) (hf : FileOk f) : w30_File_bytes f n = some (fileC f n, (fileB (fileC f n) (fileX f)).flatMap frameOf, (fileX f).map fun x => toRef (mkR (fileC f n) x)) := by
  have w0 : IntKind.wrap .i64 f.gComponent = f.gComponent := wrap_i64 (by have := hf.comp; omega) (by have := hf.comp; omega)
  have w1 : IntKind.wrap .i64 (n + 1) = n + 1 := wrap_i64 (by omega) (by omega)
  have hc : 0 ≤ fileC f n ∧ fileC f n ≤ 8 := by
    unfold fileC
    have := hf.comp
    have h1 := Int.emod_nonneg f.gComponent (show n + 1 ≠ 0 by omega)
    have h2 := Int.emod_lt_of_pos f.gComponent (show 0 < n + 1 by omega)
    omega
  unfold w30_File_bytes
  rw [w0, w1, chk_pos ⟨hf.comp.1, by omega⟩]
  have hxs : ∀ x ∈ fileX f, RawOk x := fun x hx => hf.recs x (List.mem_of_mem_take hx)
  have hxl : (fileX f).length = min 12 f.gRecords.length := by unfold fileX; rw [List.length_take]
  have hlen : ∀ j, (((fileB (fileC f n) ((fileX f).take j)).flatMap frameOf).length ≤ 4896) := by
    intro j
    have h1 := flat_frames_len (fileB (fileC f n) ((fileX f).take j)) (fun b hb => by
      obtain ⟨x, hx, rfl⟩ := List.mem_map.1 hb
      have := mkR_ok _ _ hc (hxs x (List.mem_of_mem_take hx))
      exact recBytes_small (reFits_T this.1).1)
    have h2 : (fileB (fileC f n) ((fileX f).take j)).length ≤ 12 := by
      unfold fileB; rw [List.length_map, List.length_take]; omega
    have := Nat.mul_le_mul_right 408 h2
    omega
  rw [whileM_spec (s0 := (([] : List Int), ([] : List e30_Record), (0 : Int))) (e := .inl ((fileB (fileC f n) (fileX f)).flatMap frameOf, (fileX f).map fun x => toRef (mkR (fileC f n) x))) (fileX f).length (fun j => ((fileB (fileC f n) ((fileX f).take j)).flatMap frameOf, ((fileX f).take j).map fun x => toRef (mkR (fileC f n) x), (j : Int))) (by simp [fileB]) (by omega) (fun j hj => ?_) ?_]
  · simp only [Option.bind_some]
    unfold w30_File_bytes_K1
    rw [w0, w1]
    rfl
  · unfold w30_File_bytes_L2
    have hd : ((decide (((fileX f).length : Int) < (List.length f.gRecords : Int))) && (decide (((fileX f).length : Int) < 12))) = false := by
      rw [Bool.eq_false_iff]
      simp only [ne_eq, Bool.and_eq_true, decide_eq_true_eq]; omega
    dsimp only
    rw [hd]
    simp
  · have hj1 : j < f.gRecords.length := by omega
    have hj2 : j < 12 := by omega
    unfold w30_File_bytes_L2
    have hd : ((decide ((j : Int) < (List.length f.gRecords : Int))) && (decide ((j : Int) < 12))) = true := by
      simp only [Bool.and_eq_true, decide_eq_true_eq]; omega
    dsimp only
    rw [hd, if_pos rfl, idx_lt hj1, Option.bind_some, w0, w1]
    have hgx : f.gRecords[j] = (fileX f)[j] := (List.getElem_take (xs := f.gRecords) (j := 12) (i := j) (h := hj)).symm
    rw [hgx]
    have hx := hxs _ (List.getElem_mem hj)
    generalize hxv : (fileX f)[j] = x at hx
    have tk : (fileX f).take (j + 1) = (fileX f).take j ++ [x] := by rw [List.take_succ_eq_append_getElem hj, hxv]
    have hm := make_eq x (fileC f n) hx hc
    have hmk := mkR_ok _ _ hc hx
    have hm' : w30_Raw_make x (f.gComponent % (n + 1)) = some (mkR (fileC f n) x, toRef (mkR (fileC f n) x)) := hm
    rw [hm', Option.bind_some]
    have hb : RRec_Bytes (mkR (fileC f n) x) = some (recBytes (reOf (mkR (fileC f n) x))) := by unfold RRec_Bytes; rw [chk_pos hmk.1]
    dsimp only
    have hl := hlen j
    have hbl := recBytes_small (reFits_T hmk.1).1
    rw [hb, Option.bind_some, append_eq _ _ (by omega) (by omega), Option.bind_some]
    dsimp only
    rw [if_neg (by decide), chk_pos (by simp [apOk]; omega)]
    have wj : IntKind.wrap .i64 ((j : Int) + 1) = ((j + 1 : Nat) : Int) := by rw [wrap_i64 (by omega) (by omega)]; omega
    rw [wj, tk]
    simp [fileB]
theorem fileC_rng (f : w30_File) (n : Int) (hn : 1 ≤ n ∧ n ≤ 8) : 0 ≤ fileC f n ∧ fileC f n ≤ n := by
  unfold fileC
  have h1 := Int.emod_nonneg f.gComponent (show n + 1 ≠ 0 by omega)
  have h2 := Int.emod_lt_of_pos f.gComponent (show 0 < n + 1 by omega)
  omega
theorem reads_list (c : Int) (hc : 0 ≤ c ∧ c ≤ 8) : ∀ xs : List w30_Raw, (∀ x ∈ xs, RawOk x) → ∃ rs : List Rk, rs.length = xs.length ∧ (∀ (k : Nat) (b : List Int) (r : Rk), (fileB c xs)[k]? = some b → rs[k]? = some r → ReadsAs b r) ∧ (∀ r ∈ rs, Reads c r) ∧ (rs.map toRef = xs.map fun x => toRef (mkR c x)) ∧ ∀ b ∈ fileB c xs, b.length ≤ 400
  | [], _ => ⟨[], rfl, fun k b r h => by simp [fileB] at h, fun r hr => (by cases hr), rfl, fun b hb => by simp [fileB] at hb⟩
  | x :: xs, h => by
    obtain ⟨rs, h1, h2, h3, h4, h5⟩ := reads_list c hc xs fun y hy => h y (List.mem_cons_of_mem _ hy)
    have hx := h x (List.mem_cons_self ..)
    have hm := mkR_ok c x hc hx
    obtain ⟨q, q1, q2, q3, q4⟩ := rec_reads _ hm.1 hm.2
    refine ⟨q :: rs, by simp [h1], fun k b r hb hr => ?_, fun r hr => ?_, ?_, fun b hb => ?_⟩
    · cases k with
      | zero =>
        simp [fileB] at hb hr
        subst hb hr
        exact q1
      | succ k => exact h2 k b r (by simpa [fileB] using hb) (by simpa using hr)
    · rcases List.mem_cons.1 hr with rfl | hr
      · exact reads_of hc hx q2 q3
      · exact h3 r hr
    · rw [List.map_cons, List.map_cons, h4, toRef_congr q2]
    · rcases List.mem_cons.1 hb with rfl | hb
      · exact q4
      · exact h5 b hb
theorem file_read (f : w30_File) (n : Int) (hn : 1 ≤ n ∧ n ≤ 8) (hf : FileOk f) : ∃ (p : List Int) (rs : List Rk), w30_File_bytes f n = some (fileC f n, p, rs.map toRef) ∧ recorder_Read p = some (rs, 0) ∧ (∀ r ∈ rs, Reads (fileC f n) r) ∧ rs.length ≤ 12 := by
  have hc := fileC_rng f n hn
  obtain ⟨rs, h1, h2, h3, h4, h5⟩ := reads_list (fileC f n) ⟨hc.1, by omega⟩ (fileX f) fun x hx => hf.recs x (List.mem_of_mem_take hx)
  have hxl : (fileX f).length = min 12 f.gRecords.length := by unfold fileX; rw [List.length_take]
  refine ⟨_, rs, ?_, read_frames (fileB (fileC f n) (fileX f)) rs (fun b hb => by have := h5 b hb; omega) (by unfold fileB; rw [List.length_map, h1]) h2 (by unfold fileB; rw [List.length_map]; omega), h3, by omega⟩
  rw [bytes_eq f n hn hf, h4]
end Go.Proofs.YtepkcbalmjnhpaaGreat
set_option maxRecDepth 100000
set_option maxHeartbeats 1000000
set_option linter.unusedVariables false
set_option linter.unusedSimpArgs false
namespace Go.Proofs.YtepkcbalmjnhpaaGreat
open Go.RowKit
theorem awake30 : w30_awake = some true := by kernel_rfl
structure Inv (n : Nat) (parts : List CPart) (Ks : List Kn) : Prop where
  len : parts.length = n + 1
  lenK : Ks.length = n + 1
  rel : ∀ (i : Nat) (hi : i < parts.length) (hi2 : i < Ks.length), Rel (GE (i : Int)) parts[i] Ks[i]
theorem Inv.agrees {n : Nat} {parts : List CPart} {Ks : List Kn} (h : Inv n parts Ks) (hn : n ≤ 8) : w30_agrees_a ⟨parts⟩ Ks = some true :=
  agrees_eq (G := fun i => GE (i : Int)) parts Ks (by rw [h.len, h.lenK]) (by rw [h.len]; omega) (by rw [h.len]; omega) (fun i => good_GE _) h.rel
theorem reads_news {c : Int} {rs : List Rk} (h : ∀ r ∈ rs, Reads c r) (hl : rs.length ≤ 68719476736) : News (GE c) (partRaw rs) := by
  refine ⟨fun r hr => ?_, fun x hx => ?_, (partRaw_W hl fun r hr => (h r hr).small.ok).tot⟩
  · have := mem_ents.1 hr
    exact (h r this.1).good this.2
  · obtain ⟨s, s1, s2, s3⟩ := hx
    obtain ⟨r, r1, rfl⟩ := List.mem_map.1 s1
    have r2 := List.mem_filter.1 r1
    have r3 : r.gWhat = 2 := by simpa using r2.2
    have hs := (h r r2.1).small
    have h1 := hs.lost r3
    have h2 := hs.seq
    simp only [spanOf] at s2 s3
    omega
theorem Inv.set {n : Nat} {parts : List CPart} {Ks : List Kn} (h : Inv n parts Ks) {c : Nat} (hc : c < n + 1) {m : CPart} {K : Kn} (hR : Rel (GE (c : Int)) m K) : Inv n (parts.set c m) (Ks.set c K) := by
  refine ⟨by rw [List.length_set]; exact h.len, by rw [List.length_set]; exact h.lenK, fun i hi hi2 => ?_⟩
  rw [List.getElem_set, List.getElem_set]
  by_cases e : c = i
  · subst e; rw [if_pos rfl, if_pos rfl]; exact hR
  · rw [if_neg e, if_neg e]
    exact h.rel i (by rw [List.length_set] at hi; exact hi) (by rw [List.length_set] at hi2; exact hi2)
theorem set_self {α : Type} (l : List α) (i : Nat) (h : i < l.length) : l.set i l[i] = l := by
  apply List.ext_getElem?
  intro k
  rw [List.getElem?_set]
  by_cases e : i = k
  · subst e; rw [if_pos rfl, if_pos h, List.getElem?_eq_getElem h]
  · rw [if_neg e]
theorem add_step {n : Nat} {parts : List CPart} {Ks : List Kn} (h : Inv n parts Ks) (hn : n ≤ 8) (c : Nat) (hc : c < n + 1) (p : List Int) (rs : List Rk) (lost : Int) (hr : recorder_Read p = some (rs, lost)) (hrs : ∀ r ∈ rs, Reads (c : Int) r) (hl : rs.length ≤ 1000000) :
    ∃ K ok e parts', e30_Add (Ks[c]'(by rw [h.lenK]; exact hc)) (rs.map toRef) = some (K, ok) ∧ CColl_Add_a (c : Int) p ⟨parts⟩ = some (e, ⟨parts'⟩) ∧ ((ok = true ∧ e = 0) ∨ (ok = false ∧ e = 14 ∧ parts' = parts ∧ K = Ks[c]'(by rw [h.lenK]; exact hc))) ∧ Inv n parts' (Ks.set c K) := by
  have hcp : c < parts.length := by rw [h.len]; exact hc
  have hck : c < Ks.length := by rw [h.lenK]; exact hc
  have hR := h.rel c hcp hck
  have hG := good_GE (c : Int)
  have hN := reads_news hrs (by omega)
  have hW := partRaw_W (l := rs) (by omega) fun r hr => (hrs r hr).small.ok
  obtain ⟨K, ok, k1, k2⟩ := refAdd_spec Ks[c] hR.rng rs (by omega) fun r hr => (hrs r hr).small
  have hcomp : ∀ r ∈ rs, r.gComponent = (c : Int) := fun r hr => (hrs r hr).comp
  have hd : ¬ ((decide ((c : Int) < 0)) || (decide ((List.length parts : Int) ≤ (c : Int)))) = true := by
    simp only [Bool.or_eq_true, decide_eq_true_eq]; omega
  have no : ¬ Fit2 parts[c] (partRaw rs) ∨ ¬ partFit rs (c : Int) → CColl_Add_a (c : Int) p ⟨parts⟩ = some (14, ⟨parts⟩) := by
    intro hno
    unfold CColl_Add_a
    dsimp only
    rw [if_neg hd, hr, Option.bind_some]
    rcases partOf_spec rs (c : Int) (by omega) (fun r hr => (hrs r hr).small.ok) with ⟨_, q2⟩ | ⟨q1, q2⟩
    · dsimp only; rw [q2]; rfl
    · dsimp only
      rw [q2, Option.bind_some]
      simp only [Bool.not_true, Bool.false_eq_true, if_false, idx_lt hcp, Option.bind_some]
      rcases merge_spec parts[c] (partRaw rs) (hR.PW hG) hW with ⟨_, m2⟩ | ⟨m1, _⟩
      · rw [m2]; rfl
      · rcases hno with h1 | h1
        · exact absurd m1 h1
        · exact absurd q1 h1
  have fail : ok = false → K = Ks[c] → (¬ Fit2 parts[c] (partRaw rs) ∨ ¬ partFit rs (c : Int)) → ∃ K ok e parts', e30_Add Ks[c] (rs.map toRef) = some (K, ok) ∧ CColl_Add_a (c : Int) p ⟨parts⟩ = some (e, ⟨parts'⟩) ∧ ((ok = true ∧ e = 0) ∨ (ok = false ∧ e = 14 ∧ parts' = parts ∧ K = Ks[c])) ∧ Inv n parts' (Ks.set c K) := by
    intro h1 h2 h3
    refine ⟨K, ok, 14, parts, k1, no h3, .inr ⟨h1, rfl, rfl, h2⟩, ?_⟩
    rw [h2, set_self _ _ hck]; exact h
  rcases k2 with ⟨rfl, j1, j2, j3⟩ | ⟨rfl, rfl, j1 | j1 | ⟨K1, j1, j2⟩⟩
  · have hF := (join_fit hG hR hN j1).2 j2
    have hpf : partFit rs (c : Int) := ⟨hcomp, j3⟩
    rcases merge_spec parts[c] (partRaw rs) (hR.PW hG) hW with ⟨m1, _⟩ | ⟨_, m, m2, m3⟩
    · exact absurd hF m1
    · have hRel := join_rel hG (GE_up _) hR hN j1 hF m3
      refine ⟨K, true, 0, parts.set c m, k1, ?_, .inl ⟨rfl, rfl⟩, h.set hc hRel⟩
      unfold CColl_Add_a
      dsimp only
      rw [if_neg hd, hr, Option.bind_some]
      rcases partOf_spec rs (c : Int) (by omega) (fun r hr => (hrs r hr).small.ok) with ⟨q1, _⟩ | ⟨_, q2⟩
      · exact absurd hpf q1
      · dsimp only
        rw [q2, Option.bind_some]
        simp only [Bool.not_true, Bool.false_eq_true, if_false, idx_lt hcp, Option.bind_some, m2, Int.toNat_natCast]
  · exact fail rfl rfl (.inl (clash_not hG hR hN j1))
  · exact fail rfl rfl (.inr fun h => j1 h.2)
  · exact fail rfl rfl (.inl fun hF => j2 ((join_fit hG hR hN j1).1 hF))
theorem add_loop {n : Nat} {parts : List CPart} {Ks : List Kn} (h : Inv n parts Ks) (hn : 1 ≤ n ∧ n ≤ 8) (l : List w30_File) (hl : ∀ f ∈ l, FileOk f) : ∃ parts' Ks', w30_add_a (n : Int) l ⟨parts⟩ Ks = some (true, ⟨parts'⟩, Ks') ∧ Inv n parts' Ks' := by
  unfold w30_add_a
  have hInd := whileM_ind (S := (List Kn) × Int × (List CPart)) (E := ((List Kn) × (List CPart)) ⊕ (Bool × CColl × (List Kn))) (step := fun s => w30_add_a_L2 (n : Int) l s.1 s.2.1 s.2.2) (s0 := (Ks, 0, parts)) (fun s => ∃ i : Nat, s.2.1 = (i : Int) ∧ i ≤ l.length ∧ i ≤ 8 ∧ Inv n s.2.2 s.1) (fun s => (8 - s.2.1).toNat) (fun e => ∃ parts' Ks', e = .inl (Ks', parts') ∧ Inv n parts' Ks') ⟨0, rfl, Nat.zero_le _, by omega, h⟩ (by (try dsimp only); omega) ?_
  · obtain ⟨e, h1, parts', Ks', rfl, h2⟩ := hInd
    rw [h1]
    exact ⟨parts', Ks', rfl, h2⟩
  · rintro ⟨Ks1, ii, parts1⟩ ⟨i, h1, h2, h3, hI⟩
    dsimp only at h1 hI ⊢
    subst h1
    unfold w30_add_a_L2
    by_cases hc : i < l.length ∧ i < 8
    · have hd : ((decide ((i : Int) < (List.length l : Int))) && (decide ((i : Int) < 8))) = true := by
        simp only [Bool.and_eq_true, decide_eq_true_eq]; omega
      have hf := hl _ (List.getElem_mem hc.1)
      rw [hd, if_pos rfl, idx_lt hc.1, Option.bind_some]
      generalize l[i]'hc.1 = f at hf ⊢
      obtain ⟨p, rs, b1, b2, b3, b4⟩ := file_read f (n : Int) (by omega) hf
      have hfc := fileC_rng f (n : Int) (by omega)
      obtain ⟨c, hcc⟩ : ∃ c : Nat, fileC f (n : Int) = (c : Int) := ⟨(fileC f (n : Int)).toNat, by omega⟩
      rw [hcc] at b1 b3 hfc
      have hc1 : c < n + 1 := by omega
      have hck : c < Ks1.length := by rw [hI.lenK]; exact hc1
      obtain ⟨K, ok, e, parts', a1, a2, a3, a4⟩ := add_step hI hn.2 c hc1 p rs 0 b2 b3 (by omega)
      have hag := a4.agrees hn.2
      have wi : IntKind.wrap .i64 ((i : Int) + 1) = ((i + 1 : Nat) : Int) := by rw [wrap_i64 (by omega) (by omega)]; omega
      rw [b1, Option.bind_some]
      dsimp only
      rw [a2, Option.bind_some]
      simp only [idx_lt hck, Option.bind_some, a1, Int.toNat_natCast]
      refine .inl ⟨(Ks1.set c K, ((i + 1 : Nat) : Int), parts'), ?_, ⟨i + 1, rfl, by omega, by omega, a4⟩, by (try dsimp only); omega⟩
      rcases a3 with ⟨rfl, rfl⟩ | ⟨rfl, rfl, _, _⟩
      · simp [gb, hag, wi]
      · simp [gb, hag, wi]
    · have hd : ((decide ((i : Int) < (List.length l : Int))) && (decide ((i : Int) < 8))) = false := by
        rw [Bool.eq_false_iff]
        simp only [ne_eq, Bool.and_eq_true, decide_eq_true_eq]; omega
      rw [hd]
      exact .inr ⟨_, rfl, parts1, Ks1, rfl, hI⟩
def kn0 : Kn := ⟨arr 0 [0, 0, 0, 0, 0, 0, 0, 0, 0, 0, 0, 0, 0, 0, 0, 0, 0, 0, 0, 0, 0, 0, 0, 0, 0, 0, 0, 0, 0, 0, 0, 0, 0, 0, 0, 0, 0, 0, 0, 0, 0, 0, 0, 0, 0, 0, 0, 0], arr false [false, false, false, false, false, false, false, false, false, false, false, false, false, false, false, false, false, false, false, false, false, false, false, false, false, false, false, false, false, false, false, false, false, false, false, false, false, false, false, false, false, false, false, false, false, false, false, false], -1⟩
theorem kn0_ids (i : Nat) : kn0.gIds i = 0 := by
  show arr 0 [0, 0, 0, 0, 0, 0, 0, 0, 0, 0, 0, 0, 0, 0, 0, 0, 0, 0, 0, 0, 0, 0, 0, 0, 0, 0, 0, 0, 0, 0, 0, 0, 0, 0, 0, 0, 0, 0, 0, 0, 0, 0, 0, 0, 0, 0, 0, 0] i = 0
  unfold arr
  match i with
  | 0 | 1 | 2 | 3 | 4 | 5 | 6 | 7 | 8 | 9 | 10 | 11 | 12 | 13 | 14 | 15 | 16 | 17 | 18 | 19 | 20 | 21 | 22 | 23 | 24 | 25 | 26 | 27 | 28 | 29 | 30 | 31 | 32 | 33 | 34 | 35 | 36 | 37 | 38 | 39 | 40 | 41 | 42 | 43 | 44 | 45 | 46 | 47 => rfl
  | n + 48 => rfl
theorem kn0_lost (i : Nat) : kn0.gLost i = false := by
  show arr false [false, false, false, false, false, false, false, false, false, false, false, false, false, false, false, false, false, false, false, false, false, false, false, false, false, false, false, false, false, false, false, false, false, false, false, false, false, false, false, false, false, false, false, false, false, false, false, false] i = false
  unfold arr
  match i with
  | 0 | 1 | 2 | 3 | 4 | 5 | 6 | 7 | 8 | 9 | 10 | 11 | 12 | 13 | 14 | 15 | 16 | 17 | 18 | 19 | 20 | 21 | 22 | 23 | 24 | 25 | 26 | 27 | 28 | 29 | 30 | 31 | 32 | 33 | 34 | 35 | 36 | 37 | 38 | 39 | 40 | 41 | 42 | 43 | 44 | 45 | 46 | 47 => rfl
  | n + 48 => rfl
theorem rel0 (G : Rk → Prop) : Rel G part0 kn0 := by
  refine ⟨List.Pairwise.nil, fun r hr => (by cases hr), fun s hs h => absurd (kn0_ids s) h, ⟨List.Pairwise.nil, fun s hs => (by cases hs)⟩, fun x => ⟨fun h => absurd h (inS_nil x), fun ⟨s, _, _, h, _⟩ => by rw [kn0_lost] at h; cases h⟩, fun s hs => (by cases hs), rfl, rfl, ⟨by decide, by decide⟩, Nat.zero_le _, Nat.zero_le _⟩
theorem inv0 (n : Nat) : Inv n (List.replicate (n + 1) part0) (List.replicate (n + 1) kn0) := by
  refine ⟨List.length_replicate, List.length_replicate, fun i hi hi2 => ?_⟩
  rw [List.getElem_replicate, List.getElem_replicate]
  exact rel0 _
def nOf (x0 : Int) : Nat := (1 + x0 % 3).toNat
theorem begin_eq (x0 : Int) (hx : 0 ≤ x0 ∧ x0 ≤ 255) : w30_begin x0 = some (⟨List.replicate (nOf x0 + 1) part0⟩, List.replicate (nOf x0 + 1) kn0, (nOf x0 : Int)) := by
  have h3 : (nOf x0 : Int) = 1 + x0 % 3 := by unfold nOf; omega
  have w1 : IntKind.wrap .i64 (x0 % 3) = x0 % 3 := wrap_i64 (by omega) (by omega)
  have w2 : IntKind.wrap .i64 (1 + x0 % 3) = (nOf x0 : Int) := by rw [wrap_i64 (by omega) (by omega)]; omega
  have w3 : IntKind.wrap .i64 ((nOf x0 : Int) + 1) = ((nOf x0 + 1 : Nat) : Int) := by rw [wrap_i64 (by omega) (by omega)]; omega
  have hn : nOf x0 ≤ 3 := by omega
  have h1 : 1 ≤ nOf x0 := by omega
  unfold w30_begin
  rw [chk_pos ⟨hx.1, by decide⟩, w1, w2]
  unfold collect_New
  have hd : ¬ ((decide ((nOf x0 : Int) < 1)) || (decide (8 < (nOf x0 : Int)))) = true := by
    simp only [Bool.or_eq_true, decide_eq_true_eq]; omega
  rw [if_neg hd, w3, chk_pos (by unfold mkOk; omega), Option.bind_some, Int.toNat_natCast]
  dsimp only
  rw [foldM_spec (s0 := ([] : List Kn)) (nOf x0 + 1) (fun j => List.replicate j kn0) rfl rfl (by omega) (fun j hj => ?_)]
  · rw [Option.bind_some]
    unfold w30_begin_K1
    rw [w1, w2]
    rfl
  · unfold w30_begin_L2
    have : e30_New = some kn0 := rfl
    rw [this, Option.bind_some, chk_pos (by simp [apOk]; omega)]
    rw [List.replicate_succ']
theorem adds_law (x0 : Int) (x1 : List w30_File) (hx : 0 ≤ x0 ∧ x0 ≤ 255) (hl : ∀ f ∈ x1, FileOk f) : w30_CollectAdds x0 x1 = some true := by
  have hn : 1 ≤ nOf x0 ∧ nOf x0 ≤ 8 := by unfold nOf; omega
  unfold w30_CollectAdds
  rw [begin_eq x0 hx, Option.bind_some]
  dsimp only
  obtain ⟨parts', Ks', h1, h2⟩ := add_loop (inv0 (nOf x0)) hn x1 hl
  rw [awake30, Option.bind_some, (inv0 (nOf x0)).agrees hn.2]
  simp only [Bool.and_true, gb, if_true, Option.bind_some, h1]
theorem collected_eq (x0 : Int) (x1 : List w30_File) (hx : 0 ≤ x0 ∧ x0 ≤ 255) (hl : ∀ f ∈ x1, FileOk f) : ∃ parts Ks, w30_collected x0 x1 = some (.inl (⟨parts⟩, Ks)) ∧ Inv (nOf x0) parts Ks := by
  have hn : 1 ≤ nOf x0 ∧ nOf x0 ≤ 8 := by unfold nOf; omega
  obtain ⟨parts', Ks', h1, h2⟩ := add_loop (inv0 (nOf x0)) hn x1 hl
  refine ⟨parts', Ks', ?_, h2⟩
  unfold w30_collected
  rw [begin_eq x0 hx, Option.bind_some]
  dsimp only
  rw [h1]
  rfl
end Go.Proofs.YtepkcbalmjnhpaaGreat
set_option maxRecDepth 100000
set_option maxHeartbeats 1000000
set_option linter.unusedVariables false
set_option linter.unusedSimpArgs false
namespace Go.Proofs.YtepkcbalmjnhpaaGreat
open Go.RowKit
theorem rel_news {G : Rk → Prop} {c : Int} (hG : Good c G) {o : CPart} {B : Kn} (h : Rel G o B) : News G o :=
  ⟨fun r hr => (h.good r hr).1, fun x hx => by obtain ⟨s, s1, rfl, _⟩ := (h.lost x).1 hx; omega, (h.PW hG).tot⟩
theorem refMerge_spec {G : Rk → Prop} {c : Int} (hG : Good c G) {A B : Kn} {o : CPart} (hA : -1 ≤ A.gTotal ∧ A.gTotal < 48) (hB : Rel G o B) : ∃ K ok, e30_Merge A B = some (K, ok) ∧ ((ok = true ∧ Joined A o K ∧ Sound K) ∨ (ok = false ∧ K = A ∧ (Clash A o ∨ ∃ K1, Joined A o K1 ∧ ¬ Sound K1))) := by
  have has : ∀ s : Nat, s < 48 → ∀ i, i ≠ 0 → ((∃ r ∈ o.gentries, r.gSeq = (s : Int) ∧ r.gEvent.gN = i) ↔ B.gIds s = i) := fun s hs i hi => by
    constructor
    · rintro ⟨r, r1, r2, r3⟩
      have := (hB.good r r1).2
      rw [r2, Int.toNat_natCast] at this
      rw [this, r3]
    · intro h
      obtain ⟨r, r1, r2⟩ := hB.cov s hs (by rw [h]; exact hi)
      have := (hB.good r r1).2
      rw [r2, Int.toNat_natCast] at this
      exact ⟨r, r1, r2, by rw [← this, h]⟩
  have hlo : ∀ s : Nat, s < 48 → B.gIds s = 0 → (inS o.glost (s : Int) ↔ B.gLost s = true) := fun s hs h0 => by
    rw [hB.lost]
    constructor
    · rintro ⟨q, q1, q2, q3, q4⟩
      have : q = s := by omega
      subst this; exact q3
    · intro h; exact ⟨s, hs, rfl, h, h0⟩
  have hto : ∀ t, 0 ≤ t → ((o.gknown = true ∧ o.gtotal = t) ↔ B.gTotal = t) := fun t ht => by
    rw [hB.kno, hB.tot, decide_eq_true_eq]
    constructor
    · rintro ⟨h1, h2⟩; rw [if_pos h1] at h2; exact h2
    · intro h; rw [if_pos (by omega)]; exact ⟨by omega, h⟩
  unfold e30_Merge
  have hInd := forM_ind (S := (Nat → Int) × (Nat → Bool)) (E := Kn × Bool) (mx := 9223372036854775807) (n := 48) (body := fun k9 s => e30_Merge_L3 A B k9 s.1 s.2) (s0 := (A.gIds, A.gLost))
    (fun k s => (∀ j : Nat, s.1 j = if j < k ∧ B.gIds j ≠ 0 then B.gIds j else A.gIds j) ∧ (∀ j : Nat, s.2 j = if j < k then (A.gLost j || B.gLost j) else A.gLost j) ∧ ∀ j : Nat, j < k → B.gIds j ≠ 0 → A.gIds j ≠ 0 → A.gIds j = B.gIds j)
    (fun t => match t with
      | .next s => (∀ j : Nat, s.1 j = if j < 48 ∧ B.gIds j ≠ 0 then B.gIds j else A.gIds j) ∧ (∀ j : Nat, s.2 j = if j < 48 then (A.gLost j || B.gLost j) else A.gLost j) ∧ ∀ j : Nat, j < 48 → B.gIds j ≠ 0 → A.gIds j ≠ 0 → A.gIds j = B.gIds j
      | .done r => r = (A, false) ∧ Clash A o)
    (by decide) (by decide) ⟨fun j => by simp, fun j => by simp, fun j h => by omega⟩ ?_ (fun s h => h)
  · obtain ⟨t, t1, t2⟩ := hInd
    rw [t1]
    cases t with
    | done r =>
      obtain ⟨rfl, h⟩ := t2
      exact ⟨A, false, rfl, .inr ⟨rfl, rfl, .inl h⟩⟩
    | next s =>
      obtain ⟨h1, h2, h3⟩ := t2
      simp only [Option.bind_some]
      have jids : ∀ j : Nat, j < 48 → ∀ i, i ≠ 0 → (s.1 j = i ↔ A.gIds j = i ∨ B.gIds j = i) := fun j hj i hi => by
        rw [h1]
        by_cases hb : B.gIds j = 0
        · rw [if_neg (fun h => h.2 hb), hb]
          exact ⟨fun h => .inl h, fun h => h.elim id fun h => absurd h.symm hi⟩
        · rw [if_pos ⟨hj, hb⟩]
          constructor
          · intro h; exact .inr h
          · rintro (h | h)
            · rw [← h3 j hj hb (by rw [h]; exact hi)]; exact h
            · exact h
      -- the total that is told behind
      have fin : ∀ T : Int, (∀ t, 0 ≤ t → (T = t ↔ A.gTotal = t ∨ B.gTotal = t)) → -1 ≤ T ∧ T < 48 → ∃ K ok, e30_Merge_K2 A s.1 s.2 T = some (K, ok) ∧ ((ok = true ∧ Joined A o K ∧ Sound K) ∨ (ok = false ∧ K = A ∧ (Clash A o ∨ ∃ K1, Joined A o K1 ∧ ¬ Sound K1))) := by
        intro T hT hrng
        have hJ : Joined A o ⟨s.1, s.2, T⟩ := by
          refine ⟨fun j hj i hi => ?_, fun j hj h0 => ?_, fun t ht => ?_, hrng⟩
          · rw [has j hj i hi]; exact jids j hj i hi
          · have hb : B.gIds j = 0 := Classical.byContradiction fun hb => by
              have h0' : s.1 j = 0 := h0
              rw [h1, if_pos ⟨hj, hb⟩] at h0'
              exact hb h0'
            rw [hlo j hj hb]
            show s.2 j = true ↔ _
            rw [h2, if_pos hj, Bool.or_eq_true]
          · rw [hto t ht]; exact hT t ht
        unfold e30_Merge_K2
        obtain ⟨b, b1, b2⟩ := sound_eq ⟨s.1, s.2, T⟩
        rw [b1, Option.bind_some]
        cases b with
        | true => exact ⟨_, true, rfl, .inl ⟨rfl, hJ, b2.1 rfl⟩⟩
        | false => exact ⟨A, false, rfl, .inr ⟨rfl, rfl, .inr ⟨_, hJ, fun h => by have := b2.2 h; cases this⟩⟩⟩
      unfold e30_Merge_K1
      have hbr := hB.rng
      by_cases c1 : 0 ≤ B.gTotal
      · rw [if_pos (by simpa using c1)]
        by_cases c2 : 0 ≤ A.gTotal ∧ A.gTotal ≠ B.gTotal
        · rw [if_pos (by simpa using c2)]
          refine ⟨A, false, rfl, .inr ⟨rfl, rfl, .inl (.inr (.inr ⟨c2.1, ?_, ?_⟩))⟩⟩
          · exact ((hto _ c1).2 rfl).1
          · rw [((hto _ c1).2 rfl).2]; exact c2.2
        · rw [if_neg (by simpa using c2)]
          refine fin _ (fun t ht => ?_) hbr
          constructor
          · intro h; exact .inr h
          · rintro (h | h)
            · refine Classical.byContradiction fun hne => c2 ⟨by omega, by omega⟩
            · exact h
      · rw [if_neg (by simpa using c1)]
        refine fin _ (fun t ht => ?_) hA
        constructor
        · intro h; exact .inl h
        · rintro (h | h)
          · exact h
          · omega
  · rintro k ⟨ids, lost⟩ hk ⟨h1, h2, h3⟩
    have hk' : k < 48 := by omega
    dsimp only at h1 h2 ⊢
    have hk1 : ids k = A.gIds k := by rw [h1, if_neg (fun h => Nat.lt_irrefl _ h.1)]
    have hi : inA 48 (k : Int) := inA48 hk'
    unfold e30_Merge_L3
    rw [chk_pos hi, chk_pos (fun _ => hi), chk_pos (fun _ => hi), chk_pos (fun _ => hi), Int.toNat_natCast]
    have nextL : ∀ j : Nat, upd lost k (lost k || B.gLost k) j = if j < k + 1 then (A.gLost j || B.gLost j) else A.gLost j := fun j => by
      unfold upd
      by_cases e : j = k
      · subst e; rw [if_pos rfl, if_pos (by omega), h2, if_neg (Nat.lt_irrefl _)]
      · rw [if_neg e, h2]
        by_cases hj : j < k
        · rw [if_pos hj, if_pos (by omega)]
        · rw [if_neg hj, if_neg (by omega)]
    by_cases c1 : (B.gIds k ≠ 0 ∧ ids k ≠ 0) ∧ ids k ≠ B.gIds k
    · rw [if_pos (by simpa using c1)]
      refine .inr ⟨_, rfl, rfl, .inl ?_⟩
      obtain ⟨r, r1, r2, r3⟩ := (has k hk' _ c1.1.1).2 rfl
      exact ⟨r, r1, by rw [r2, Int.toNat_natCast, ← hk1]; exact c1.1.2, by rw [r2, Int.toNat_natCast, ← hk1, r3]; exact c1.2⟩
    · rw [if_neg (by simpa using c1), chk_pos hi]
      by_cases c2 : B.gIds k ≠ 0
      · rw [if_pos (by simpa using c2), chk_pos hi, chk_pos hi]
        unfold e30_Merge_K4
        rw [chk_pos hi, chk_pos (fun _ => hi), chk_pos hi, Int.toNat_natCast]
        refine .inl ⟨_, rfl, fun j => ?_, nextL, fun j hj hb ha => ?_⟩
        · show upd ids k (B.gIds k) j = _
          unfold upd
          by_cases e : j = k
          · subst e; rw [if_pos rfl, if_pos ⟨by omega, c2⟩]
          · rw [if_neg e, h1]
            by_cases hb : B.gIds j = 0
            · rw [if_neg (fun h => h.2 hb), if_neg (fun h => h.2 hb)]
            · by_cases hj : j < k
              · rw [if_pos ⟨hj, hb⟩, if_pos ⟨by omega, hb⟩]
              · rw [if_neg (fun h => hj h.1), if_neg (fun h => by omega)]
        · by_cases e : j = k
          · subst e
            refine Classical.byContradiction fun hne => c1 ⟨⟨hb, by rw [hk1]; exact ha⟩, by rw [hk1]; exact hne⟩
          · exact h3 j (by omega) hb ha
      · rw [if_neg (by simpa using c2)]
        unfold e30_Merge_K4
        rw [chk_pos hi, chk_pos (fun _ => hi), chk_pos hi, Int.toNat_natCast]
        have c2' : B.gIds k = 0 := Classical.byContradiction c2
        refine .inl ⟨_, rfl, fun j => ?_, nextL, fun j hj hb ha => ?_⟩
        · show ids j = _
          rw [h1]
          by_cases hb : B.gIds j = 0
          · rw [if_neg (fun h => h.2 hb), if_neg (fun h => h.2 hb)]
          · have e : j ≠ k := fun e => hb (by rw [e]; exact c2')
            by_cases hj : j < k
            · rw [if_pos ⟨hj, hb⟩, if_pos ⟨by omega, hb⟩]
            · rw [if_neg (fun h => hj h.1), if_neg (fun h => by omega)]
        · have e : j ≠ k := fun e => hb (by rw [e]; exact c2')
          exact h3 j (by omega) hb ha
theorem part_eta (o : CPart) : CPart.mk o.gentries o.glost o.gknown o.gtotal = o := rfl
theorem merge_one {c : Int} {p o : CPart} {A B : Kn} (hp : Rel (GE c) p A) (ho : Rel (GE c) o B) : ∃ K ok m, e30_Merge A B = some (K, ok) ∧ CPart_merge p o = some (m, ok) ∧ (ok = true → Rel (GE c) m K) := by
  have hG := good_GE c
  have hN := rel_news hG ho
  obtain ⟨K, ok, k1, k2⟩ := refMerge_spec hG hp.rng ho
  have fail : ok = false → ¬ Fit2 p o → ∃ K ok m, e30_Merge A B = some (K, ok) ∧ CPart_merge p o = some (m, ok) ∧ (ok = true → Rel (GE c) m K) := by
    rintro rfl h
    rcases merge_spec p o (hp.PW hG) (ho.PW hG) with ⟨_, m2⟩ | ⟨m1, _⟩
    · exact ⟨K, false, part0, k1, m2, fun h => by cases h⟩
    · exact absurd m1 h
  rcases k2 with ⟨rfl, j1, j2⟩ | ⟨rfl, _, j1 | ⟨K1, j1, j2⟩⟩
  · have hF := (join_fit hG hp hN j1).2 j2
    rcases merge_spec p o (hp.PW hG) (ho.PW hG) with ⟨m1, _⟩ | ⟨_, m, m2, m3⟩
    · exact absurd hF m1
    · exact ⟨K, true, m, k1, m2, fun _ => join_rel hG (GE_up _) hp hN j1 hF m3⟩
  · exact fail rfl (clash_not hG hp hN j1)
  · exact fail rfl fun hF => j2 ((join_fit hG hp hN j1).1 hF)
def jn (A B : Kn) : Kn × Bool := (e30_Merge A B).getD (A, false)
def jnL (Ks Bs : List Kn) : List (Kn × Bool) := List.zipWith jn Ks Bs
theorem merge_coll {n : Nat} {P Q : List CPart} {Ks Bs : List Kn} (hn : n ≤ 8) (hP : Inv n P Ks) (hQ : Inv n Q Bs) : ∃ e P', CColl_Merge_a ⟨P⟩ ⟨Q⟩ = some (e, ⟨P'⟩) ∧ (((jnL Ks Bs).all (·.2) = true ∧ e = 0 ∧ Inv n P' ((jnL Ks Bs).map (·.1))) ∨ ((jnL Ks Bs).all (·.2) = false ∧ e = 14 ∧ P' = P)) := by
  have hl1 := hP.len
  have hl2 := hQ.len
  have hk1 := hP.lenK
  have hk2 := hQ.lenK
  have hjl : (jnL Ks Bs).length = n + 1 := by unfold jnL; rw [List.length_zipWith, hk1, hk2, Nat.min_self]
  have hone : ∀ (k : Nat) (h : k < n + 1), ∃ K ok m, (jnL Ks Bs)[k]'(by rw [hjl]; exact h) = (K, ok) ∧ CPart_merge (P[k]'(by rw [hl1]; exact h)) (Q[k]'(by rw [hl2]; exact h)) = some (m, ok) ∧ (ok = true → Rel (GE (k : Int)) m K) := fun k h => by
    obtain ⟨K, ok, m, a1, a2, a3⟩ := merge_one (hP.rel k (by rw [hl1]; exact h) (by rw [hk1]; exact h)) (hQ.rel k (by rw [hl2]; exact h) (by rw [hk2]; exact h))
    refine ⟨K, ok, m, ?_, a2, a3⟩
    unfold jnL
    rw [List.getElem_zipWith]
    unfold jn
    rw [a1]; rfl
  unfold CColl_Merge_a
  dsimp only
  rw [if_neg (by simp [hl1, hl2]), chk_pos (by unfold mkOk; omega), Int.toNat_natCast]
  have hInd := forM_ind (S := List CPart) (E := Int × CColl) (mx := 9223372036854775807) (n := (List.length (List.replicate P.length (CPart.mk [] [] false 0)) : Int)) (body := fun k4 s => CColl_Merge_a_L2 ⟨P⟩ ⟨Q⟩ k4 s) (s0 := List.replicate P.length (CPart.mk [] [] false 0))
    (fun k s => s.length = n + 1 ∧ (∀ j (hj : j < n + 1), j < k → ((jnL Ks Bs)[j]'(by rw [hjl]; exact hj)).2 = true) ∧ ∀ (j : Nat) (hj : j < n + 1) (hs : j < s.length), j < k → Rel (GE (j : Int)) s[j] ((jnL Ks Bs)[j]'(by rw [hjl]; exact hj)).1)
    (fun t => match t with
      | .next s => s.length = n + 1 ∧ (jnL Ks Bs).all (·.2) = true ∧ ∀ (j : Nat) (hj : j < n + 1) (hs : j < s.length), Rel (GE (j : Int)) s[j] ((jnL Ks Bs)[j]'(by rw [hjl]; exact hj)).1
      | .done r => r = (14, ⟨P⟩) ∧ (jnL Ks Bs).all (·.2) = false)
    (by rw [List.length_replicate]; omega) (by omega) ⟨by rw [List.length_replicate, hl1], fun j hj h => by omega, fun j hj hs h => by omega⟩ ?_ ?_
  · obtain ⟨t, t1, t2⟩ := hInd
    rw [t1]
    cases t with
    | done r =>
      obtain ⟨rfl, h⟩ := t2
      exact ⟨14, P, rfl, .inr ⟨h, rfl, rfl⟩⟩
    | next s =>
      obtain ⟨h1, h2, h3⟩ := t2
      refine ⟨0, s, rfl, .inl ⟨h2, rfl, h1, by rw [List.length_map, hjl], fun i hi hi2 => ?_⟩⟩
      rw [List.getElem_map]
      exact h3 i (by rw [← h1]; exact hi) hi
  · rintro k s hk ⟨h1, h2, h3⟩
    rw [List.length_replicate, hl1] at hk
    have hk' : k < n + 1 := by omega
    have hkP : k < P.length := by omega
    have hkQ : k < Q.length := by omega
    obtain ⟨K, ok, m, a1, a2, a3⟩ := hone k hk'
    have hq := hQ.rel k hkQ (by omega)
    have hqne := hq.ne
    unfold CColl_Merge_a_L2
    dsimp only
    rw [idx_lt hkQ, Option.bind_some, cloneAll_eq _ (by omega) (fun r hr => (good_GE _).fits r (hq.good r hr).1), Option.bind_some, idx_lt hkP, Option.bind_some, part_eta, a2, Option.bind_some, idx_lt (by omega), Option.bind_some, Int.toNat_natCast]
    cases ok with
    | false =>
      refine .inr ⟨(14, ⟨P⟩), rfl, rfl, ?_⟩
      rw [Bool.eq_false_iff]
      intro h
      have := (List.all_eq_true.1 h) _ (List.getElem_mem (show k < (jnL Ks Bs).length by omega))
      rw [a1] at this; cases this
    | true =>
      refine .inl ⟨s.set k m, rfl, by rw [List.length_set]; exact h1, fun j hj hjk => ?_, fun j hj hs hjk => ?_⟩
      · by_cases e : j = k
        · subst e; rw [a1]
        · exact h2 j hj (by omega)
      · rw [List.getElem_set]
        by_cases e : k = j
        · subst e; rw [if_pos rfl, a1]; exact a3 rfl
        · rw [if_neg e]; exact h3 j hj (by rw [List.length_set] at hs; exact hs) (by omega)
  · rintro s ⟨h1, h2, h3⟩
    rw [List.length_replicate, hl1, Int.toNat_natCast] at h2 h3
    refine ⟨h1, ?_, fun j hj hs => h3 j hj hs hj⟩
    rw [List.all_eq_true]
    intro x hx
    obtain ⟨j, hj, rfl⟩ := List.getElem_of_mem hx
    exact h2 j (by omega) (by omega)
theorem jn_some {c : Int} {p o : CPart} {A B : Kn} (hp : Rel (GE c) p A) (ho : Rel (GE c) o B) : e30_Merge A B = some (jn A B) := by
  obtain ⟨K, ok, m, a1, _⟩ := merge_one hp ho
  unfold jn; rw [a1]; rfl
theorem merges_law (x0 : Int) (x1 x2 : List w30_File) (hx : 0 ≤ x0 ∧ x0 ≤ 255) (h1 : ∀ f ∈ x1, FileOk f) (h2 : ∀ f ∈ x2, FileOk f) : w30_CollectMerges x0 x1 x2 = some true := by
  have hn : 1 ≤ nOf x0 ∧ nOf x0 ≤ 8 := by unfold nOf; omega
  obtain ⟨P, Ks, p1, p2⟩ := collected_eq x0 x1 hx h1
  obtain ⟨Q, Bs, q1, q2⟩ := collected_eq x0 x2 hx h2
  unfold w30_CollectMerges
  rw [p1, Option.bind_some]
  dsimp only
  rw [q1, Option.bind_some]
  dsimp only
  rw [awake30, Option.bind_some]
  simp only [Bool.not_true, Bool.or_self, Bool.false_eq_true, if_false]
  have hk1 := p2.lenK
  have hk2 := q2.lenK
  have hl1 := p2.len
  have hl2 := q2.len
  have hjl : (jnL Ks Bs).length = nOf x0 + 1 := by unfold jnL; rw [List.length_zipWith, hk1, hk2, Nat.min_self]
  rw [foldM_spec (s0 := (([] : List Kn), true)) (nOf x0 + 1) (fun j => (((jnL Ks Bs).take j).map (·.1), ((jnL Ks Bs).take j).all (·.2))) (by simp) (by rw [hk1]) (by omega) (fun j hj => ?_)]
  · rw [Option.bind_some, List.take_of_length_le (by omega)]
    unfold w30_CollectMerges_K1
    dsimp only
    obtain ⟨e, P', m1, m2⟩ := merge_coll hn.2 p2 q2
    rw [m1, Option.bind_some]
    rcases m2 with ⟨b1, rfl, b3⟩ | ⟨b1, rfl, rfl⟩
    · simp only [b1, Bool.not_true, Bool.false_eq_true, if_false, b3.agrees hn.2, q2.agrees hn.2, gb, beq_self_eq_true, if_true, Option.bind_some, Bool.and_self]
    · simp only [b1, Bool.not_false, if_true, p2.agrees hn.2, q2.agrees hn.2, gb, beq_self_eq_true, Option.bind_some, Bool.and_self]
  · have hj1 : j < Ks.length := by omega
    have hj2 : j < Bs.length := by omega
    have hjj : j < (jnL Ks Bs).length := by omega
    unfold w30_CollectMerges_L2
    dsimp only
    rw [idx_lt hj1, Option.bind_some, idx_lt hj2, Option.bind_some, jn_some (p2.rel j (by omega) hj1) (q2.rel j (by omega) hj2), Option.bind_some]
    rw [chk_pos (by simp [apOk]; omega), List.take_succ_eq_append_getElem hjj, List.map_append, List.all_append]
    have : (jnL Ks Bs)[j] = jn Ks[j] Bs[j] := List.getElem_zipWith (h := hjj)
    rw [this]
    simp
end Go.Proofs.YtepkcbalmjnhpaaGreat

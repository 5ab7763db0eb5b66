/-
  The parts of a file: frame.scan and frame.Scan hand them to yield, one after the other.
-/
import Derived.Test.YtepkcbalmjnhpaaGreatEngZ
import Derived.Test.YtepkcbalmjnhpaaGreatFrm
set_option maxRecDepth 100000
set_option maxHeartbeats 1000000
set_option linter.unusedVariables false
set_option linter.unusedSimpArgs false
namespace Go.Proofs.YtepkcbalmjnhpaaGreat
open Go.RowKit
theorem j_cut {P : Program} {J : Nat → FMap → World → Prop} {n : Nat} {Q : Exit → Nat → AS → Prop} {σ : AS} {k : Nat} {c d : Code} {α : Type} (S : α → AS) (I : α → Prop) (h : awp P n c (QCut S I (fun e σ => Q e k σ)) σ) (hk : ∀ x, I x → awpJ P J n d Q k (S x)) : awpJ P J n (.seq c d) Q k σ :=
  j_seq (j_of (a_mono h fun e σ' hq => by
    cases e with
    | normal => obtain ⟨x', i1, i2⟩ := hq; exact j_imp i2 (hk x' i1)
    | exit id => exact hq
    | goto l => exact hq
    | ret => exact hq
    | panic c => exact hq
    | outgrown => exact hq))
theorem j_cutJ {P : Program} {J : Nat → FMap → World → Prop} {n : Nat} {Q : Exit → Nat → AS → Prop} {σ : AS} {k : Nat} {c d : Code} (S : AS) (k' : Nat) (h : awpJ P J n c (fun e m σ' => e = .normal ∧ m = k' ∧ Imp σ' S) k σ) (hd : awpJ P J n d Q k' S) : awpJ P J n (.seq c d) Q k σ :=
  j_seq (fun w0 F0 F γ a w hJ hs => wpIn_mono (h w0 F0 F γ a w hJ hs) fun e a' w' ⟨w1, F1, F', γ', m, σ', j1, j2, h1, h2, h3, h4⟩ => by
    subst h2 h3
    obtain ⟨F2, γ2, s2⟩ := h4 _ F' γ' a' w' h1
    exact ⟨w1, F1, F2, γ2, m, S, j1, j2, s2, hd⟩)
inductive SubE (e : List (Nat × DV)) : List (Nat × DV) → Prop
  | nil : SubE e []
  | cons {t : Nat} {d : DV} {r : List (Nat × DV)} (h : look e t = some d) (hi : d.ids = []) (k : SubE e r) : SubE e ((t, d) :: r)
theorem SubE.spec {e r : List (Nat × DV)} (k : SubE e r) : ∀ t d, look r t = some d → look e t = some d ∧ d.ids = [] := by
  induction k with
  | nil => intro t d h; cases h
  | cons h hi k ih =>
    intro t d hl
    rw [look_cons] at hl
    split at hl
    · rename_i e1; subst e1; injection hl with hl; subst hl; exact ⟨h, hi⟩
    · exact ih t d hl
/-- the search for a frame: where, how long, whether there is one -/
def scanL (p : List Int) (s : Int × Int × Bool) : Option (Ctl (Int × Int × Bool) (Int × Int × Bool)) :=
  if (decide (s.1 < (List.length p : Int))) = true then
    chk (slOk (List.length p) s.1 (List.length p)) <|
    (frame_stands (List.drop (Int.toNat s.1) p)).bind fun r =>
    if r.2 = true then some (.done (s.1, r.1, r.2)) else some (.next (IntKind.wrap .i64 (s.1 + 1), r.1, r.2))
  else some (.done s)
def scanM (p : List Int) : Nat → Int → Option (List frame_Part)
  | 0, _ => none
  | fu + 1, off =>
    if (decide (off < (List.length p : Int))) = true then
      (whileM (E := Int × Int × Bool) (scanL p) (off, 0, false)).bind fun e =>
      if e.2.2 = true then
        chk (slOk (List.length p) (IntKind.wrap .i64 (e.1 + 8)) (IntKind.wrap .i64 (e.1 + e.2.1))) <|
        chk (apOk 1 (List.length ([] : List Int) + List.length (slc p (IntKind.wrap .i64 (e.1 + 8)) (IntKind.wrap .i64 (e.1 + e.2.1))))) <|
        (scanM p fu (IntKind.wrap .i64 (e.1 + e.2.1))).bind fun rest =>
        some ((if (decide (off < e.1)) = true then [⟨off, IntKind.wrap .i64 (e.1 - off), [], false⟩] else []) ++ ⟨e.1, e.2.1, ([] : List Int) ++ slc p (IntKind.wrap .i64 (e.1 + 8)) (IntKind.wrap .i64 (e.1 + e.2.1)), true⟩ :: rest)
      else some (if (decide (off < e.1)) = true then [⟨off, IntKind.wrap .i64 (e.1 - off), [], false⟩] else [])
    else some []
theorem wanted_guard {ops : Array Oper} {o : Oper} {g gt : Nat} {n : Nat} {σ : AS} (hg : o.guard = some (g, true)) (hgo : (ops[g]?).bind (·.dst) = some gt) (hb : look σ.env gt = some (.bool true)) :
    ∀ w0 F0 F γ a w, Sat (bare w0 F0 n) F γ σ a w → Region.wanted o (yielded ops a.tmps) = true := by
  intro w0 F0 F γ a w hs
  have hsl := (hs.env gt _ hb).2
  have hlt := (hs.env gt _ hb).1
  simp only [Rs] at hsl
  have hy : yielded ops a.tmps g = some true := by
    unfold yielded
    rw [hgo]
    have hsz : gt < a.tmps.size := by rw [hs.size]; exact hlt
    simp only [Option.bind_some]
    rw [Array.getElem?_eq_getElem hsz]
    have : a.tmps[gt] = .bool true := by simpa [Array.getD, hsz] using hsl
    rw [this]
  simp [Region.wanted, hg, hy]
abbrev yv (l : Nat) : DV := .val (.func (.yield l) #[] #[])
theorem part_none {F : FMap} {γ : Gam} {a b : Int} {v : Value} (h : Rs F γ (.ifb true (.agg [.int .i64 a, .int .i64 b, .nils, .bool false])) v) : Rs F Gam.no (frame_Part.dv ⟨a, b, [], false⟩) v := by
  simp only [Rs] at h
  have h := h.1 trivial
  have k : Rs F γ (.agg [.int .i64 a, .int .i64 b, .nils, .bool false]) v := by simp only [Rs]; exact h
  exact Rs_ids _ _ (by intro i hi; cases hi) (DLe.agg (.cons (DLe.refl _) (.cons (DLe.refl _) (.cons (DLe.nils 1) (.cons (DLe.refl _) .nil)))) F γ v k)
theorem data_of {F : FMap} {γ : Gam} {d : DV} {v : Value} (h : Rs F γ d v) (hi : d.ids = []) : Rs F Gam.no d v := Rs_ids _ _ (by rw [hi]; intro i hi; cases hi) h
theorem scan_J {J : Nat → FMap → World → Prop} (JO : JOk J) {l : Nat} {p : List Int} {parts : List frame_Part} (Y : Ylds Tryz.prog l J (parts.map frame_Part.dv)) {fu : Nat} (hM : scanM p fu 0 = some parts) {c : Code} (hc : Tryz.f114.body = some c) :
    awpJ Tryz.prog J 60 c (fun e m _ => (e = .normal ∨ e = .ret) ∧ m = (parts.map frame_Part.dv).length) 0 ⟨params 0 [.sl 1 (List.map (DV.int .u8) p), yv l], [], []⟩ := by
  injection hc with hc
  subst hc
  refine j_seq (j_of (a_region (.cons (o_assign rfl) <| .nil _) (by kernel_rfl) (by kernel_rfl) ?_))
  refine j_block ?_
  refine j_loop (fun x : Nat × Int × List frame_Part => ⟨[(0, .sl 1 (List.map (DV.int .u8) p)), (1, yv l), (4, .int .i64 x.2.1)], [], []⟩)
    (fun k x => scanM p x.1 x.2.1 = some x.2.2 ∧ parts.drop k = x.2.2 ∧ k + x.2.2.length = parts.length) (fun x => x.1) (fu, 0, parts) (Imp.of (fun i => i) (.cons rfl (DLe.refl _) (.cons rfl (DLe.refl _) (.cons rfl (DLe.refl _) .nil))) .nil rfl rfl rfl) ⟨hM, rfl, by simp⟩ ?_
  rintro k ⟨fu, off, rest⟩ ⟨hM, hdrop, hlen⟩
  dsimp only at hM hdrop hlen ⊢
  cases fu with
  | zero => cases hM
  | succ fu =>
  unfold scanM at hM
  refine j_seq ?_
  refine j_seq (j_of (a_region (.cons (o_move rfl) <| .cons (o_move rfl) <| .cons (t_len rfl) <| .cons (o_int rfl rfl rfl) <| .nil _) (by kernel_rfl) (by kernel_rfl) ?_))
  refine j_cond _ rfl (fun hb => ?_) (fun hb => ?_)
  · replace hM := (of_if hM).1 hb
    obtain ⟨e, hL, hM⟩ := of_bind hM
    refine j_of (a_skip ?_)
    refine j_block ?_
    refine j_seq (j_of (a_region (.cons (o_move rfl) <| .cons (o_assign rfl) <| .cons (o_assign rfl) <| .cons (o_assign rfl) <| .nil _) (by kernel_rfl) (by kernel_rfl) ?_))
    refine j_cut (α := Unit) (fun _ => ⟨[(0, .sl 1 (List.map (DV.int .u8) p)), (1, yv l), (4, .int .i64 off), (5, .int .i64 e.1), (6, .int .i64 e.2.1), (7, .bool e.2.2)], [], []⟩) (fun _ => True) ?_ ?_
    · refine a_block ?_
      refine a_while (fun s => ⟨[(0, .sl 1 (List.map (DV.int .u8) p)), (1, yv l), (4, .int .i64 off), (5, .int .i64 s.1), (6, .int .i64 s.2.1), (7, .bool s.2.2)], [], []⟩) _ hL (Imp.of (fun i => i) (.cons rfl (DLe.refl _) (.cons rfl (DLe.refl _) (.cons rfl (DLe.refl _) (.cons rfl (DLe.refl _) (.cons rfl (DLe.refl _) (.cons rfl (DLe.refl _) .nil)))))) .nil rfl rfl rfl) ?_
      rintro ⟨nx, ln, gd⟩ tb hM hE
      unfold scanL at hM
      dsimp only at hM ⊢
      refine a_seq ?_
      refine a_seq ?_
      refine a_region (.cons (o_move rfl) <| .cons (o_move rfl) <| .cons (t_len rfl) <| .cons (o_int rfl rfl rfl) <| .nil _) (by kernel_rfl) (by kernel_rfl) ?_
      refine a_cond _ rfl (fun hb2 => ?_) (fun hb2 => ?_)
      · replace hM := (of_if hM).1 hb2
        obtain ⟨hs, hM⟩ := of_chk hM
        obtain ⟨r, hr, hM⟩ := of_bind hM
        refine a_skip ?_
        refine a_block ?_
        refine a_seq ?_
        refine a_seq ?_
        refine a_region (.cons (o_move rfl) <| .cons (o_move rfl) <| .cons (t_slice_l hs rfl rfl) <| .cons (o_call (frame_stands_c hr) rfl (DLeL.refl _) rfl) <| .cons (o_move rfl) <| .cons (o_extract rfl rfl) <| .cons (o_extract rfl rfl) <| .cons (o_assign rfl) <| .cons (o_assign rfl) <| .nil _) (by kernel_rfl) (by kernel_rfl) ?_
        refine a_seq ?_
        refine a_region (.cons (o_move rfl) <| .nil _) (by kernel_rfl) (by kernel_rfl) ?_
        refine a_cond _ rfl (fun hb3 => ?_) (fun hb3 => ?_)
        · replace hM := (of_if hM).1 hb3
          obtain rfl := Option.some.inj hM
          obtain rfl := hE _ rfl
          refine a_exit ?_
          exact ⟨(), trivial, Imp.of (fun i => i) (.cons rfl (DLe.refl _) (.cons rfl (DLe.refl _) (.cons rfl (DLe.refl _) (.cons rfl (DLe.refl _) (.cons rfl (DLe.refl _) (.cons rfl (DLe.refl _) .nil)))))) .nil rfl rfl rfl⟩
        · replace hM := (of_if hM).2 hb3
          obtain rfl := Option.some.inj hM
          refine a_skip ?_
          refine a_region (.cons (o_move rfl) <| .cons (o_int rfl rfl rfl) <| .cons (o_assign rfl) <| .nil _) (by kernel_rfl) (by kernel_rfl) ?_
          exact ⟨(_, _, _), rfl, Imp.of (fun i => i) (.cons rfl (DLe.refl _) (.cons rfl (DLe.refl _) (.cons rfl (DLe.refl _) (.cons rfl (DLe.refl _) (.cons rfl (DLe.refl _) (.cons rfl (DLe.refl _) .nil)))))) .nil rfl rfl rfl⟩
      · replace hM := (of_if hM).2 hb2
        obtain rfl := Option.some.inj hM
        obtain rfl := hE _ rfl
        refine a_exit ?_
        exact ⟨(), trivial, Imp.of (fun i => i) (.cons rfl (DLe.refl _) (.cons rfl (DLe.refl _) (.cons rfl (DLe.refl _) (.cons rfl (DLe.refl _) (.cons rfl (DLe.refl _) (.cons rfl (DLe.refl _) .nil)))))) .nil rfl rfl rfl⟩
    · rintro _ -
      obtain ⟨nx, ln, gd⟩ := e
      dsimp only at hM ⊢
      -- the first part
      obtain ⟨pre, hpre⟩ : ∃ pre : List frame_Part, (if (decide (off < nx)) = true then [⟨off, IntKind.wrap .i64 (nx - off), [], false⟩] else []) = pre := ⟨_, rfl⟩
      rw [hpre] at hM
      obtain ⟨rest', hrest⟩ : ∃ rest', rest = pre ++ rest' := by
        split at hM
        · obtain ⟨_, hM⟩ := of_chk hM
          obtain ⟨_, hM⟩ := of_chk hM
          obtain ⟨r2, _, hM⟩ := of_bind hM
          exact ⟨_, (Option.some.inj hM).symm⟩
        · exact ⟨[], by rw [List.append_nil]; exact (Option.some.inj hM).symm⟩
      have hdrop1 : parts.drop (k + pre.length) = rest' := by
        rw [← List.drop_drop, hdrop, hrest, List.drop_left]
      have hlen1 : (k + pre.length) + rest'.length = parts.length := by
        rw [hrest, List.length_append] at hlen; omega
      refine j_seq ?_
      refine j_cutJ ⟨[(40, .bool false), (0, .sl 1 (List.map (DV.int .u8) p)), (1, yv l), (4, .int .i64 off), (5, .int .i64 nx), (6, .int .i64 ln), (7, .bool gd)], [], []⟩ (k + pre.length) ?_ ?_
      · by_cases hb4 : decide (off < nx) = true
        · rw [if_pos hb4] at hpre
          have hk : (parts.map frame_Part.dv)[k]? = some (frame_Part.dv ⟨off, IntKind.wrap .i64 (nx - off), [], false⟩) := by
            have : parts[k]? = some ⟨off, IntKind.wrap .i64 (nx - off), [], false⟩ := by
              have h0 := congrArg (fun l => l[0]?) hdrop
              rw [hrest, ← hpre] at h0
              simpa using h0
            rw [List.getElem?_map, this]; rfl
          refine j_region (k' := k + 1) (.cons ((o_move rfl).toJ rfl) <| .cons ((o_move rfl).toJ rfl) <| .cons ((OpG.cast (E' := ⟨[(30, .bool true)], [], []⟩) (o_int rfl rfl rfl) (by rw [hb4])).toJ rfl) <| .cons ((o_move rfl).toJ rfl) <|
            .cons ((o_guardOn .bT rfl rfl rfl (.keep .nil) (o_move rfl)).toJ rfl) <| .cons ((o_guardOn .bT rfl rfl rfl (.keep .nil) (o_move rfl)).toJ rfl) <| .cons ((o_guardOn .bT rfl rfl rfl (.keep .nil) (o_move rfl)).toJ rfl) <| .cons ((o_guardOn .bT rfl rfl rfl (.keep .nil) (o_move rfl)).toJ rfl) <|
            .cons ((o_guardOn .bT rfl rfl rfl (.strip rfl rfl (.strip rfl rfl .nil)) (o_int rfl rfl rfl)).toJ rfl) <| .cons ((o_guardOn .bT rfl rfl rfl (.strip rfl rfl (.strip rfl rfl .nil)) (o_build rfl rfl rfl)).toJ rfl) <|
            .cons (o_yield (r := .ifb true (.bool true)) rfl rfl (wanted_guard rfl rfl rfl) rfl (fun F γ v h => by simp only [Rs] at h; exact h.1 trivial) rfl (fun F γ v h => part_none h) JO Y hk
              [(31, .bool true), (0, .sl 1 (List.map (DV.int .u8) p)), (1, yv l), (4, .int .i64 off), (5, .int .i64 nx), (6, .int .i64 ln), (7, .bool gd)] (SubE.spec (.cons rfl rfl (.cons rfl rfl (.cons rfl rfl (.cons rfl rfl (.cons rfl rfl (.cons rfl rfl (.cons rfl rfl .nil)))))))) (fun F γ => by simp only [Rs]; exact ⟨fun _ => trivial, fun h => by cases h⟩)) <|
            .cons ((o_guardOn .bT rfl rfl rfl (.strip rfl rfl .nil) (o_not rfl)).toJ rfl) <| .cons ((o_and rfl rfl).toJ rfl) <| .nil _ _) (by kernel_rfl) ?_
          refine ⟨rfl, by rw [← hpre]; rfl, ?_⟩
          exact (Imp.of (fun i => i) (.cons rfl (DLe.refl _) (.cons rfl (DLe.refl _) (.cons rfl (DLe.refl _) (.cons rfl (DLe.refl _) (.cons rfl (DLe.refl _) (.cons rfl (DLe.refl _) (.cons rfl (DLe.refl _) .nil))))))) .nil rfl rfl rfl)
        · rw [if_neg hb4] at hpre
          have hb5 : decide (off < nx) = false := Bool.eq_false_iff.2 hb4
          refine j_of (a_region (.cons (o_move rfl) <| .cons (o_move rfl) <| .cons (OpG.cast (E' := ⟨[(30, .bool false)], [], []⟩) (o_int rfl rfl rfl) (by rw [hb5])) <| .cons (o_move rfl) <|
            .cons (o_guardOff .nils .bT rfl rfl rfl) <| .cons (o_guardOff .nils .bT rfl rfl rfl) <| .cons (o_guardOff .nils .bT rfl rfl rfl) <| .cons (o_guardOff .nils .bT rfl rfl rfl) <| .cons (o_guardOff .nils .bT rfl rfl rfl) <| .cons (o_guardOff .nils .bT rfl rfl rfl) <| .cons (o_guardOff .nils .bT rfl rfl rfl) <|
            .cons (o_guardOff (.bool false) .bT rfl rfl rfl) <| .cons (o_and rfl rfl) <| .nil _) (by kernel_rfl) (by kernel_rfl) ?_)
          refine ⟨rfl, by rw [← hpre]; rfl, ?_⟩
          exact (Imp.of (fun i => i) (.cons rfl (DLe.refl _) (.cons rfl (DLe.refl _) (.cons rfl (DLe.refl _) (.cons rfl (DLe.refl _) (.cons rfl (DLe.refl _) (.cons rfl (DLe.refl _) (.cons rfl (DLe.refl _) .nil))))))) .nil rfl rfl rfl)
      · refine j_cond _ rfl (fun c => by cases c) (fun _ => ?_)
        refine j_of (a_skip ?_)
        refine j_seq ?_
        refine j_seq (j_of (a_region (.cons (o_move rfl) <| .cons (o_not rfl) <| .nil _) (by kernel_rfl) (by kernel_rfl) ?_))
        refine j_cond _ rfl (fun hg => ?_) (fun hg => ?_)
        · have hg' : gd = false := by cases gd <;> simp_all
          subst hg'
          refine j_of (a_ret ⟨.inr rfl, ?_⟩)
          have : pre = rest := Option.some.inj hM
          have h0 : rest' = [] := by
            have := congrArg List.length (hrest.symm.trans this.symm)
            simpa using this
          rw [h0] at hlen1
          simpa using hlen1
        · have hg' : gd = true := by cases gd <;> simp_all
          subst hg'
          replace hM := (of_if hM).1 rfl
          obtain ⟨hs1, hM⟩ := of_chk hM
          obtain ⟨hs2, hM⟩ := of_chk hM
          obtain ⟨r2, hr2, hM⟩ := of_bind hM
          have hr' : rest' = ⟨nx, ln, ([] : List Int) ++ slc p (IntKind.wrap .i64 (nx + 8)) (IntKind.wrap .i64 (nx + ln)), true⟩ :: r2 := by
            have := Option.some.inj hM
            rw [hrest] at this
            exact (List.append_cancel_left this).symm
          refine j_of (a_skip ?_)
          refine j_seq (j_of (a_region (.cons (o_move rfl) <| .cons (o_move rfl) <| .cons (o_int rfl rfl rfl) <| .cons (o_assign rfl) <| .nil _) (by kernel_rfl) (by kernel_rfl) ?_))
          refine j_seq (j_of (a_region (.cons (t_build (DV.int .u8) ([] : List Int) rfl rfl rfl rfl rfl rfl rfl) <| .cons (o_move rfl) <| .cons (o_move rfl) <| .cons (o_int rfl rfl rfl) <| .cons (o_move rfl) <| .cons (t_slice hs1 rfl rfl rfl) <| .cons (o_frz (t_append (slc p (IntKind.wrap .i64 (nx + 8)) (IntKind.wrap .i64 (nx + ln))) hs2 rfl rfl rfl Src.sl)) <| .cons (o_assign rfl) <| .nil _) (by kernel_rfl) (by kernel_rfl) ?_))
          refine j_seq ?_
          have hk : (parts.map frame_Part.dv)[k + pre.length]? = some (frame_Part.dv ⟨nx, ln, ([] : List Int) ++ slc p (IntKind.wrap .i64 (nx + 8)) (IntKind.wrap .i64 (nx + ln)), true⟩) := by
            have : parts[k + pre.length]? = some ⟨nx, ln, ([] : List Int) ++ slc p (IntKind.wrap .i64 (nx + 8)) (IntKind.wrap .i64 (nx + ln)), true⟩ := by
              have h0 := congrArg (fun l => l[0]?) hdrop1
              rw [hr'] at h0
              simpa using h0
            rw [List.getElem?_map, this]; rfl
          refine j_region (k' := k + pre.length + 1) (.cons ((o_move rfl).toJ rfl) <| .cons ((o_move rfl).toJ rfl) <| .cons ((o_move rfl).toJ rfl) <| .cons ((o_move rfl).toJ rfl) <| .cons ((o_build rfl rfl rfl).toJ rfl) <|
            .cons (o_yield (r := .bool true) rfl rfl (fun w0 F0 F γ a w _ => rfl) rfl (fun F γ v h => by simp only [Rs] at h; exact h) rfl (fun F γ v h => data_of h rfl) JO Y hk
              [(0, .sl 1 (List.map (DV.int .u8) p)), (1, yv l), (4, .int .i64 (IntKind.wrap .i64 (nx + ln)))] (SubE.spec (.cons rfl rfl (.cons rfl rfl (.cons rfl rfl .nil)))) (fun F γ => by simp only [Rs])) <|
            .cons ((o_not rfl).toJ rfl) <| .nil _ _) (by kernel_rfl) ?_
          refine j_cond _ rfl (fun c => by cases c) (fun _ => ?_)
          refine j_of (a_skip ?_)
          refine ⟨(fu, IntKind.wrap .i64 (nx + ln), r2), ⟨hr2, ?_, ?_⟩, Nat.lt_succ_self _, Imp.of (fun i => i) (.cons rfl (DLe.refl _) (.cons rfl (DLe.refl _) (.cons rfl (DLe.refl _) .nil))) .nil rfl rfl rfl⟩
          · rw [← List.drop_drop, hdrop1, hr']; rfl
          · rw [hr'] at hlen1; simp only [List.length_cons] at hlen1; dsimp only; omega
  · replace hM := (of_if hM).2 hb
    obtain rfl := Option.some.inj hM
    refine j_of (a_exit ?_)
    refine ⟨.inl rfl, ?_⟩
    simpa using hlen
theorem scan1_iter {p : List Int} {parts : List frame_Part} {fu : Nat} (hM : scanM p fu 0 = some parts) : Iter Tryz.prog 113 [.eptr [.sl 1 (List.map (DV.int .u8) p)]] (parts.map frame_Part.dv) := by
  intro l J F w vs JO Y hJ hv
  have hv' : RsT F Gam.no [yv l, .eptr [.sl 1 (List.map (DV.int .u8) p)]] (.func (.yield l) #[] #[] :: vs) := by
    simp only [RsT]; exact ⟨_, vs, rfl, by simp only [Rs], by simpa only [RsT] using hv⟩
  have e : (#[Value.func (.yield l) #[] #[]] ++ vs.toArray) = (.func (.yield l) #[] #[] :: vs).toArray := by simp
  rw [e]
  refine (callsJ (k' := (parts.map frame_Part.dv).length) JO Tryz.func113 rfl Tryz.ntmps113 rfl (by simp) ?_ hJ hv').mono ?_
  · refine j_region (.cons ((o_load_es rfl rfl).toJ rfl) <| .cons ((o_move rfl).toJ rfl) <| .cons (o_callJ (args := [.sl 1 (List.map (DV.int .u8) p), yv l]) rfl rfl rfl rfl (DLeL.refl _) rfl JO (fun F w vs hJ hv => ?_) [] (SubE.spec .nil)) <| .nil _ _) (by kernel_rfl) ⟨.inl rfl, rfl⟩
    exact callsJ JO Tryz.func114 rfl Tryz.ntmps114 rfl (by simp) (scan_J JO Y hM rfl) hJ hv
  · rintro e w' ⟨F', rfl, h1, h2⟩
    exact ⟨_, F', rfl, h1, h2⟩
/-- a closure over one block that nobody writes any more is data -/
theorem Imp.frzClo {σ : AS} {id T t : Nat} {f : FuncId} {ds : List DV} (hh : hget σ.heap id = some (.blk T ds)) (hi : idsL ds = []) (hx : look σ.env t = some (.clo f [.ref id 0])) : Imp σ ⟨[(t, .clo f [.eptr ds])], [], σ.used⟩ := by
  intro C F γ a w hs
  obtain ⟨g, k1, b, cs, rfl, k3, k4⟩ := hs.ws.ent id _ hh
  have ho := hs.ws.own id _ _ b hh k1 rfl
  have W := (hs.ws.congr (h' := []) (fun i e h => by simp [hget, look] at h) (fun _ h => h)).data k3 ho.1 ho.2 (fun i e g h => by simp [hget, look] at h)
  refine ⟨F.up b cs, γ, fun t' d hl => ?_, W, hs.size, hs.defers⟩
  simp only at hl
  rw [look_cons] at hl
  split at hl
  · rename_i e1; subst e1; injection hl with hl; subst hl
    obtain ⟨q1, q2⟩ := hs.env t _ hx
    refine ⟨q1, ?_⟩
    simp only [Rs, RsT] at q2 ⊢
    obtain ⟨cs', e1, v, rest, e2, ⟨b', e3, e4⟩, e5⟩ := q2
    rw [k1] at e3
    injection e3 with e3; injection e3 with e3; injection e3 with e3; injection e3 with e3 _ _; subst e3
    refine ⟨cs', e1, v, rest, e2, ⟨b, 0, cs, cs.toList, [], by simpa using e4, by simp [FMap.up], by simp, ?_⟩, e5⟩
    have : ∀ (ds : List DV) (vs : List Value), idsL ds = [] → RsL F γ ds vs → RsL (F.up b cs) Gam.no ds vs := fun ds vs h0 h1 => RsL_ids ds vs (by rw [h0]; intro i hi; cases hi) (RsL.mono (FMap.up_le cs ho.1) (GLe.refl _) ds vs h1)
    exact this ds _ hi k4
  · cases hl
theorem scan_c {p : List Int} (h : apOk 1 (List.length ([] : List Int) + List.length p)) : PCall Tryz.prog 63 [.sl 1 (List.map (DV.int .u8) p)] (.clo 113 [.eptr [.sl 1 (List.map (DV.int .u8) (([] : List Int) ++ p))]]) := by
  refine PCall.body Tryz.func63 Tryz.ntmps63 rfl rfl rfl rfl ?_
  refine a_seq ?_
  refine a_region (.cons (o_assign rfl) <| .nil _) (by kernel_rfl) (by kernel_rfl) ?_
  refine a_seq ?_
  refine a_region (.cons (t_build (DV.int .u8) ([] : List Int) rfl rfl rfl rfl rfl rfl rfl) <| .cons (o_move rfl) <| .cons (o_frz (t_append p h rfl rfl rfl Src.sl)) <| .cons (o_alloc rfl) <| .cons (o_store_s rfl rfl rfl rfl rfl) <| .nil _) (by kernel_rfl) (by kernel_rfl) ?_
  refine a_seq ?_
  refine a_region (.cons (o_makeFunc rfl) <| .cons (o_assign rfl) <| .nil _) (by kernel_rfl) (by kernel_rfl) ?_
  refine a_imp (Imp.frzClo (id := 3) (t := 2) rfl rfl rfl) ?_
  exact a_ret (a_post (.r1 (.tmp rfl)) (DLe.refl _) PostOk.nil.spec)
end Go.Proofs.YtepkcbalmjnhpaaGreat

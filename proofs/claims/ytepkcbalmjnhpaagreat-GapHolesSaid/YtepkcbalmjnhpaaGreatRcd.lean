/-
  recorder.Read: the records of the frames of a file, and the number of the other bytes.
-/
import Derived.Test.YtepkcbalmjnhpaaGreatScn
import Derived.Test.YtepkcbalmjnhpaaGreatHdRd
set_option maxRecDepth 100000
set_option maxHeartbeats 1000000
set_option linter.unusedVariables false
set_option linter.unusedSimpArgs false
namespace Go.Proofs.YtepkcbalmjnhpaaGreat
open Go.RowKit
def readStep (s : List record_Record × Int) (x : frame_Part) : Option (List record_Record × Int) :=
  if x.gGood = true then
    (record_Read x.gBody).bind fun r =>
    if (r.2 == 0) = true then chk (apOk 248 (List.length s.1 + List.length [r.1])) (some (s.1 ++ [r.1], s.2)) else some (s.1, IntKind.wrap .i64 (s.2 + x.gLen))
  else some (s.1, IntKind.wrap .i64 (s.2 + x.gLen))
def foldO {α β : Type} (f : β → α → Option β) : β → List α → Option β
  | s, [] => some s
  | s, x :: xs => (f s x).bind fun s' => foldO f s' xs
theorem foldO_at {α β : Type} {f : β → α → Option β} : ∀ {xs : List α} {s r : β}, foldO f s xs = some r → ∃ g : Nat → β, g 0 = s ∧ (∀ k x, xs[k]? = some x → f (g k) x = some (g (k + 1))) ∧ g xs.length = r
  | [], s, r, h => ⟨fun _ => s, rfl, fun k x hx => by simp at hx, Option.some.inj h⟩
  | x :: xs, s, r, h => by
    obtain ⟨s', h1, h2⟩ := of_bind h
    obtain ⟨g, g0, g1, g2⟩ := foldO_at h2
    refine ⟨fun k => match k with | 0 => s | k + 1 => g k, rfl, fun k y hy => ?_, g2⟩
    cases k with
    | zero => simp at hy; subst hy; simp only [g0]; exact h1
    | succ k => exact g1 k y (by simpa using hy)
def recorder_Read (p : List Int) : Option (List record_Record × Int) :=
  chk (apOk 1 (List.length ([] : List Int) + List.length p)) <|
  (scanM (([] : List Int) ++ p) ((([] : List Int) ++ p).length + 1) 0).bind fun parts => foldO readStep ([], 0) parts
theorem recorder_Read_c {x0 : List Int} {r : List record_Record × Int} (hM : recorder_Read x0 = some r) : PCall Tryz.prog 19 [.sl 1 (List.map (DV.int .u8) x0)] (.tup [.sl 29 (List.map record_Record.dv r.1), .int .i64 r.2]) := by
  unfold recorder_Read at hM
  obtain ⟨h1, hM⟩ := of_chk hM
  obtain ⟨parts, hP, hM⟩ := of_bind hM
  obtain ⟨g, g0, g1, g2⟩ := foldO_at hM
  refine PCall.ofD Tryz.func19 Tryz.ntmps19 rfl rfl rfl rfl ?_
  refine d_seqL (a_region (.cons (o_alloc rfl) <| .cons (o_alloc rfl) <| .nil _) (by kernel_rfl) (by kernel_rfl) ?_)
  refine d_seqR ?_
  refine d_seqL (a_region (.cons (o_move rfl) <| .cons (o_call (scan_c h1) rfl (DLeL.refl _) rfl) <| .nil _) (by kernel_rfl) (by kernel_rfl) ?_)
  refine d_block ?_
  refine d_range (scan1_iter hP) [(2, .ref 100001 0), (3, .ref 100002 0), (8, .clo 113 [.eptr [.sl 1 (List.map (DV.int .u8) (([] : List Int) ++ x0))]])]
    (fun k => [(100001, some (.blk 39 [.row 7])), (100002, some (.blk 3 [.int .i64 (g k).2])), (7, some (.row 52 29 (List.map record_Record.dv (g k).1)))]) [100001, 100002, 7] ?_ rfl rfl ?_ (by decide) (by decide) (by decide) ?_ ?_
  · rw [g0]
    exact (Imp.nilC (id := 2) (rid := 7) (j := 0) 52 29 rfl rfl rfl rfl).trans (Imp.of (fun i => bif Nat.beq i 100001 then 2 else bif Nat.beq i 100002 then 3 else i) (.cons rfl (DLe.refl _) (.cons rfl (DLe.refl _) (.cons rfl (DLe.refl _) .nil))) (.cons rfl (.refl _) (.cons rfl (.refl _) (.cons rfl (.refl _) .nil))) rfl rfl rfl)
  · intro t d hl i hi
    rw [look_cons] at hl
    split at hl
    · injection hl with hl; subst hl; simp [DV.ids] at hi; omega
    · rw [look_cons] at hl
      split at hl
      · injection hl with hl; subst hl; simp [DV.ids] at hi; omega
      · rw [look_cons] at hl
        split at hl
        · injection hl with hl; subst hl; simp [DV.ids, idsL] at hi
        · cases hl
  · intro k d R R' hk
    rw [List.getElem?_map] at hk
    obtain ⟨x, hx, rfl⟩ := Option.map_eq_some_iff.1 hk
    have hs := g1 k x hx
    generalize g (k + 1) = s' at hs ⊢
    generalize g k = s at hs ⊢
    obtain ⟨l, lost⟩ := s
    unfold readStep at hs
    dsimp only at hs ⊢
    refine a_region (.cons (o_alloc rfl) <| .cons (o_store rfl rfl rfl rfl rfl rfl rfl) <| .nil _) (by kernel_rfl) (by kernel_rfl) ?_
    refine ⟨rfl, ?_⟩
    refine a_block ?_
    refine a_seq ?_
    refine a_seq ?_
    refine a_region (.cons (o_fieldAddr rfl) <| .cons (o_load_s rfl rfl rfl) <| .nil _) (by kernel_rfl) (by kernel_rfl) ?_
    refine a_cond _ rfl (fun hb => ?_) (fun hb => ?_)
    · replace hs := (of_if hs).1 hb
      obtain ⟨y, hy, hs⟩ := of_bind hs
      refine a_seq ?_
      refine a_region (.cons (o_fieldAddr rfl) <| .cons (o_load_s rfl rfl rfl) <| .cons (o_call (record_Read_c hy) rfl (DLeL.refl _) rfl) <| .cons (o_move rfl) <| .cons (o_extract rfl rfl) <| .cons (o_extract rfl rfl) <| .cons (o_alloc rfl) <| .cons (o_store rfl rfl rfl rfl rfl rfl rfl) <| .cons (o_assign rfl) <| .nil _) (by kernel_rfl) (by kernel_rfl) ?_
      refine a_seq ?_
      refine a_region (.cons (o_move rfl) <| .cons (o_int rfl rfl rfl) <| .nil _) (by kernel_rfl) (by kernel_rfl) ?_
      refine a_cond _ rfl (fun hb2 => ?_) (fun hb2 => ?_)
      · replace hs := (of_if hs).1 hb2
        obtain ⟨h3, hs⟩ := of_chk hs
        obtain rfl := Option.some.inj hs
        refine a_seq ?_
        refine a_region (.cons (o_load_s rfl rfl rfl) <| .cons (o_load_r rfl rfl rfl rfl) <| .cons (t_build record_Record.dv ([y.1] : List record_Record) rfl rfl rfl rfl rfl rfl rfl) <| .cons (t_append [y.1] h3 rfl rfl rfl (Src.row rfl)) <| .cons (o_store_s rfl rfl rfl rfl rfl) <| .nil _) (by kernel_rfl) (by kernel_rfl) ?_
        refine a_exit ?_
        refine ⟨rfl, ?_⟩
        exact Imp.of (fun i => bif Nat.beq i 7 then 23 else i) .nil (.cons rfl (.refl _) (.cons rfl (.refl _) (.cons rfl (.refl _) (.cons rfl (.refl _) (.cons rfl (.refl _) .nil))))) rfl rfl rfl
      · replace hs := (of_if hs).2 hb2
        obtain rfl := Option.some.inj hs
        refine a_skip ?_
        refine a_region (.cons (o_load_s rfl rfl rfl) <| .cons (o_fieldAddr rfl) <| .cons (o_load_s rfl rfl rfl) <| .cons (o_int rfl rfl rfl) <| .cons (o_store_s rfl rfl rfl rfl rfl) <| .nil _) (by kernel_rfl) (by kernel_rfl) ?_
        refine ⟨rfl, ?_⟩
        exact Imp.of (fun i => i) .nil (.cons rfl (.refl _) (.cons rfl (.refl _) (.cons rfl (.refl _) (.cons rfl (.refl _) (.cons rfl (.refl _) .nil))))) rfl rfl rfl
    · replace hs := (of_if hs).2 hb
      obtain rfl := Option.some.inj hs
      refine a_skip ?_
      refine a_region (.cons (o_load_s rfl rfl rfl) <| .cons (o_fieldAddr rfl) <| .cons (o_load_s rfl rfl rfl) <| .cons (o_int rfl rfl rfl) <| .cons (o_store_s rfl rfl rfl rfl rfl) <| .nil _) (by kernel_rfl) (by kernel_rfl) ?_
      refine ⟨rfl, ?_⟩
      exact Imp.of (fun i => i) .nil (.cons rfl (.refl _) (.cons rfl (.refl _) (.cons rfl (.refl _) (.cons rfl (.refl _) (.cons rfl (.refl _) .nil))))) rfl rfl rfl
  · rw [List.length_map, g2]
    refine a_seq ?_
    refine a_draw mixed (.cons (o_load_s rfl rfl rfl) <| .cons (o_load_s rfl rfl rfl) <| .cons (o_store_s rfl rfl rfl rfl rfl) <| .cons (o_store_s rfl rfl rfl rfl rfl) <| .nil _) (by kernel_rfl) (by kernel_rfl) (by kernel_rfl) ?_
    refine a_imp (Imp.freeze (id := 7) rfl) ?_
    refine a_ret ⟨_, .r2 (.cell rfl rfl (.sc CSc.h rfl)) (.cell rfl rfl (.sc CSc.h rfl)), DLe.refl _, rfl⟩
end Go.Proofs.YtepkcbalmjnhpaaGreat

/-
  Walk of the law RecordBytes.
-/
import Derived.Test.YtkadjbpmnpcfhaaLawD
import Derived.Test.YtkadjbpmnpcfhaaRefF
import Derived.Test.YtkadjbpmnpcfhaaRow
set_option maxHeartbeats 1000000
set_option maxRecDepth 100000
set_option linter.unusedVariables false
set_option linter.unusedSimpArgs false
namespace Go.Proofs.Ytkadjbpmnpcfhaa
open Go.RowKit
attribute [local go_sem ↓] exec_rec exec_rr Go.wp_at_zero Go.wp_at_succ
attribute [local go_sem] load_rec load_rr cellsAt_drew
theorem argB_len : ∀ l : List Int, (∀ x ∈ l, I64 x) → (l.flatMap putI).length ≤ 10 * l.length
  | [], _ => by simp
  | x :: l, h => by
    have h1 := argB_len l (fun y hy => h y (by simp [hy]))
    have h2 := putI_ten (h x (by simp))
    rw [List.flatMap_cons, List.length_append, List.length_cons]; omega
theorem recBytes_le {r : Re} (hT : ReT r) (hal : r.ev.args.length ≤ 1099511627776) : (recBytes r).length ≤ 1099511627776 := by
  unfold recBytes
  split
  · rename_i hv
    have hc := valid_comp hv
    have l1 := putU_ten (v := r.comp) (by omega)
    have l2 := putU_ten hT.seq.2
    have l3 := putU_ten hT.count.2
    unfold recHead recTail
    split
    · rename_i h1
      obtain ⟨_, ⟨r1, r2⟩, ⟨r3, r4⟩, ⟨r5, r6⟩, ⟨r7, r8⟩, ⟨r9, r10⟩, ⟨r11, r12⟩, r13⟩ := evOk_ranges (valid_entry hv h1).1
      have m1 := entB_len hT.clk (clen r.clk)
      have m2 := clen_le r.clk
      have m3 := numB_len (evNums r.ev) (by simp only [evNums, List.mem_cons, List.not_mem_nil, or_false]; rintro x (rfl | rfl | rfl | rfl | rfl | rfl) <;> omega)
      have m4 := putI_ten hT.ev.d
      have m5 := putU_ten (v := (r.ev.args.length : Int)) (by omega)
      have m6 := argB_len r.ev.args hT.ev.args
      have m7 : (evNums r.ev).length = 6 := rfl
      rw [clkBytes_eq]
      simp only [evBytes, List.length_append, List.length_cons]
      omega
    · split
      · simp only [List.length_append, List.length_cons]; omega
      · simp only [List.length_append, List.length_cons, List.length_nil]; omega
  · simp
theorem RecordBytes_walk (x : RR) (C : Option Addr) (cc : Nat) (A : Option Addr) (c : Nat) (w : World) (h0 : RAt0 w x C cc A c) (hT : RRT x) :
    Calls Try.prog 4 #[.agg (rrA x C cc A c)] w fun e w' => e = .returned (.bool true) ∧ Ext w w' := by
  have hs := rrA_size x C cc A c
  have hB : Blk (w.alloc (.cells (rrA x C cc A c) 29)) w.heap.size 29 (rrA x C cc A c) := Blk.new w _ _
  have hx0 : Ext w (w.alloc (.cells (rrA x C cc A c) 29)) := (Ext.refl w).alloc _
  have hT' := (small_T hT).re
  have hTS := (small_T hT).seq
  have KR := Lib.hid (fun w' (e : Ext w w') => LRecord_any (smallR x) C cc A c w' (h0.small.ext e))
  have tk1 : True := trivial
  have tk2 : True := trivial
  have tk3 : True := trivial
  have tk4 : True := trivial
  have tk5 : True := trivial
  have tk6 : True := trivial
  have tk7 : True := trivial
  go_enter Try.func4, Try.ntmps4
  go_wp2_with (first
    | (go_at_call 18; refine (lawake_any _).mono ?_; rintro e w1 ⟨rfl, hx1⟩; have hB1 := hB.ext hx1)
    | (have _t := tk1; refine wpList_load_rg 29 (.tmp 1) (by rfl) (by rfl) w.heap.size 0 (rrA x C cc A c) (by rfl) Try.underlying29 (by rfl) rr_size hB1.range ?_; clear tk1)
    | (go_at_call 19; refine (small_any x C cc A c _ h0.ccl h0.acl).mono ?_; rintro e w2 ⟨rfl, hx2⟩; have hB2 := hB1.ext hx2)
    | (have _t := tk2; refine wpList_store_all 29 (.tmp 1) (.tmp 8) (by rfl) (by rfl) w.heap.size 29 (rrA x C cc A c) (rrA (smallR x) C cc A c) (by rfl) (by rfl) rr_size rfl (rrA_one _ _ _ _ _) hB2 ?_; intro w3 hB3 hu3; have hx3 := hu3.ext ((hx0.trans hx1).trans hx2) (Nat.le_refl _); clear tk2)
    | (have _t := tk3; refine wpList_load_rg 29 (.tmp 1) (by rfl) (by rfl) w.heap.size 0 (rrA (smallR x) C cc A c) (by rfl) Try.underlying29 (by rfl) rr_size hB3.range ?_; clear tk3)
    | (go_at_call 20; refine (KR.out _ hx3).mono ?_; rintro e w4 ⟨rfl, hx4⟩; have hB4 := hB3.ext hx4; have hz4 := hB4.lt)
    | (have _t := tk4; refine wpList_alloc_blk 37 (by rfl) (by rfl) (recA re0 none 0) rec_zero ?_; intro w5 hB5 hx5 hs5; have hb5 := hB4.ext hx5; clear tk4)
    | (have _t := tk5; refine wpList_store_all 37 (.tmp 3) (.tmp 12) (by rfl) (by rfl) w4.heap.size 37 (recA re0 none 0) (recA (toRe (smallR x)) A c) (by rfl) (by rfl) rec_size rfl (recA_one _ _ _) hB5 ?_; intro w6 hB6 hu6; have hx6 := hu6.ext ((hx3.trans hx4).trans hx5) (hx3.trans hx4).size; have hb6 := hu6.blk hb5 (Nat.ne_of_lt hz4); clear tk5))
  have hRA := h0.small
  have p1 := hB6.cellsAt
  have p2 := hb6.cellsAt
  have HK := Lib.hid (fun w' (e : Ext w6 w') => (⟨(hB6.ext e).cellsAt, (hb6.ext e).cellsAt⟩ : cellsAt w' w4.heap.size = recA (toRe (smallR x)) A c ∧ cellsAt w' w.heap.size = rrA (smallR x) C cc A c))
  have hs1 := recA_size (toRe (smallR x)) A c
  have hs2 := rrA_size (smallR x) C cc A c
  have hx6' : Hid (Ext w w6) := hx6
  have hal : (toRe (smallR x)).ev.args.length ≤ 1099511627776 := Nat.le_trans hRA.al (by omega)
  have hlen : ∀ zs : List Int, Hid (zs = recBytes (toRe (smallR x))) → zs.length ≤ 1099511627776 := fun zs h => by rw [h.out]; exact recBytes_le hT' hal
  have heqz : ∀ zs zs' : List Int, Hid (zs = recBytes (toRe (smallR x))) → Hid (zs' = recBytes (toRe (smallR x))) → (zs == zs') = true := fun zs zs' h h' => by rw [h.out, h'.out]; simp
  have hlen2 : ∀ zs : List Int, Hid (zs = recBytes (toRe (smallR x))) → (((recBytes (toRe (smallR x))).length : Int) == (zs.length : Int)) = true := fun zs h => by rw [h.out]; simp
  have hlen := hlen
  have tk8 : True := trivial
  have tk9 : True := trivial
  have tk10 : True := trivial
  have tk11 : True := trivial
  clear hB hB1 hB2 hB3 hB4 hB5 hb5 hs5 hu6 hu3
  go_region_held3 (fun w' => cellsAt w' w4.heap.size = recA (toRe (smallR x)) A c ∧ cellsAt w' w.heap.size = rrA (smallR x) C cc A c) (first | exact ⟨by assumption, by assumption⟩ | go_keep)
    (first
      | (have _t := tk8; go_at_call 24; refine (RecBytes_any (toRe (smallR x)) A c w6.drew (hRA.ext (hx6'.out.drew)).args hal hT').mono ?_; intro e w7 h7; obtain ⟨zs7, A7, c7, hz7, rfl, ho7, hb7⟩ := h7.fresh; clear h7; have hx7 : Hid (Ext w6 w7) := (Ext.refl w6).drew.trans hb7; obtain ⟨k1, k2⟩ := HK.out w7 hx7.out; clear tk8)
      | (have _t := tk9; go_at_call 25; refine (refBytes_any (smallR x) C cc A c w7 (hRA.ext (hx6'.out.trans hx7.out)) (small_T hT)).mono ?_; intro e w8 h8; obtain ⟨zs8, A8, c8, hz8, rfl, ho8, hb8⟩ := h8.fresh; clear h8; have hx8 : Hid (Ext w7 w8) := hb8; obtain ⟨k3, k4⟩ := HK.out w8 (hx7.out.trans hx8.out); clear tk9)
      | (go_at_call 23; refine (slEqU8_any A7 A8 c7 c8 zs7 zs8 w8 ((At.of_own ho7).ext hx8.out) (At.of_own ho8) (hlen zs7 hz7)).mono ?_; rw [heqz zs7 zs8 hz7 hz8]; rintro e w9 ⟨rfl, hx9'⟩; have hx9 : Hid (Ext w8 w9) := hx9'; clear hx9'; obtain ⟨k5, k6⟩ := HK.out w9 ((hx7.out.trans hx8.out).trans hx9.out))
      | (go_at_call 26; refine (Size_any (toRe (smallR x)) A c w9 ((hRA.ext (((hx6'.out.trans hx7.out).trans hx8.out).trans hx9.out)).args) hal hT').mono ?_; rintro e w10 ⟨rfl, hx10'⟩; have hx10 : Hid (Ext w9 w10) := hx10'; clear hx10'; obtain ⟨k7, k8⟩ := HK.out w10 (((hx7.out.trans hx8.out).trans hx9.out).trans hx10.out))
      | (go_at_call 25; refine (refBytes_any (smallR x) C cc A c w10 (hRA.ext ((((hx6'.out.trans hx7.out).trans hx8.out).trans hx9.out).trans hx10.out)) (small_T hT)).mono ?_; intro e w11 h11; obtain ⟨zs11, A11, c11, hz11, rfl, ho11, hb11⟩ := h11.fresh; clear h11; have hx11 : Hid (Ext w10 w11) := hb11; obtain ⟨k9, k10⟩ := HK.out w11 ((((hx7.out.trans hx8.out).trans hx9.out).trans hx10.out).trans hx11.out); have hlz := hlen2 zs11 hz11))
  go_wp2_with fail
  go_ret
  exact ⟨rfl, ((((hx6'.out.trans hx7.out).trans hx8.out).trans hx9.out).trans hx10.out).trans hx11.out⟩
end Go.Proofs.Ytkadjbpmnpcfhaa

/-
  Walks of (Record).Bytes and Size.
-/
import Derived.Test.YtepkcbalmjnhpaaGreatRecB
import Derived.Test.YtepkcbalmjnhpaaGreatRecD
import Derived.Test.YtepkcbalmjnhpaaGreatClkO
set_option maxHeartbeats 400000
set_option maxRecDepth 100000
set_option linter.unusedVariables false
set_option linter.unusedSimpArgs false
namespace Go.Proofs.YtepkcbalmjnhpaaGreat
open Go.RowKit
theorem RetInts.nil (E : TypeId) (k : IntKind) {w w' : World} (h : Ext w w') : RetInts E k w.heap.size [] w (.returned (.slice none 0 0)) w' := ⟨none, 0, rfl, own_nil _ _ _ _, h⟩
theorem RecBytes_not (r : Re) (A : Option Addr) (c : Nat) (w : World) (ha : At w A (r.ev.args.map (Value.int .i64))) (hn : r.ev.args.length ≤ 1099511627776) (hT : ReT r) (hv : validB r = false) :
    Calls Tryz.prog 62 #[.agg (recA r A c)] w (RetInts 5 .u8 w.heap.size (recBytes r) w) := by
  have hs := recA_size r A c
  have hB : Blk (w.alloc (.cells (recA r A c) 52)) w.heap.size 52 (recA r A c) := Blk.new w _ _
  have hx0 : Ext w (w.alloc (.cells (recA r A c) 52)) := (Ext.refl w).alloc _
  have hcn := checkN_zero (r := r)
  have hbs : recBytes r = [] := by simp [recBytes, hv]
  rw [hbs]
  rw [hv] at hcn
  simp only [Bool.not_false] at hcn
  clear hbs hv
  go_enter Tryz.func62, Tryz.ntmps62
  go_wp2_with (first
    | (refine wpList_load_rg 52 (.tmp 1) (by rfl) (by rfl) w.heap.size 0 (recA r A c) (by rfl) Tryz.underlying52 (by rfl) rec_size hB.range ?_)
    | (go_at_call 110; refine (Check_any r A c _ (ha.ext hx0) hn hT.seq).mono ?_; rintro e w1 ⟨rfl, hx1⟩))
  go_ret
  exact RetInts.nil _ _ (hx0.trans hx1)
theorem RecBytes_lost (r : Re) (A : Option Addr) (c : Nat) (w : World) (ha : At w A (r.ev.args.map (Value.int .i64))) (hn : r.ev.args.length ≤ 1099511627776) (hT : ReT r) (hv : validB r = true) (h2 : r.what = 2) :
    Calls Tryz.prog 62 #[.agg (recA r A c)] w (RetInts 5 .u8 w.heap.size (recBytes r) w) := by
  have hs := recA_size r A c
  have hB : Blk (w.alloc (.cells (recA r A c) 52)) w.heap.size 52 (recA r A c) := Blk.new w _ _
  have hx0 : Ext w (w.alloc (.cells (recA r A c) 52)) := (Ext.refl w).alloc _
  have hcn := checkN_zero (r := r)
  have hbs : recBytes r = ([r.what] ++ putU r.comp ++ putU r.seq) ++ putU r.count := by simp [recBytes, hv, recHead, recTail, h2]
  have Hbs := Lib.hid hbs
  have hcm := valid_comp hv
  have hcm0 := hcm.1
  have hcm1 := hcm.2
  have hl1 := putU_ten (v := r.comp) (by omega)
  have hls := putU_ten hT.seq.2
  have b1 : (r.what == 1) = false := by simp [h2]
  have b2 : (r.what == 2) = true := by simp [h2]
  have hwr : IntKind.u64.wrap r.comp = r.comp := by rw [IntKind.wrap_u64]; omega
  rw [hv] at hcn
  simp only [Bool.not_true] at hcn
  generalize recBytes r = bs at *
  clear hbs hv hcm h2
  go_enter Tryz.func62, Tryz.ntmps62
  go_wp2_with (first
    | (refine wpList_load_rg 52 (.tmp 1) (by rfl) (by rfl) w.heap.size 0 (recA r A c) (by rfl) Tryz.underlying52 (by rfl) rec_size hB.range ?_)
    | (go_at_call 110; refine (Check_any r A c _ (ha.ext hx0) hn hT.seq).mono ?_; rintro e w1 ⟨rfl, hx1⟩; have hC1 := (hB.ext hx1).cell; have hz1 : w.heap.size < w1.heap.size := (hB.ext hx1).lt))
  have hx1' : Ext w1 (w1.alloc (.cells #[.int .u8 r.what] 5)) := (Ext.refl w1).alloc _
  refine (PutUint_any (some ⟨w1.heap.size, 0, none⟩) 1 [r.what] r.comp (w1.alloc (.cells #[.int .u8 r.what] 5)) hcm0 (by omega) (At.one w1 _ _) (by simp)).mono ?_
  intro e w2 h2
  obtain ⟨zs2, A2, c2, hz2, rfl, ho2, hb2⟩ := h2.fresh
  clear h2
  have hl2 : zs2.length ≤ 11 := by rw [hz2.out]; simp; omega
  have hx2 := hx1'.trans hb2
  have hC2 := ((hB.ext hx1).ext hx2).cell
  go_wp2_with fail
  refine (PutUint_any A2 c2 zs2 r.seq w2 hT.seq.1 hT.seq.2 (At.of_own ho2) (by omega)).mono ?_
  intro e w3 h3
  obtain ⟨zs3, A3, c3, hz3, rfl, ho3, hb3⟩ := h3.fresh
  clear h3
  have hl3 : zs3.length ≤ 21 := by rw [hz3.out]; simp; omega
  have hx3 := hx2.trans hb3
  have hC3 := ((hB.ext hx1).ext hx3).cell
  go_wp2_with fail
  refine (PutUint_any A3 c3 zs3 r.count w3 hT.count.1 hT.count.2 (At.of_own ho3) (by omega)).mono ?_
  intro e w4 h4
  obtain ⟨zs4, A4, c4, hz4, rfl, ho4, hb4⟩ := h4.fresh
  clear h4
  have hx4 := (hx0.trans hx1).trans (hx3.trans hb4)
  have hw4 := (hx0.trans hx1).trans hx3
  go_wp2_with fail
  go_ret
  exact RetInts.mk (by rw [hz4.out, hz3.out, hz2.out, Hbs.out]) (own_mono ho4 hw4.size) hx4
theorem RecBytes_end (r : Re) (A : Option Addr) (c : Nat) (w : World) (ha : At w A (r.ev.args.map (Value.int .i64))) (hn : r.ev.args.length ≤ 1099511627776) (hT : ReT r) (hv : validB r = true) (h3 : r.what = 3) :
    Calls Tryz.prog 62 #[.agg (recA r A c)] w (RetInts 5 .u8 w.heap.size (recBytes r) w) := by
  have hs := recA_size r A c
  have hB : Blk (w.alloc (.cells (recA r A c) 52)) w.heap.size 52 (recA r A c) := Blk.new w _ _
  have hx0 : Ext w (w.alloc (.cells (recA r A c) 52)) := (Ext.refl w).alloc _
  have hcn := checkN_zero (r := r)
  have hbs : recBytes r = [r.what] ++ putU r.comp ++ putU r.seq := by simp [recBytes, hv, recHead, recTail, h3]
  have Hbs := Lib.hid hbs
  have hls := putU_ten hT.seq.2
  have hcm := valid_comp hv
  have hcm0 := hcm.1
  have hcm1 := hcm.2
  have hl1 := putU_ten (v := r.comp) (by omega)
  have b1 : (r.what == 1) = false := by simp [h3]
  have b2 : (r.what == 2) = false := by simp [h3]
  have hwr : IntKind.u64.wrap r.comp = r.comp := by rw [IntKind.wrap_u64]; omega
  rw [hv] at hcn
  simp only [Bool.not_true] at hcn
  generalize recBytes r = bs at *
  clear hbs hv hcm h3
  go_enter Tryz.func62, Tryz.ntmps62
  go_wp2_with (first
    | (refine wpList_load_rg 52 (.tmp 1) (by rfl) (by rfl) w.heap.size 0 (recA r A c) (by rfl) Tryz.underlying52 (by rfl) rec_size hB.range ?_)
    | (go_at_call 110; refine (Check_any r A c _ (ha.ext hx0) hn hT.seq).mono ?_; rintro e w1 ⟨rfl, hx1⟩; have hC1 := (hB.ext hx1).cell; have hz1 : w.heap.size < w1.heap.size := (hB.ext hx1).lt))
  have hx1' : Ext w1 (w1.alloc (.cells #[.int .u8 r.what] 5)) := (Ext.refl w1).alloc _
  refine (PutUint_any (some ⟨w1.heap.size, 0, none⟩) 1 [r.what] r.comp (w1.alloc (.cells #[.int .u8 r.what] 5)) hcm0 (by omega) (At.one w1 _ _) (by simp)).mono ?_
  intro e w2 h2
  obtain ⟨zs2, A2, c2, hz2, rfl, ho2, hb2⟩ := h2.fresh
  clear h2
  have hl2 : zs2.length ≤ 11 := by rw [hz2.out]; simp; omega
  have hx2 := hx1'.trans hb2
  have hC2 := ((hB.ext hx1).ext hx2).cell
  go_wp2_with fail
  refine (PutUint_any A2 c2 zs2 r.seq w2 hT.seq.1 hT.seq.2 (At.of_own ho2) (by omega)).mono ?_
  intro e w3 h3
  obtain ⟨zs3, A3, c3, hz3, rfl, ho3, hb3⟩ := h3.fresh
  clear h3
  have hl3 : zs3.length ≤ 21 := by rw [hz3.out]; simp; omega
  have hx3 := hx2.trans hb3
  have hC3 := ((hB.ext hx1).ext hx3).cell
  go_wp2_with fail
  go_ret
  exact RetInts.mk (by rw [hz3.out, hz2.out, Hbs.out]) (own_mono ho3 ((hx0.trans hx1).trans hx2).size) ((hx0.trans hx1).trans hx3)
end Go.Proofs.YtepkcbalmjnhpaaGreat

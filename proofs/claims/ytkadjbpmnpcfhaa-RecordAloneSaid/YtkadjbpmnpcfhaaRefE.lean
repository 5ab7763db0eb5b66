/-
  Walk of the reference 24's Bytes.
-/
import Derived.Test.YtkadjbpmnpcfhaaRefC
import Derived.Test.YtkadjbpmnpcfhaaRefP
import Derived.Deep.RegionHeld3
import Derived.Deep.DrawnRows
set_option maxHeartbeats 1000000
set_option maxRecDepth 100000
set_option linter.unusedVariables false
set_option linter.unusedSimpArgs false
namespace Go.Proofs.Ytkadjbpmnpcfhaa
open Go.RowKit
attribute [local go_sem ↓] Go.wp_at_zero Go.wp_at_succ
theorem refBytes_not (x : RR) (C : Option Addr) (cc : Nat) (A : Option Addr) (c : Nat) (w : World) (hR : RAt w x C cc A c) (hT : RRT x) (hv : validB (toRe x) = false) :
    Calls Try.prog 25 #[.agg (rrA x C cc A c)] w (RetInts 5 .u8 w.heap.size (recBytes (toRe x)) w) := by
  have hs := rrA_size x C cc A c
  have hB : Blk (w.alloc (.cells (rrA x C cc A c) 29)) w.heap.size 29 (rrA x C cc A c) := Blk.new w _ _
  have hx0 : Ext w (w.alloc (.cells (rrA x C cc A c) 29)) := (Ext.refl w).alloc _
  have hbs : recBytes (toRe x) = [] := by simp [recBytes, hv]
  have KV := Lib.hid (fun w' (e : Ext w w') => Valid_any x C cc A c w' (hR.ext e) hT.seq)
  rw [hv] at KV
  rw [hbs]
  clear hbs hv
  go_enter Try.func25, Try.ntmps25
  go_wp2_with (first
    | (refine wpList_load_rg 29 (.tmp 1) (by rfl) (by rfl) w.heap.size 0 (rrA x C cc A c) (by rfl) Try.underlying29 (by rfl) rr_size hB.range ?_)
    | (go_at_call 21; refine (KV.out _ hx0).mono ?_; rintro e w1 ⟨rfl, hx1⟩))
  go_ret
  exact RetInts.nil _ _ (hx0.trans hx1)
theorem refBytes_lost (x : RR) (C : Option Addr) (cc : Nat) (A : Option Addr) (c : Nat) (w : World) (hR : RAt w x C cc A c) (hT : RRT x) (hv : validB (toRe x) = true) (h2 : x.what = 2) :
    Calls Try.prog 25 #[.agg (rrA x C cc A c)] w (RetInts 5 .u8 w.heap.size (recBytes (toRe x)) w) := by
  have hs := rrA_size x C cc A c
  have hB : Blk (w.alloc (.cells (rrA x C cc A c) 29)) w.heap.size 29 (rrA x C cc A c) := Blk.new w _ _
  have hx0 : Ext w (w.alloc (.cells (rrA x C cc A c) 29)) := (Ext.refl w).alloc _
  have hbs : recBytes (toRe x) = ([x.what] ++ putU x.comp ++ putU x.seq) ++ putU x.count := by rw [recBytes, if_pos hv]; simp [recHead, recTail, h2, toRe]
  have Hbs := Lib.hid hbs
  have KV := Lib.hid (fun w' (e : Ext w w') => Valid_any x C cc A c w' (hR.ext e) hT.seq)
  have hcm := valid_comp hv
  simp only [toRe] at hcm
  have hcm0 := hcm.1
  have hcm1 := hcm.2
  have hl1 := putU_ten (v := x.comp) (by omega)
  have hls := putU_ten hT.seq.2
  have hwr : IntKind.u64.wrap x.comp = x.comp := by rw [IntKind.wrap_u64]; omega
  rw [hv] at KV
  generalize recBytes (toRe x) = bs at *
  have b2 : (x.what == 2) = true := by simp [h2]
  have b3 : (x.what == 3) = false := by simp [h2]
  clear hbs hv hcm h2
  have tk1 : True := trivial
  go_enter Try.func25, Try.ntmps25
  go_wp2_with (first
    | (have _t := tk1; refine wpList_load_rg 29 (.tmp 1) (by rfl) (by rfl) w.heap.size 0 (rrA x C cc A c) (by rfl) Try.underlying29 (by rfl) rr_size hB.range ?_; clear tk1)
    | (go_at_call 21; refine (KV.out _ hx0).mono ?_; rintro e w1 ⟨rfl, hx1⟩))
  have hB1 := hB.ext hx1
  have hz1 := hB1.lt
  have s0 : w1.cell? ⟨w.heap.size, 0, none⟩ = some (.int .u8 x.what) := (hB1.cell 0).trans (rrA_0 _ _ _ _ _)
  have s1 : w1.cell? ⟨w.heap.size, 1, none⟩ = some (.int .i64 x.comp) := (hB1.cell 1).trans (rrA_1 _ _ _ _ _)
  have s2 : w1.cell? ⟨w.heap.size, 2, none⟩ = some (.int .u64 x.seq) := (hB1.cell 2).trans (rrA_2 _ _ _ _ _)
  have hbase : Hid (∀ w2 : World, Below w1.heap.size w1 w2 → w2.cell? ⟨w.heap.size, 0, none⟩ = some (.int .u8 x.what) ∧ w2.cell? ⟨w.heap.size, 1, none⟩ = some (.int .i64 x.comp) ∧ w2.cell? ⟨w.heap.size, 2, none⟩ = some (.int .u64 x.seq)) :=
    fun w2 h => ⟨(h.cell (p := ⟨w.heap.size, 0, none⟩) hz1).trans s0, (h.cell (p := ⟨w.heap.size, 1, none⟩) hz1).trans s1, (h.cell (p := ⟨w.heap.size, 2, none⟩) hz1).trans s2⟩
  have hx1' : Below w1.heap.size w1 (w1.alloc (.cells #[.int .u8 x.what] 5)).drew := ((Below.refl _ _).alloc (Nat.le_refl _) _).drew
  have hown1 : (w1.alloc (.cells #[.int .u8 x.what] 5)).drew.ownsRow w1.heap.size 5 1 (.slice (some ⟨w1.heap.size, 0, none⟩) [x.what].length 1) [x.what].length ([x.what].map (Value.int .u8)) :=
    World.ownsRow_lit (base := w1.heap.size) (e := 5) (size := 1) w1 #[.int .u8 x.what] 1 (Nat.le_refl _) (by decide) rfl
  have Hown1 := Lib.hid hown1
  clear hown1
  have Hs := Lib.hid hx1'
  clear hx1'
  have tk2 : True := trivial
  go_region_held3 (fun w' => w'.cell? ⟨w.heap.size, 0, none⟩ = some (.int .u8 x.what) ∧ w'.cell? ⟨w.heap.size, 1, none⟩ = some (.int .i64 x.comp) ∧ w'.cell? ⟨w.heap.size, 2, none⟩ = some (.int .u64 x.seq)) (go_keep)
    (first
      | (have _t := tk2; go_at_call 51; refine (rput_any w1.heap.size (some ⟨w1.heap.size, 0, none⟩) 1 [x.what] x.comp (w1.alloc (.cells #[.int .u8 x.what] 5)).drew hcm0 (by omega) Hown1.out Hs.out.size (by simp)).mono ?_; intro e w2 h2; obtain ⟨zs2, A2, c2, hz2, rfl, ho2, hb2, hm2⟩ := h2.fresh; clear h2; have hx2 := Hs.out.trans hb2; have hl2 : zs2.length ≤ 11 := (by rw [hz2.out]; simp; omega); obtain ⟨q0, q1, q2⟩ := hbase.out w2 hx2; clear tk2)
      | (go_at_call 51; refine (rput_any w1.heap.size A2 c2 zs2 x.seq _ hT.seq.1 hT.seq.2 ho2 hx2.size (by omega)).mono ?_; intro e w3 h3; obtain ⟨zs3, A3, c3, hz3, rfl, ho3, hb3, hm3⟩ := h3.fresh; clear h3; have hx3 := hx2.trans hb3; have hl3 : zs3.length ≤ 21 := (by rw [hz3.out]; simp; omega); obtain ⟨q3, q4, q5⟩ := hbase.out w3 hx3))
  have hB3 := hB1.below hx3 hz1
  have hC3 := hB3.cell
  have hlt3 : w.heap.size < w3.heap.size := hB3.lt
  clear s0 s1 s2 q0 q1 q2 q3 q4 q5
  go_wp2_with (go_at_call 51; refine (rput_any w1.heap.size A3 c3 zs3 x.count w3 hT.count.1 hT.count.2 ho3 hx3.size (by omega)).mono ?_; intro e w4 h4; obtain ⟨zs4, A4, c4, hz4, rfl, ho4, hb4, hm4⟩ := h4.fresh; clear h4)
  go_ret
  refine RetInts.mk (by rw [hz4.out, hz3.out, hz2.out, Hbs.out]) (own_mono ho4 (hx0.trans hx1).size) ?_
  exact (hx0.trans hx1).trans (hx3.trans hb4)
theorem refBytes_end (x : RR) (C : Option Addr) (cc : Nat) (A : Option Addr) (c : Nat) (w : World) (hR : RAt w x C cc A c) (hT : RRT x) (hv : validB (toRe x) = true) (h2 : x.what = 3) :
    Calls Try.prog 25 #[.agg (rrA x C cc A c)] w (RetInts 5 .u8 w.heap.size (recBytes (toRe x)) w) := by
  have hs := rrA_size x C cc A c
  have hB : Blk (w.alloc (.cells (rrA x C cc A c) 29)) w.heap.size 29 (rrA x C cc A c) := Blk.new w _ _
  have hx0 : Ext w (w.alloc (.cells (rrA x C cc A c) 29)) := (Ext.refl w).alloc _
  have hbs : recBytes (toRe x) = ([x.what] ++ putU x.comp ++ putU x.seq) := by rw [recBytes, if_pos hv]; simp [recHead, recTail, h2, toRe]
  have Hbs := Lib.hid hbs
  have KV := Lib.hid (fun w' (e : Ext w w') => Valid_any x C cc A c w' (hR.ext e) hT.seq)
  have hcm := valid_comp hv
  simp only [toRe] at hcm
  have hcm0 := hcm.1
  have hcm1 := hcm.2
  have hl1 := putU_ten (v := x.comp) (by omega)
  have hls := putU_ten hT.seq.2
  have hwr : IntKind.u64.wrap x.comp = x.comp := by rw [IntKind.wrap_u64]; omega
  rw [hv] at KV
  generalize recBytes (toRe x) = bs at *
  have b2 : (x.what == 2) = false := by simp [h2]
  have b3 : (x.what == 3) = true := by simp [h2]
  clear hbs hv hcm h2
  have tk1 : True := trivial
  go_enter Try.func25, Try.ntmps25
  go_wp2_with (first
    | (have _t := tk1; refine wpList_load_rg 29 (.tmp 1) (by rfl) (by rfl) w.heap.size 0 (rrA x C cc A c) (by rfl) Try.underlying29 (by rfl) rr_size hB.range ?_; clear tk1)
    | (go_at_call 21; refine (KV.out _ hx0).mono ?_; rintro e w1 ⟨rfl, hx1⟩))
  have hB1 := hB.ext hx1
  have hz1 := hB1.lt
  have s0 : w1.cell? ⟨w.heap.size, 0, none⟩ = some (.int .u8 x.what) := (hB1.cell 0).trans (rrA_0 _ _ _ _ _)
  have s1 : w1.cell? ⟨w.heap.size, 1, none⟩ = some (.int .i64 x.comp) := (hB1.cell 1).trans (rrA_1 _ _ _ _ _)
  have s2 : w1.cell? ⟨w.heap.size, 2, none⟩ = some (.int .u64 x.seq) := (hB1.cell 2).trans (rrA_2 _ _ _ _ _)
  have hbase : Hid (∀ w2 : World, Below w1.heap.size w1 w2 → w2.cell? ⟨w.heap.size, 0, none⟩ = some (.int .u8 x.what) ∧ w2.cell? ⟨w.heap.size, 1, none⟩ = some (.int .i64 x.comp) ∧ w2.cell? ⟨w.heap.size, 2, none⟩ = some (.int .u64 x.seq)) :=
    fun w2 h => ⟨(h.cell (p := ⟨w.heap.size, 0, none⟩) hz1).trans s0, (h.cell (p := ⟨w.heap.size, 1, none⟩) hz1).trans s1, (h.cell (p := ⟨w.heap.size, 2, none⟩) hz1).trans s2⟩
  have hx1' : Below w1.heap.size w1 (w1.alloc (.cells #[.int .u8 x.what] 5)).drew := ((Below.refl _ _).alloc (Nat.le_refl _) _).drew
  have hown1 : (w1.alloc (.cells #[.int .u8 x.what] 5)).drew.ownsRow w1.heap.size 5 1 (.slice (some ⟨w1.heap.size, 0, none⟩) [x.what].length 1) [x.what].length ([x.what].map (Value.int .u8)) :=
    World.ownsRow_lit (base := w1.heap.size) (e := 5) (size := 1) w1 #[.int .u8 x.what] 1 (Nat.le_refl _) (by decide) rfl
  have Hown1 := Lib.hid hown1
  clear hown1
  have Hs := Lib.hid hx1'
  clear hx1'
  have tk2 : True := trivial
  go_region_held3 (fun w' => w'.cell? ⟨w.heap.size, 0, none⟩ = some (.int .u8 x.what) ∧ w'.cell? ⟨w.heap.size, 1, none⟩ = some (.int .i64 x.comp) ∧ w'.cell? ⟨w.heap.size, 2, none⟩ = some (.int .u64 x.seq)) (go_keep)
    (first
      | (have _t := tk2; go_at_call 51; refine (rput_any w1.heap.size (some ⟨w1.heap.size, 0, none⟩) 1 [x.what] x.comp (w1.alloc (.cells #[.int .u8 x.what] 5)).drew hcm0 (by omega) Hown1.out Hs.out.size (by simp)).mono ?_; intro e w2 h2; obtain ⟨zs2, A2, c2, hz2, rfl, ho2, hb2, hm2⟩ := h2.fresh; clear h2; have hx2 := Hs.out.trans hb2; have hl2 : zs2.length ≤ 11 := (by rw [hz2.out]; simp; omega); obtain ⟨q0, q1, q2⟩ := hbase.out w2 hx2; clear tk2)
      | (go_at_call 51; refine (rput_any w1.heap.size A2 c2 zs2 x.seq _ hT.seq.1 hT.seq.2 ho2 hx2.size (by omega)).mono ?_; intro e w3 h3; obtain ⟨zs3, A3, c3, hz3, rfl, ho3, hb3, hm3⟩ := h3.fresh; clear h3; have hx3 := hx2.trans hb3; have hl3 : zs3.length ≤ 21 := (by rw [hz3.out]; simp; omega); obtain ⟨q3, q4, q5⟩ := hbase.out w3 hx3))
  have hB3 := hB1.below hx3 hz1
  have hC3 := hB3.cell
  have hlt3 : w.heap.size < w3.heap.size := hB3.lt
  clear s0 s1 s2 q0 q1 q2 q3 q4 q5
  go_wp2_with fail
  go_ret
  refine RetInts.mk (by rw [hz3.out, hz2.out, Hbs.out]) (own_mono ho3 (hx0.trans hx1).size) ?_
  exact (hx0.trans hx1).trans hx3
end Go.Proofs.Ytkadjbpmnpcfhaa

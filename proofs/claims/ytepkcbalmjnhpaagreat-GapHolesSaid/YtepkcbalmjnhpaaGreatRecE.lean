/-
  Walk of (Record).Bytes at an entry.
-/
import Derived.Test.YtepkcbalmjnhpaaGreatRecC
set_option maxHeartbeats 1000000
set_option maxRecDepth 100000
set_option linter.unusedVariables false
set_option linter.unusedSimpArgs false
namespace Go.Proofs.YtepkcbalmjnhpaaGreat
open Go.RowKit
theorem ev_zero : ((Tryz.prog.info? 50).bind (·.zero)).map (·.cells) = some (evA ev0 none 0) := by kernel_rfl
theorem evA_one (e : Ev) (A : Option Addr) (c : Nat) : ∀ u ∈ (evA e A c).toList, u.oneCell' = true := by
  intro u hu
  simp only [evA, List.mem_cons, List.not_mem_nil, or_false] at hu
  rcases hu with rfl | rfl | rfl | rfl | rfl | rfl | rfl | rfl | rfl <;> rfl
theorem idx6_0 (x0 x1 x2 x3 x4 x5 : Int) (w : World) : (Instr.index 203 (.agg #[.int .i64 x0, .int .i64 x1, .int .i64 x2, .int .i64 x3, .int .i64 x4, .int .i64 x5]) (.int .i64 ((0 : Nat) : Int))).run Tryz.prog w = .ok (.int .i64 ([x0, x1, x2, x3, x4, x5].getD 0 0)) w := by kernel_rfl
theorem idx6_1 (x0 x1 x2 x3 x4 x5 : Int) (w : World) : (Instr.index 203 (.agg #[.int .i64 x0, .int .i64 x1, .int .i64 x2, .int .i64 x3, .int .i64 x4, .int .i64 x5]) (.int .i64 ((1 : Nat) : Int))).run Tryz.prog w = .ok (.int .i64 ([x0, x1, x2, x3, x4, x5].getD 1 0)) w := by kernel_rfl
theorem idx6_2 (x0 x1 x2 x3 x4 x5 : Int) (w : World) : (Instr.index 203 (.agg #[.int .i64 x0, .int .i64 x1, .int .i64 x2, .int .i64 x3, .int .i64 x4, .int .i64 x5]) (.int .i64 ((2 : Nat) : Int))).run Tryz.prog w = .ok (.int .i64 ([x0, x1, x2, x3, x4, x5].getD 2 0)) w := by kernel_rfl
theorem idx6_3 (x0 x1 x2 x3 x4 x5 : Int) (w : World) : (Instr.index 203 (.agg #[.int .i64 x0, .int .i64 x1, .int .i64 x2, .int .i64 x3, .int .i64 x4, .int .i64 x5]) (.int .i64 ((3 : Nat) : Int))).run Tryz.prog w = .ok (.int .i64 ([x0, x1, x2, x3, x4, x5].getD 3 0)) w := by kernel_rfl
theorem idx6_4 (x0 x1 x2 x3 x4 x5 : Int) (w : World) : (Instr.index 203 (.agg #[.int .i64 x0, .int .i64 x1, .int .i64 x2, .int .i64 x3, .int .i64 x4, .int .i64 x5]) (.int .i64 ((4 : Nat) : Int))).run Tryz.prog w = .ok (.int .i64 ([x0, x1, x2, x3, x4, x5].getD 4 0)) w := by kernel_rfl
theorem idx6_5 (x0 x1 x2 x3 x4 x5 : Int) (w : World) : (Instr.index 203 (.agg #[.int .i64 x0, .int .i64 x1, .int .i64 x2, .int .i64 x3, .int .i64 x4, .int .i64 x5]) (.int .i64 ((5 : Nat) : Int))).run Tryz.prog w = .ok (.int .i64 ([x0, x1, x2, x3, x4, x5].getD 5 0)) w := by kernel_rfl
theorem idx6 (x0 x1 x2 x3 x4 x5 : Int) {k : Nat} (h : k < 6) (w : World) : (Instr.index 203 (.agg #[.int .i64 x0, .int .i64 x1, .int .i64 x2, .int .i64 x3, .int .i64 x4, .int .i64 x5]) (.int .i64 (k : Int))).run Tryz.prog w = .ok (.int .i64 ([x0, x1, x2, x3, x4, x5].getD k 0)) w := by
  have h6 : k = 0 ∨ k = 1 ∨ k = 2 ∨ k = 3 ∨ k = 4 ∨ k = 5 := by omega
  rcases h6 with rfl | rfl | rfl | rfl | rfl | rfl
  · exact idx6_0 x0 x1 x2 x3 x4 x5 w
  · exact idx6_1 x0 x1 x2 x3 x4 x5 w
  · exact idx6_2 x0 x1 x2 x3 x4 x5 w
  · exact idx6_3 x0 x1 x2 x3 x4 x5 w
  · exact idx6_4 x0 x1 x2 x3 x4 x5 w
  · exact idx6_5 x0 x1 x2 x3 x4 x5 w
theorem take_getD (l : List Int) {k : Nat} (h : k < l.length) : l.take (k + 1) = l.take k ++ [l.getD k 0] := by
  rw [List.take_succ_eq_append_getElem h, List.getD_eq_getElem?_getD, List.getElem?_eq_getElem h]; rfl
theorem RecBytes_entry (r : Re) (A : Option Addr) (c : Nat) (w : World) (ha : At w A (r.ev.args.map (Value.int .i64))) (hn : r.ev.args.length ≤ 1099511627776) (hT : ReT r) (hv : validB r = true) (h1 : r.what = 1) :
    Calls Tryz.prog 62 #[.agg (recA r A c)] w (RetInts 5 .u8 w.heap.size (recBytes r) w) := by
  have hs := recA_size r A c
  have hB : Blk (w.alloc (.cells (recA r A c) 52)) w.heap.size 52 (recA r A c) := Blk.new w _ _
  have hx0 : Ext w (w.alloc (.cells (recA r A c) 52)) := (Ext.refl w).alloc _
  have hcn := checkN_zero (r := r)
  have hbs : recBytes r = ([r.what] ++ putU r.comp ++ putU r.seq) ++ clkBytes r.clk ++ (evNums r.ev).flatMap putU ++ putI r.ev.d ++ putU r.ev.args.length ++ r.ev.args.flatMap putI := by simp [recBytes, hv, recHead, recTail, h1, evBytes]
  have Hbs := Lib.hid hbs
  have hcm := valid_comp hv
  have hcm0 := hcm.1
  have hcm1 := hcm.2
  have hl1 := putU_ten (v := r.comp) (by omega)
  have hls := putU_ten hT.seq.2
  have b1 : (r.what == 1) = true := by simp [h1]
  obtain ⟨_, ⟨r1, r2⟩, ⟨r3, r4⟩, ⟨r5, r6⟩, ⟨r7, r8⟩, ⟨r9, r10⟩, ⟨r11, r12⟩, r13⟩ := evOk_ranges (valid_entry hv h1).1
  have hwr : IntKind.u64.wrap r.comp = r.comp := by rw [IntKind.wrap_u64]; omega
  rw [hv] at hcn
  simp only [Bool.not_true] at hcn
  generalize recBytes r = bs at *
  clear hbs hv hcm h1
  go_enter Tryz.func62, Tryz.ntmps62
  go_wp2_with (first
    | (refine wpList_load_rg 52 (.tmp 1) (by rfl) (by rfl) w.heap.size 0 (recA r A c) (by rfl) Tryz.underlying52 (by rfl) rec_size hB.range ?_)
    | (go_at_call 110; refine (Check_any r A c _ (ha.ext hx0) hn hT.seq).mono ?_; rintro e w1 ⟨rfl, hx1⟩; have hC1 := (hB.ext hx1).cell; have hz1 : w.heap.size < w1.heap.size := (hB.ext hx1).lt))
  have hx1' : Ext w1 (w1.alloc (.cells #[.int .u8 r.what] 5)) := (Ext.refl w1).alloc _
  refine (PutUint_any (some ⟨w1.heap.size, 0, none⟩) 1 [r.what] r.comp (w1.alloc (.cells #[.int .u8 r.what] 5)) hcm0 (by omega) (At.one w1 _ _) (by simp)).mono ?_
  intro e w2 h2
  obtain ⟨zs2, A2, c2, hz2, rfl, ho2, hb2⟩ := h2.fresh
  clear h2
  have hl2 : zs2.length ≤ 11 := by rw [hz2.out]; simp; omega
  have hx2 := hx1'.trans hb2
  have hC2 := ((hB.ext hx1).ext hx2).cell
  go_wp2_with fail
  refine (PutUint_any A2 c2 zs2 r.seq w2 hT.seq.1 hT.seq.2 (At.of_own ho2) (by omega)).mono ?_
  intro e w3 h3
  obtain ⟨zs3, A3, c3, hz3, rfl, ho3, hb3⟩ := h3.fresh
  clear h3
  have hl3 : zs3.length ≤ 21 := by rw [hz3.out]; simp; omega
  have hx3 := hx2.trans hb3
  have hC3 := ((hB.ext hx1).ext hx3).cell
  have hB3 := (hB.ext hx1).ext hx3
  go_wp2_with (first
    | (refine wpList_load_rg 50 (.tmp 28) (by rfl) (by rfl) w.heap.size 19 (evA r.ev A c) (by rfl) Tryz.underlying50 (by rfl) ev_size hB3.ev ?_)
    | (refine wpList_alloc_blk 50 (by rfl) (by rfl) (evA ev0 none 0) ev_zero ?_; intro w4 hB4 hx4 hs4)
    | (refine wpList_store_all 50 (.tmp 4) (.tmp 29) (by rfl) (by rfl) w3.heap.size 50 (evA ev0 none 0) (evA r.ev A c) (by rfl) (by rfl) ev_size rfl (evA_one _ _ _) hB4 ?_; intro w5 hB5 hu5; have hx5 : Ext w3 w5 := hu5.ext hx4 (Nat.le_refl _); have hr5 := hB3.ext hx5)
    | (refine wpList_load_rg 45 (.tmp 30) (by rfl) (by rfl) w.heap.size 2 (clkA r.clk) (by rfl) Tryz.underlying45 (by rfl) clk_size hr5.clk ?_))
  refine (ClkBytes_any r.clk A3 c3 zs3 w5 hT.clk ((At.of_own ho3).ext hx5) (by omega)).mono ?_
  intro e w6 h6
  obtain ⟨zs6, A6, c6, hz6, rfl, ho6, hb6⟩ := h6.fresh
  clear h6
  have hlc := entB_len hT.clk (clen r.clk)
  have hlc2 := clen_le r.clk
  have hl6 : zs6.length ≤ 200 := by rw [hz6.out, clkBytes_eq]; simp; omega
  have hB6 : Blk w6 w3.heap.size 50 (evA r.ev A c) := hB5.ext hb6
  have hev : evA r.ev A c = #[.int .i64 r.ev.tick, .int .i64 r.ev.comp, .int .u8 r.ev.kind, .int .i64 r.ev.peer, .int .i64 r.ev.n, .int .i64 r.ev.copy, .int .i64 r.ev.handler, .int .i64 r.ev.d, .slice A r.ev.args.length c] := rfl
  rw [hev] at hB6
  have hC6 := hB6.cell
  clear hC2 hC3 hC1 hev
  go_wp2_with fail
  have hlt7 : w3.heap.size < w6.heap.size := hB6.lt
  go_loopw [3, 48] (fun p i wr => ∃ (k : Nat) (A' : Option Addr) (c' : Nat) (zs : List Int), k ≤ 6 ∧ i = .int .i64 k ∧ p = .slice A' zs.length c' ∧ Hid (zs = zs6 ++ ((evNums r.ev).take k).flatMap putU) ∧ zs.length ≤ 200 + 10 * k ∧ Ext w6 wr ∧
      wr.ownsRow w.heap.size 5 1 (.slice A' zs.length c') zs.length (zs.map (Value.int .u8))) (fun _ i _ => 6 - (intOf i).toNat)
  case atStart => exact ⟨0, A6, c6, zs6, by omega, rfl, rfl, by simp [Hid], by omega, Ext.refl _, own_mono ho6 (((hx0.trans hx1).trans hx3).trans hx5).size⟩
  case round =>
    obtain ⟨k, A', c', zs, hk, rfl, rfl, hz, hzl, hx, ho⟩ := hrel
    have hBr := hB6.ext hx
    have hCr := hBr.cell
    by_cases hlt : k < 6
    · have hidx := idx6 r.ev.tick r.ev.kind r.ev.peer r.ev.n r.ev.copy r.ev.handler hlt
      have hnk : 0 ≤ [r.ev.tick, r.ev.kind, r.ev.peer, r.ev.n, r.ev.copy, r.ev.handler].getD k 0 ∧ [r.ev.tick, r.ev.kind, r.ev.peer, r.ev.n, r.ev.copy, r.ev.handler].getD k 0 ≤ 2147483647 := by
        match k, hlt with
        | 0, _ => exact ⟨r1, by simp; omega⟩
        | 1, _ => exact ⟨by simp; omega, by simp; omega⟩
        | 2, _ => exact ⟨r5, by simp; omega⟩
        | 3, _ => exact ⟨r7, r8⟩
        | 4, _ => exact ⟨r9, by simp; omega⟩
        | 5, _ => exact ⟨r11, by simp; omega⟩
      have htk : (evNums r.ev).take (k + 1) = (evNums r.ev).take k ++ [[r.ev.tick, r.ev.kind, r.ev.peer, r.ev.n, r.ev.copy, r.ev.handler].getD k 0] := take_getD (evNums r.ev) (by simpa [evNums] using hlt)
      have Htk := Lib.hid htk
      clear htk
      generalize [r.ev.tick, r.ev.kind, r.ev.peer, r.ev.n, r.ev.copy, r.ev.handler].getD k 0 = nk at *
      have hn0 := hnk.1
      have hn1 := hnk.2
      have hlk := putU_ten (v := nk) (by omega)
      have hwk : IntKind.u64.wrap nk = nk := by rw [IntKind.wrap_u64]; omega
      clear hnk
      go_wp2_with (go_at_call 82; refine ((PutUint_any A' c' zs nk wr hn0 (by omega) (At.of_own ho) (by omega)).mono ?_); rintro e w8 ⟨A8, c8, rfl, ho8, hb8⟩)
      go_roundw
      case rel => exact ⟨k + 1, A8, c8, zs ++ putU nk, by omega, by go_num, by simp, by simp [Hid, hz.out, Htk.out], by simp; omega, hx.trans hb8, own_mono ho8 (Nat.le_trans ((((hx0.trans hx1).trans hx3).trans hx5).trans (Ext.trans hb6 hx)).size (Nat.le_refl _))⟩
      case measure => simp [intOf]; omega
    · obtain rfl : k = 6 := by omega
      go_wp2_with fail
      refine (PutInt_any A' c' zs r.ev.d wr hT.ev.d.1 hT.ev.d.2 (At.of_own ho) (by omega)).mono ?_
      intro e w8 h8
      obtain ⟨zs8, A8, c8, hz8, rfl, ho8, hb8⟩ := h8.fresh
      clear h8
      have hld := putI_ten hT.ev.d
      have hl8 : zs8.length ≤ 270 := by rw [hz8.out]; simp; omega
      have hB8 := hBr.ext hb8
      have hC8 := hB8.cell
      have hwl : IntKind.u64.wrap (r.ev.args.length : Int) = r.ev.args.length := by rw [IntKind.wrap_u64]; omega
      clear hCr
      go_wp2_with fail
      refine (PutUint_any A8 c8 zs8 r.ev.args.length w8 (by omega) (by omega) (At.of_own ho8) (by omega)).mono ?_
      intro e w9 h9
      obtain ⟨zs9, A9, c9, hz9, rfl, ho9, hb9⟩ := h9.fresh
      clear h9
      have hla := putU_ten (v := (r.ev.args.length : Int)) (by omega)
      have hl9 : zs9.length ≤ 280 := by rw [hz9.out]; simp; omega
      have hB9 := hB8.ext hb9
      have hC9 := hB9.cell
      have hxx : Ext w w9 := (((((hx0.trans hx1).trans hx3).trans hx5).trans hb6).trans hx).trans (Ext.trans hb8 hb9)
      clear hC8
      go_wp2_with fail
      obtain ⟨wo, rfl⟩ : ∃ wo : World, wo = wr := ⟨_, rfl⟩
      have hat9 := ha.ext hxx
      go_loopw [3, 69] (fun p i wr => ∃ (k : Nat) (A' : Option Addr) (c' : Nat) (zs : List Int), k ≤ r.ev.args.length ∧ i = .int .i64 k ∧ p = .slice A' zs.length c' ∧ Hid (zs = zs9 ++ (r.ev.args.take k).flatMap putI) ∧ zs.length ≤ 280 + 10 * k ∧ Ext w9 wr ∧
          wr.ownsRow w.heap.size 5 1 (.slice A' zs.length c') zs.length (zs.map (Value.int .u8))) (fun _ i _ => r.ev.args.length - (intOf i).toNat)
      case atStart => exact ⟨0, A9, c9, zs9, by omega, rfl, rfl, by simp [Hid], by omega, Ext.refl _, own_mono ho9 (((((hx0.trans hx1).trans hx3).trans hx5).trans hb6).trans (Ext.trans hx hb8)).size⟩
      case round =>
        obtain ⟨k, Ak, ck, zsk, hk, rfl, rfl, hzk, hzl, hxk, hok⟩ := hrel
        by_cases hlt : k < r.ev.args.length
        · obtain ⟨b1, o1, rfl, hc1⟩ := (hat9.ext hxk).cell (j := k) (v := .int .i64 r.ev.args[k]) (by simp [hlt])
          have hak : I64 r.ev.args[k] := hT.ev.args _ (List.getElem_mem hlt)
          have Htk := Lib.hid (List.take_succ_eq_append_getElem hlt)
          have hlk := putI_ten hak
          generalize r.ev.args[k] = x at *
          go_wp2_with (go_at_call 112; refine ((PutInt_any Ak ck zsk x wr hak.1 hak.2 (At.of_own hok) (by omega)).mono ?_); rintro e w10 ⟨A10, c10, rfl, ho10, hb10⟩)
          go_roundw
          case rel => exact ⟨k + 1, A10, c10, zsk ++ putI x, by omega, by go_num, by simp, by simp [Hid, hzk.out, Htk.out], by simp; omega, hxk.trans hb10, own_mono ho10 (hxx.trans hxk).size⟩
          case measure => simp [intOf]; omega
        · obtain rfl : k = r.ev.args.length := by omega
          go_wp2_with fail
          go_ret
          refine RetInts.mk ?_ hok (hxx.trans hxk)
          rw [hzk.out, hz9.out, hz8.out, hz.out, hz6.out, hz3.out, hz2.out, Hbs.out]
          simp [evNums]
theorem RecBytes_any (r : Re) (A : Option Addr) (c : Nat) (w : World) (ha : At w A (r.ev.args.map (Value.int .i64))) (hn : r.ev.args.length ≤ 1099511627776) (hT : ReT r) :
    Calls Tryz.prog 62 #[.agg (recA r A c)] w (RetInts 5 .u8 w.heap.size (recBytes r) w) := by
  cases hv : validB r
  · exact RecBytes_not r A c w ha hn hT hv
  · rcases valid_what hv with h | h | h
    · exact RecBytes_entry r A c w ha hn hT hv h
    · exact RecBytes_lost r A c w ha hn hT hv h
    · exact RecBytes_end r A c w ha hn hT hv h
theorem Size_any (r : Re) (A : Option Addr) (c : Nat) (w : World) (ha : At w A (r.ev.args.map (Value.int .i64))) (hn : r.ev.args.length ≤ 1099511627776) (hT : ReT r) :
    Calls Tryz.prog 186 #[.agg (recA r A c)] w fun e w' => e = .returned (.int .i64 (recBytes r).length) ∧ Ext w w' := by
  have hs := recA_size r A c
  have hB : Blk (w.alloc (.cells (recA r A c) 52)) w.heap.size 52 (recA r A c) := Blk.new w _ _
  have hx0 : Ext w (w.alloc (.cells (recA r A c) 52)) := (Ext.refl w).alloc _
  go_enter Tryz.func186, Tryz.ntmps186
  go_wp2_with (first
    | (refine wpList_load_rg 52 (.tmp 1) (by rfl) (by rfl) w.heap.size 0 (recA r A c) (by rfl) Tryz.underlying52 (by rfl) rec_size hB.range ?_)
    | (go_at_call 62; refine (RecBytes_any r A c _ (ha.ext hx0) hn hT).mono ?_; rintro e w1 ⟨A1, c1, rfl, ho1, hb1⟩))
  go_ret
  exact ⟨rfl, hx0.trans hb1⟩
end Go.Proofs.YtepkcbalmjnhpaaGreat

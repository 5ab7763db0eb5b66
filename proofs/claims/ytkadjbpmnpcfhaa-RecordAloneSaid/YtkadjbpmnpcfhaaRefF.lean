/-
  Walk of the reference 24's Bytes at an entry.
-/
import Derived.Test.YtkadjbpmnpcfhaaRefC
import Derived.Test.YtkadjbpmnpcfhaaRefE
import Derived.Deep.RegionHeld3
import Derived.Deep.DrawnRows
set_option maxHeartbeats 1000000
set_option maxRecDepth 100000
set_option linter.unusedVariables false
set_option linter.unusedSimpArgs false
namespace Go.Proofs.Ytkadjbpmnpcfhaa
open Go.RowKit
attribute [local go_sem ↓] Go.wp_at_zero Go.wp_at_succ
theorem six_get (x0 x1 x2 x3 x4 x5 : Int) {k : Nat} (h : k < 6) : (#[.int .i64 x0, .int .i64 x1, .int .i64 x2, .int .i64 x3, .int .i64 x4, .int .i64 x5] : Array Value)[k]? = some (.int .i64 ([x0, x1, x2, x3, x4, x5].getD k 0)) := by
  have h6 : k = 0 ∨ k = 1 ∨ k = 2 ∨ k = 3 ∨ k = 4 ∨ k = 5 := by omega
  rcases h6 with rfl | rfl | rfl | rfl | rfl | rfl <;> rfl
theorem refBytes_entry (x : RR) (C : Option Addr) (cc : Nat) (A : Option Addr) (c : Nat) (w : World) (hR : RAt w x C cc A c) (hT : RRT x) (hv : validB (toRe x) = true) (h2 : x.what = 1) :
    Calls Try.prog 25 #[.agg (rrA x C cc A c)] w (RetInts 5 .u8 w.heap.size (recBytes (toRe x)) w) := by
  have hs := rrA_size x C cc A c
  have hB : Blk (w.alloc (.cells (rrA x C cc A c) 29)) w.heap.size 29 (rrA x C cc A c) := Blk.new w _ _
  have hx0 : Ext w (w.alloc (.cells (rrA x C cc A c) 29)) := (Ext.refl w).alloc _
  have hbs : recBytes (toRe x) = ([x.what] ++ putU x.comp ++ putU x.seq) ++ clkBytes (clkOf x.clock) ++ (evNums x.ev).flatMap putU ++ putI x.ev.d ++ putU x.ev.args.length ++ x.ev.args.flatMap putI := by rw [recBytes, if_pos hv]; simp [recHead, recTail, h2, toRe, evBytes]
  have Hbs := Lib.hid hbs
  have KV := Lib.hid (fun w' (e : Ext w w') => Valid_any x C cc A c w' (hR.ext e) hT.seq)
  obtain ⟨_, ⟨r1, r2⟩, ⟨r3, r4⟩, ⟨r5, r6⟩, ⟨r7, r8⟩, ⟨r9, r10⟩, ⟨r11, r12⟩, r13⟩ := evOk_ranges (valid_entry hv h2).1
  simp only [toRe] at r1 r2 r3 r4 r5 r6 r7 r8 r9 r10 r11 r12 r13
  have hcm := valid_comp hv
  simp only [toRe] at hcm
  have hcm0 := hcm.1
  have hcm1 := hcm.2
  have hl1 := putU_ten (v := x.comp) (by omega)
  have hls := putU_ten hT.seq.2
  have hwr : IntKind.u64.wrap x.comp = x.comp := by rw [IntKind.wrap_u64]; omega
  rw [hv] at KV
  generalize recBytes (toRe x) = bs at *
  have b2 : (x.what == 2) = false := by simp [h2]
  have b3 : (x.what == 3) = false := by simp [h2]
  clear hbs hv hcm h2
  have tk1 : True := trivial
  go_enter Try.func25, Try.ntmps25
  go_wp2_with (first
    | (have _t := tk1; refine wpList_load_rg 29 (.tmp 1) (by rfl) (by rfl) w.heap.size 0 (rrA x C cc A c) (by rfl) Try.underlying29 (by rfl) rr_size hB.range ?_; clear tk1)
    | (go_at_call 21; refine (KV.out _ hx0).mono ?_; rintro e w1 ⟨rfl, hx1⟩))
  have hB1 := hB.ext hx1
  have hz1 := hB1.lt
  have s0 : w1.cell? ⟨w.heap.size, 0, none⟩ = some (.int .u8 x.what) := (hB1.cell 0).trans (rrA_0 _ _ _ _ _)
  have s1 : w1.cell? ⟨w.heap.size, 1, none⟩ = some (.int .i64 x.comp) := (hB1.cell 1).trans (rrA_1 _ _ _ _ _)
  have s2 : w1.cell? ⟨w.heap.size, 2, none⟩ = some (.int .u64 x.seq) := (hB1.cell 2).trans (rrA_2 _ _ _ _ _)
  have hbase : Hid (∀ w2 : World, Below w1.heap.size w1 w2 → w2.cell? ⟨w.heap.size, 0, none⟩ = some (.int .u8 x.what) ∧ w2.cell? ⟨w.heap.size, 1, none⟩ = some (.int .i64 x.comp) ∧ w2.cell? ⟨w.heap.size, 2, none⟩ = some (.int .u64 x.seq)) :=
    fun w2 h => ⟨(h.cell (p := ⟨w.heap.size, 0, none⟩) hz1).trans s0, (h.cell (p := ⟨w.heap.size, 1, none⟩) hz1).trans s1, (h.cell (p := ⟨w.heap.size, 2, none⟩) hz1).trans s2⟩
  have hx1' : Below w1.heap.size w1 (w1.alloc (.cells #[.int .u8 x.what] 5)).drew := ((Below.refl _ _).alloc (Nat.le_refl _) _).drew
  have hown1 : (w1.alloc (.cells #[.int .u8 x.what] 5)).drew.ownsRow w1.heap.size 5 1 (.slice (some ⟨w1.heap.size, 0, none⟩) [x.what].length 1) [x.what].length ([x.what].map (Value.int .u8)) :=
    World.ownsRow_lit (base := w1.heap.size) (e := 5) (size := 1) w1 #[.int .u8 x.what] 1 (Nat.le_refl _) (by decide) rfl
  have Hown1 := Lib.hid hown1
  clear hown1
  have Hs := Lib.hid hx1'
  clear hx1'
  have tk2 : True := trivial
  go_region_held3 (fun w' => w'.cell? ⟨w.heap.size, 0, none⟩ = some (.int .u8 x.what) ∧ w'.cell? ⟨w.heap.size, 1, none⟩ = some (.int .i64 x.comp) ∧ w'.cell? ⟨w.heap.size, 2, none⟩ = some (.int .u64 x.seq)) (go_keep)
    (first
      | (have _t := tk2; go_at_call 51; refine (rput_any w1.heap.size (some ⟨w1.heap.size, 0, none⟩) 1 [x.what] x.comp (w1.alloc (.cells #[.int .u8 x.what] 5)).drew hcm0 (by omega) Hown1.out Hs.out.size (by simp)).mono ?_; intro e w2 h2; obtain ⟨zs2, A2, c2, hz2, rfl, ho2, hb2, hm2⟩ := h2.fresh; clear h2; have hx2 := Hs.out.trans hb2; have hl2 : zs2.length ≤ 11 := (by rw [hz2.out]; simp; omega); obtain ⟨q0, q1, q2⟩ := hbase.out w2 hx2; clear tk2)
      | (go_at_call 51; refine (rput_any w1.heap.size A2 c2 zs2 x.seq _ hT.seq.1 hT.seq.2 ho2 hx2.size (by omega)).mono ?_; intro e w3 h3; obtain ⟨zs3, A3, c3, hz3, rfl, ho3, hb3, hm3⟩ := h3.fresh; clear h3; have hx3 := hx2.trans hb3; have hl3 : zs3.length ≤ 21 := (by rw [hz3.out]; simp; omega); obtain ⟨q3, q4, q5⟩ := hbase.out w3 hx3))
  have hB3 := hB1.below hx3 hz1
  have hC3 := hB3.cell
  have hlt3 : w.heap.size < w3.heap.size := hB3.lt
  clear s0 s1 s2 q0 q1 q2 q3 q4 q5
  have hcl := clen_of hR.cl
  have KT := Lib.hid (Trim_any C cc x.clock w3 ((hR.clock.ext (hx0.trans hx1)).ext hx3) hR.ccl.1 hR.ccl.2)
  rw [← hcl] at KT
  have hcl16 := clen_le (clkOf x.clock)
  have hmod : (clen (clkOf x.clock) : Int) % 256 = clen (clkOf x.clock) := by omega
  clear hcl
  have tk3 : True := trivial
  go_wp2_with (first
    | (go_at_call 52; refine KT.out.mono ?_; rintro e w4 ⟨rfl, rfl⟩)
    | (have _t := tk3; at_builtin; refine wpList_app1 _ (.tmp 39) (.tmp 43) elU8 (by rfl) (by rfl) w1.heap.size (.slice A3 zs3.length c3) _ _ (by rfl) ho3 _ (by rfl) (by rfl) ⟨?_, ?_, hx3.size⟩ ?_; omega; omega; intro A5 c5 w5 ho5 hb5 hg5 hw5; clear tk3))
  have hx5 : Below w1.heap.size w1 w5 := hx3.trans hb5
  have hat3 := (hR.clock.ext (hx0.trans hx1)).ext hx3
  have hatA := hR.args.ext (hx0.trans hx1)
  have hclk : Hid (At w1 C (x.clock.map (Value.int .u64))) := hR.clock.ext (hx0.trans hx1)
  have hle16 := hR.cl
  go_loopw [3, 47] (fun p i wr => ∃ (k : Nat) (A' : Option Addr) (c' : Nat) (zs : List Int), k ≤ clen (clkOf x.clock) ∧ i = .int .i64 k ∧ p = .slice A' zs.length c' ∧ Hid (zs = zs3 ++ (clen (clkOf x.clock) : Int) :: entB (clkOf x.clock) k) ∧ zs.length ≤ 22 + 10 * k ∧ Below w1.heap.size w1 wr ∧
      wr.ownsRow w1.heap.size 5 1 (.slice A' zs.length c') zs.length (zs.map (Value.int .u8))) (fun _ i _ => clen (clkOf x.clock) - (intOf i).toNat)
  case atStart => exact ⟨0, A5, c5, zs3 ++ [(clen (clkOf x.clock) : Int)], by omega, rfl, by simp, by simp [Hid, entB], by simp; omega, hx5, by simpa using ho5⟩
  case round =>
    obtain ⟨k, A', c', zs, hk, rfl, rfl, hz, hzl, hx, ho⟩ := hrel
    by_cases hlt : k < clen (clkOf x.clock)
    · have hkl : k < x.clock.length := by
        rcases Nat.lt_or_ge k x.clock.length with h | h
        · exact h
        · have := clenTo_le (clkOf x.clock) x.clock.length
          rw [clen_of hle16] at hlt
          omega
      obtain ⟨b1, o1, rfl, hc1⟩ := (hclk.out.ext hx).cell (j := k) (v := .int .u64 x.clock[k]) (by simp [hkl])
      have hck : clkOf x.clock k = x.clock[k] := by simp [clkOf, hkl]
      have huk : U64 x.clock[k] := hT.clock _ (List.getElem_mem hkl)
      have HE := Lib.hid (entB_succ (clkOf x.clock) k)
      rw [hck] at HE
      clear hck
      have hlk := putU_ten huk.2
      generalize x.clock[k] = v at *
      have h3 : (0 : Int) ≤ (k : Int) := by omega
      have h4 : (k : Int) < (clen (clkOf x.clock) : Int) := by omega
      go_wp2_with (go_at_call 51; refine ((rput_any w1.heap.size A' c' zs v wr huk.1 huk.2 ho hx.size (by omega)).mono ?_); rintro e w8 ⟨A8, c8, rfl, ho8, hb8, hm8⟩)
      go_roundw
      case rel => exact ⟨k + 1, A8, c8, zs ++ putU v, by omega, by go_num, by simp, by simp [Hid, hz.out, HE.out], by simp; omega, hx.trans hb8, ho8⟩
      case measure => simp [intOf]; omega
    · obtain rfl : k = clen (clkOf x.clock) := by omega
      have hBr := hB1.below hx hz1
      have hzr : Hid (zs = zs3 ++ clkBytes (clkOf x.clock)) := by unfold Hid; rw [hz.out, clkBytes_eq]
      have hzl6 : zs.length ≤ 200 := by omega
      clear hzl hC3 hx5 ho5 hlt
      obtain ⟨w6, rfl⟩ : ∃ w6 : World, w6 = wr := ⟨_, rfl⟩
      have tk4 : True := trivial
      have tk5 : True := trivial
      have tk6 : True := trivial
      go_wp2_with (first
        | (have _t := tk4; refine wpList_load_rg 27 (.tmp 55) (by rfl) (by rfl) w.heap.size 5 (evA x.ev A c) (by rfl) Try.underlying27 (by rfl) ev_size hBr.rev ?_; clear tk4)
        | (have _t := tk5; refine wpList_alloc_blk 27 (by rfl) (by rfl) (evA ev0 none 0) ev_zero ?_; intro w7 hB7 hx7 hs7; clear tk5)
        | (have _t := tk6; refine wpList_store_all 27 (.tmp 7) (.tmp 56) (by rfl) (by rfl) w6.heap.size 27 (evA ev0 none 0) (evA x.ev A c) (by rfl) (by rfl) ev_size rfl (evA_one _ _ _) hB7 ?_; intro w8 hB8 hu8; rw [show evA x.ev A c = #[.int .i64 x.ev.tick, .int .i64 x.ev.comp, .int .u8 x.ev.kind, .int .i64 x.ev.peer, .int .i64 x.ev.n, .int .i64 x.ev.copy, .int .i64 x.ev.handler, .int .i64 x.ev.d, .slice A x.ev.args.length c] from rfl] at hB8; have hC8 := hB8.cell; clear tk6))
      have hx68 : Ext w6 (w8.alloc (.cells #[.int .i64 x.ev.tick, .int .i64 x.ev.kind, .int .i64 x.ev.peer, .int .i64 x.ev.n, .int .i64 x.ev.copy, .int .i64 x.ev.handler] 3)) := (hu8.ext hx7 (Nat.le_refl _)).alloc _
      have hB9 : Blk (w8.alloc (.cells #[.int .i64 x.ev.tick, .int .i64 x.ev.kind, .int .i64 x.ev.peer, .int .i64 x.ev.n, .int .i64 x.ev.copy, .int .i64 x.ev.handler] 3)) w8.heap.size 3 #[.int .i64 x.ev.tick, .int .i64 x.ev.kind, .int .i64 x.ev.peer, .int .i64 x.ev.n, .int .i64 x.ev.copy, .int .i64 x.ev.handler] := Blk.new _ _ _
      have hE9 : Blk (w8.alloc (.cells #[.int .i64 x.ev.tick, .int .i64 x.ev.kind, .int .i64 x.ev.peer, .int .i64 x.ev.n, .int .i64 x.ev.copy, .int .i64 x.ev.handler] 3)) w6.heap.size 27 #[.int .i64 x.ev.tick, .int .i64 x.ev.comp, .int .u8 x.ev.kind, .int .i64 x.ev.peer, .int .i64 x.ev.n, .int .i64 x.ev.copy, .int .i64 x.ev.handler, .int .i64 x.ev.d, .slice A x.ev.args.length c] := hB8.ext ((Ext.refl _).alloc _)
      have hx9 : Below w1.heap.size w1 (w8.alloc (.cells #[.int .i64 x.ev.tick, .int .i64 x.ev.kind, .int .i64 x.ev.peer, .int .i64 x.ev.n, .int .i64 x.ev.copy, .int .i64 x.ev.handler] 3)) := hx.trans (Below.mono hx68 hx.size)
      have ho9 := own_ext ho hx68
      generalize w8.alloc (.cells #[.int .i64 x.ev.tick, .int .i64 x.ev.kind, .int .i64 x.ev.peer, .int .i64 x.ev.n, .int .i64 x.ev.copy, .int .i64 x.ev.handler] 3) = w9 at *
      clear hC8 hB8 hB7 hu8 hx7 hs7 hBr
      go_loopw [3, 72] (fun p i wr => ∃ (k : Nat) (A' : Option Addr) (c' : Nat) (zs' : List Int), k ≤ 6 ∧ i = .int .i64 k ∧ p = .slice A' zs'.length c' ∧ Hid (zs' = zs ++ ((evNums x.ev).take k).flatMap putU) ∧ zs'.length ≤ 200 + 10 * k ∧ Below w1.heap.size w1 wr ∧
          wr.ownsRow w1.heap.size 5 1 (.slice A' zs'.length c') zs'.length (zs'.map (Value.int .u8)) ∧ Blk wr w8.heap.size 3 #[.int .i64 x.ev.tick, .int .i64 x.ev.kind, .int .i64 x.ev.peer, .int .i64 x.ev.n, .int .i64 x.ev.copy, .int .i64 x.ev.handler] ∧ Blk wr w6.heap.size 27 #[.int .i64 x.ev.tick, .int .i64 x.ev.comp, .int .u8 x.ev.kind, .int .i64 x.ev.peer, .int .i64 x.ev.n, .int .i64 x.ev.copy, .int .i64 x.ev.handler, .int .i64 x.ev.d, .slice A x.ev.args.length c]) (fun _ i _ => 6 - (intOf i).toNat)
      case atStart => exact ⟨0, A', c', zs, by omega, rfl, rfl, by simp [Hid], by omega, hx9, ho9, hB9, hE9⟩
      case round =>
        obtain ⟨k, A2', c2', zs', hk2, rfl, rfl, hz', hzl', hx', ho', hB', hE'⟩ := hrel
        have hCE := hE'.cell
        by_cases hlt : k < 6
        · have hcell := (hB'.cell k).trans (six_get x.ev.tick x.ev.kind x.ev.peer x.ev.n x.ev.copy x.ev.handler hlt)
          have hnk : 0 ≤ [x.ev.tick, x.ev.kind, x.ev.peer, x.ev.n, x.ev.copy, x.ev.handler].getD k 0 ∧ [x.ev.tick, x.ev.kind, x.ev.peer, x.ev.n, x.ev.copy, x.ev.handler].getD k 0 ≤ 2147483647 := by
            match k, hlt with
            | 0, _ => exact ⟨r1, by simp; omega⟩
            | 1, _ => exact ⟨by simp; omega, by simp; omega⟩
            | 2, _ => exact ⟨r5, by simp; omega⟩
            | 3, _ => exact ⟨r7, r8⟩
            | 4, _ => exact ⟨r9, by simp; omega⟩
            | 5, _ => exact ⟨r11, by simp; omega⟩
          have htk : (evNums x.ev).take (k + 1) = (evNums x.ev).take k ++ [[x.ev.tick, x.ev.kind, x.ev.peer, x.ev.n, x.ev.copy, x.ev.handler].getD k 0] := take_getD (evNums x.ev) (by simpa [evNums] using hlt)
          have Htk := Lib.hid htk
          clear htk
          generalize [x.ev.tick, x.ev.kind, x.ev.peer, x.ev.n, x.ev.copy, x.ev.handler].getD k 0 = nk at *
          have hn0 := hnk.1
          have hn1 := hnk.2
          have hlk := putU_ten (v := nk) (by omega)
          have hwk : IntKind.u64.wrap nk = nk := by rw [IntKind.wrap_u64]; omega
          have h3 : (0 : Int) ≤ (k : Int) := by omega
          have h4 : (k : Int) < 6 := by omega
          clear hnk
          go_wp2_with (go_at_call 51; refine ((rput_any w1.heap.size A2' c2' zs' nk wr hn0 (by omega) ho' hx'.size (by omega)).mono ?_); rintro e w10 ⟨A10, c10, rfl, ho10, hb10, hm10⟩)
          go_roundw
          case rel => exact ⟨k + 1, A10, c10, zs' ++ putU nk, by omega, by go_num, by simp, by simp [Hid, hz'.out, Htk.out], by simp; omega, hx'.trans hb10, ho10, (hm10.blk hB' (moved_ne ho' hB' (by decide))).1, (hm10.blk hE' (moved_ne ho' hE' (by decide))).1⟩
          case measure => simp [intOf]; omega
        · obtain rfl : k = 6 := by omega
          obtain ⟨w10, rfl⟩ : ∃ w10 : World, w10 = wr := ⟨_, rfl⟩
          have t7 : w10.cell? ⟨w6.heap.size, 7, none⟩ = some (.int .i64 x.ev.d) := hE'.cell 7
          have t8 : w10.cell? ⟨w6.heap.size, 8, none⟩ = some (.slice A x.ev.args.length c) := hE'.cell 8
          have hld := putI_ten hT.ev.d
          have hwl : IntKind.u64.wrap (x.ev.args.length : Int) = x.ev.args.length := by rw [IntKind.wrap_u64]; omega
          have hla := putU_ten (v := (x.ev.args.length : Int)) (by omega)
          clear hCE hB9 hE9
          have HE' := Lib.hid hE'
          clear hE'
          go_wp2_with fail
          have tk7 : True := trivial
          go_region_held3 (fun w' => w'.cell? ⟨w6.heap.size, 7, none⟩ = some (.int .i64 x.ev.d) ∧ w'.cell? ⟨w6.heap.size, 8, none⟩ = some (.slice A x.ev.args.length c)) (go_keep)
            (first
              | (have _t := tk7; go_at_call 53; refine (rputInt_any w1.heap.size A2' c2' zs' x.ev.d w10.drew hT.ev.d.1 hT.ev.d.2 (by exact ho') hx'.size (by omega)).mono ?_; intro e w11 h11; obtain ⟨zs11, A11, c11, hz11, rfl, ho11, hb11, hm11⟩ := h11.fresh; clear h11; have hx11 := hx'.trans (Below.trans (Below.refl _ _).drew hb11); have hl11 : zs11.length ≤ 270 := (by rw [hz11.out]; simp; omega); have HE11 := Lib.hid (hm11.blk (HE'.out.ext (Ext.refl _).drew) (moved_ne (show w10.drew.ownsRow w1.heap.size 5 1 (.slice A2' zs'.length c2') zs'.length (zs'.map (Value.int .u8)) from ho') (HE'.out.ext (Ext.refl _).drew) (by decide))).1; have p7 : w11.cell? ⟨w6.heap.size, 7, none⟩ = some (.int .i64 x.ev.d) := HE11.out.cell 7; have p8 : w11.cell? ⟨w6.heap.size, 8, none⟩ = some (.slice A x.ev.args.length c) := HE11.out.cell 8; clear tk7)
              | (go_at_call 51; refine (rput_any w1.heap.size A11 c11 zs11 x.ev.args.length w11 (by omega) (by omega) ho11 hx11.size (by omega)).mono ?_; intro e w12 h12; obtain ⟨zs12, A12, c12, hz12, rfl, ho12, hb12, hm12⟩ := h12.fresh; clear h12; have hx12 := hx11.trans hb12; have hl12 : zs12.length ≤ 280 := (by rw [hz12.out]; simp; omega); have HE12 := Lib.hid (hm12.blk HE11.out (moved_ne ho11 HE11.out (by decide))).1; have p9 : w12.cell? ⟨w6.heap.size, 7, none⟩ = some (.int .i64 x.ev.d) := HE12.out.cell 7; have p10 : w12.cell? ⟨w6.heap.size, 8, none⟩ = some (.slice A x.ev.args.length c) := HE12.out.cell 8))
          clear t7 t8 p7 p8
          have hat12 := hatA.ext hx12
          go_wp2_with fail
          go_loopw [3, 93] (fun p i wr => ∃ (k : Nat) (Ak : Option Addr) (ck : Nat) (zsk : List Int), k ≤ x.ev.args.length ∧ i = .int .i64 k ∧ p = .slice Ak zsk.length ck ∧ Hid (zsk = zs12 ++ (x.ev.args.take k).flatMap putI) ∧ zsk.length ≤ 280 + 10 * k ∧ Below w1.heap.size w1 wr ∧
              wr.ownsRow w1.heap.size 5 1 (.slice Ak zsk.length ck) zsk.length (zsk.map (Value.int .u8))) (fun _ i _ => x.ev.args.length - (intOf i).toNat)
          case atStart => exact ⟨0, A12, c12, zs12, by omega, rfl, rfl, by simp [Hid], by omega, hx12, ho12⟩
          case round =>
            obtain ⟨k, Ak, ck, zsk, hk3, rfl, rfl, hzk, hzlk, hxk, hok⟩ := hrel
            by_cases hlt : k < x.ev.args.length
            · obtain ⟨b1, o1, rfl, hc1⟩ := (hatA.ext hxk).cell (j := k) (v := .int .i64 x.ev.args[k]) (by simp [hlt])
              have hak : I64 x.ev.args[k] := hT.ev.args _ (List.getElem_mem hlt)
              have Htk := Lib.hid (List.take_succ_eq_append_getElem hlt)
              have hlk := putI_ten hak
              generalize x.ev.args[k] = y at *
              have h3 : (0 : Int) ≤ (k : Int) := by omega
              have h4 : (k : Int) < (x.ev.args.length : Int) := by omega
              go_wp2_with (go_at_call 53; refine ((rputInt_any w1.heap.size Ak ck zsk y wr hak.1 hak.2 hok hxk.size (by omega)).mono ?_); rintro e w13 ⟨A13, c13, rfl, ho13, hb13, hm13⟩)
              go_roundw
              case rel => exact ⟨k + 1, A13, c13, zsk ++ putI y, by omega, by go_num, by simp, by simp [Hid, hzk.out, Htk.out], by simp; omega, hxk.trans hb13, ho13⟩
              case measure => simp [intOf]; omega
            · obtain rfl : k = x.ev.args.length := by omega
              go_wp2_with fail
              go_ret
              refine RetInts.mk ?_ (own_mono hok (hx0.trans hx1).size) ((hx0.trans hx1).trans hxk)
              rw [hzk.out, hz12.out, hz11.out, hz'.out, hzr.out, hz3.out, hz2.out, Hbs.out]
              simp [evNums]
theorem refBytes_any (x : RR) (C : Option Addr) (cc : Nat) (A : Option Addr) (c : Nat) (w : World) (hR : RAt w x C cc A c) (hT : RRT x) :
    Calls Try.prog 25 #[.agg (rrA x C cc A c)] w (RetInts 5 .u8 w.heap.size (recBytes (toRe x)) w) := by
  cases hv : validB (toRe x)
  · exact refBytes_not x C cc A c w hR hT hv
  · rcases valid_what hv with h | h | h
    · exact refBytes_entry x C cc A c w hR hT hv h
    · exact refBytes_lost x C cc A c w hR hT hv h
    · exact refBytes_end x C cc A c w hR hT hv h
end Go.Proofs.Ytkadjbpmnpcfhaa

/-
  Walks of package vclock: Leq, Compare, length, Bytes.
-/
import Derived.Test.YtepkcbalmjnhpaaGreatNum
import Derived.RegionTactic
import Derived.ChangeKeysEq
set_option maxHeartbeats 400000
set_option linter.unusedVariables false
set_option linter.unusedSimpArgs false
namespace Go.Proofs.YtepkcbalmjnhpaaGreat
open Go.RowKit

theorem Leq_any (a b : Nat → Int) (w : World) :
    Calls Tryz.prog 124 #[.agg (clkA a), .agg (clkA b)] w fun e w' => e = .returned (.bool (leqTo a b 16)) ∧ Ext w w' := by
  have hsa := clkA_size a
  have hsb := clkA_size b
  go_enter Tryz.func124, Tryz.ntmps124
  go_wp2
  go_loopw [6] (fun i wr => ∃ k : Nat, k ≤ 16 ∧ i = .int .i64 k ∧ Hid (leqTo a b k = true) ∧ Ext w wr ∧ Blk wr w.heap.size 45 (clkA a) ∧ Blk wr (w.heap.size + 1) 45 (clkA b)) (fun i _ => 16 - (intOf i).toNat)
  case atStart => exact ⟨0, by omega, rfl, rfl, ((Ext.refl w).alloc _).alloc _, (Blk.new w _ _).ext ((Ext.refl _).alloc _), Blk.new2 w _ _ _ _⟩
  case round =>
    obtain ⟨k, hk, rfl, hl, hx, ha, hb⟩ := hrel
    by_cases hlt : k < 16
    · have h1 := (ha.cell k).trans (clkA_get a hlt)
      have h2 := (hb.cell k).trans (clkA_get b hlt)
      have h3 : (0 : Int) ≤ (k : Int) := by omega
      have h4 : (k : Int) < 16 := by omega
      by_cases hc : b k < a k
      · go_wp2
        go_quiet (fail)
        go_wp2
        go_ret
        exact ⟨ret_bool (leqTo_false hlt hc).symm, hx.drewN _⟩
      · go_wp2
        go_quiet (fail)
        go_wp2
        go_roundw
        case rel => exact ⟨k + 1, by omega, by go_num, by have := hl.out; simp [Hid, leqTo, this]; omega, hx.drewN _, ha.ext ((Ext.refl _).drewN _), hb.ext ((Ext.refl _).drewN _)⟩
        case measure => simp [intOf]; omega
    · obtain rfl : k = 16 := by omega
      go_wp2
      go_ret
      exact ⟨ret_bool hl.out.symm, hx⟩

theorem run_part_int {P : Program} {e : TypeId} {k : IntKind} (he : P.underlying e = some (.int k)) (xs : Array Value) (i : Nat) (v : Value) (hx : xs[i]? = some v) (w : World) :
    (part e xs i).run P w = .ok v w := by
  simp [part, isAgg, run_underlying he, hx]
theorem eqItems_ints {P : Program} (d : Nat) {e : TypeId} {k : IntKind} (he : P.underlying e = some (.int k)) (xs ys : Array Value) (a b : Nat → Int) (w : World) :
    ∀ is : List Nat, (∀ i ∈ is, xs[i]? = some (.int k (a i))) → (∀ i ∈ is, ys[i]? = some (.int k (b i))) → (Op.eqItems (d + 1) e 1 xs ys is).run P w = .ok (is.all fun i => a i == b i) w
  | [], _, _ => by simp [Op.eqItems]
  | i :: is, hx, hy => by
    have ih := eqItems_ints d he xs ys a b w is (fun j hj => hx j (by simp [hj])) (fun j hj => hy j (by simp [hj]))
    simp only [Op.eqItems, Sem.run_bind, Nat.mul_one, run_part_int he xs i _ (hx i (by simp)) w, run_part_int he ys i _ (hy i (by simp)) w, Result.andThen_ok, run_equalIn_int w d e k k _ _ he]
    cases h : (a i == b i)
    · simp [h]
    · simp [h, ih]
theorem sameTo_all (a b : Nat → Int) (n : Nat) : ((List.range n).all fun i => a i == b i) = sameTo a b n := by
  rw [Bool.eq_iff_iff, sameTo_iff]; simp
theorem clk_size : (Tryz.prog.info? 45).map (·.size) = some 16 := by kernel_rfl
theorem clk_fields : (Tryz.prog.fieldsOf 45).toList.map (fun f => (f.name, f.type, f.offset)) = [("at", 43, 0)] := by kernel_rfl
theorem one_field {fs : List Field} {n : String} {t o : Nat} (h : fs.map (fun f => (f.name, f.type, f.offset)) = [(n, t, o)]) : ∃ f, fs = [f] ∧ f.name = n ∧ f.type = t ∧ f.offset = o := by
  match fs, h with
  | [f], h => simp at h; exact ⟨f, rfl, h⟩
theorem clk_part (c : Nat → Int) (w : World) : (part 43 (clkA c) 0).run Tryz.prog w = .ok (.agg (clkA c)) w := by
  have hz : (Tryz.prog.info? 43).map (·.size) = some 16 := by kernel_rfl
  cases hq : Tryz.prog.info? 43 with
  | none => simp [hq] at hz
  | some i =>
    have hs : i.size = 16 := by simpa [hq] using hz
    have hx : (clkA c).extract 0 16 = clkA c := by
      have := Array.extract_size (xs := clkA c)
      rwa [clkA_size] at this
    simp [part, isAgg, run_underlying Tryz.underlying43, sizeOf, typeInfo, hq, hs, hx]
theorem eql_arr (d : Nat) (a b : Nat → Int) (w : World) : (Op.equalIn (d + 2) 43 (.agg (clkA a)) (.agg (clkA b))).run Tryz.prog w = .ok (sameTo a b 16) w := by
  have hc : Tryz.prog.cellsOf 42 = 1 := by kernel_rfl
  obtain ⟨i8, hi8⟩ : ∃ i, Tryz.prog.info? 42 = some i := Option.isSome_iff_exists.1 (by kernel_rfl)
  have hi := eqItems_ints (P := Tryz.prog) d Tryz.underlying42 (clkA a) (clkA b) a b w (List.range 16) (fun i hi => clkA_get a (by simpa using hi)) (fun i hi => clkA_get b (by simpa using hi))
  have harr := run_equalIn_array (P := Tryz.prog) w (d + 1) (clkA a) (clkA b) Tryz.underlying43 hi8
  rw [hc, hi] at harr
  rw [harr, sameTo_all]
theorem eql_clk3 (d : Nat) (a b : Nat → Int) (w : World) : (Op.equalIn (d + 3) 45 (.agg (clkA a)) (.agg (clkA b))).run Tryz.prog w = .ok (sameTo a b 16) w := by
  obtain ⟨f, hf, hn, ht, ho⟩ := one_field clk_fields
  rw [run_equalIn_struct w (d + 2) 45 _ _ (by kernel_rfl) (by kernel_rfl), hf]
  simp only [Op.eqFields, hn, ht, ho, Sem.run_bind, Sem.run_ite, clk_part, Result.andThen_ok, eql_arr]
  rw [if_pos (by decide)]
  cases h : sameTo a b 16 <;> simp
theorem eql_clk (a b : Nat → Int) (w : World) : (binOp .eql 45 (.agg (clkA a)) (.agg (clkA b))).run Tryz.prog w = .ok (.bool (sameTo a b 16)) w := by
  rw [run_eql_struct]
  have h3 := eql_clk3 9997 a b w
  simp only [Nat.reduceAdd] at h3
  rw [h3]; rfl
theorem Compare_any (a b : Nat → Int) (w : World) :
    Calls Tryz.prog 77 #[.agg (clkA a), .agg (clkA b)] w fun e w' => e = .returned (.int .u8 (cmpC a b)) ∧ Ext w w' := by
  have hsa := clkA_size a
  have hsb := clkA_size b
  have heq := eql_clk a b
  have hx2 : Ext w ((w.alloc (.cells (clkA a) 45)).alloc (.cells (clkA b) 45)) := ((Ext.refl w).alloc _).alloc _
  have hB1 : Blk ((w.alloc (.cells (clkA a) 45)).alloc (.cells (clkA b) 45)) w.heap.size 45 (clkA a) := (Blk.new w _ _).ext ((Ext.refl _).alloc _)
  have hB2 : Blk ((w.alloc (.cells (clkA a) 45)).alloc (.cells (clkA b) 45)) (w.heap.size + 1) 45 (clkA b) := Blk.new2 w _ _ _ _
  have hcm := Lib.hid (show cmpC a b = if sameTo a b 16 then 1 else if leqTo a b 16 then 2 else if leqTo b a 16 then 3 else 4 from rfl)
  have K1 := Lib.hid (Leq_any a b)
  have K2 := Lib.hid (Leq_any b a)
  generalize cmpC a b = cm at *
  generalize leqTo a b 16 = l1 at *
  generalize leqTo b a 16 = l2 at *
  cases hs : sameTo a b 16
  · rw [hs] at hcm heq
    go_enter Tryz.func77, Tryz.ntmps77
    go_wp2_with (first
      | (refine wpList_load_blk 45 (.tmp 2) (by rfl) (by rfl) w.heap.size 45 (clkA a) (by rfl) Tryz.underlying45 (by rfl) clk_size hB1 ?_)
      | (refine wpList_load_blk 45 (.tmp 3) (by rfl) (by rfl) (w.heap.size + 1) 45 (clkA b) (by rfl) Tryz.underlying45 (by rfl) clk_size hB2 ?_))
    refine (K1.out _).mono ?_
    rintro e w1 ⟨rfl, hx1⟩
    cases l1
    · go_wp2_with (first
        | (refine wpList_load_blk 45 (.tmp 2) (by rfl) (by rfl) w.heap.size 45 (clkA a) (by rfl) Tryz.underlying45 (by rfl) clk_size (hB1.ext hx1) ?_)
        | (refine wpList_load_blk 45 (.tmp 3) (by rfl) (by rfl) (w.heap.size + 1) 45 (clkA b) (by rfl) Tryz.underlying45 (by rfl) clk_size (hB2.ext hx1) ?_))
      refine (K2.out _).mono ?_
      rintro e w2 ⟨rfl, hx3⟩
      cases l2
      · go_wp2
        go_ret
        exact ⟨ret_int (by rw [hcm.out]; rfl), (hx2.trans hx1).trans hx3⟩
      · go_wp2
        go_ret
        exact ⟨ret_int (by rw [hcm.out]; rfl), (hx2.trans hx1).trans hx3⟩
    · go_wp2
      go_ret
      exact ⟨ret_int (by rw [hcm.out]; rfl), hx2.trans hx1⟩
  · rw [hs] at hcm heq
    go_enter Tryz.func77, Tryz.ntmps77
    go_wp2_with (first
      | (refine wpList_load_blk 45 (.tmp 2) (by rfl) (by rfl) w.heap.size 45 (clkA a) (by rfl) Tryz.underlying45 (by rfl) clk_size hB1 ?_)
      | (refine wpList_load_blk 45 (.tmp 3) (by rfl) (by rfl) (w.heap.size + 1) 45 (clkA b) (by rfl) Tryz.underlying45 (by rfl) clk_size hB2 ?_))
    go_ret
    exact ⟨ret_int (by rw [hcm.out]; rfl), hx2⟩

theorem length_any (c : Nat → Int) (w : World) :
    Calls Tryz.prog 150 #[.agg (clkA c)] w fun e w' => e = .returned (.int .i64 (clen c)) ∧ Ext w w' := by
  have hsa := clkA_size c
  go_enter Tryz.func150, Tryz.ntmps150
  go_wp2
  clear hsa
  go_loop [3, 5] (fun n i => ∃ k : Nat, k ≤ 16 ∧ i = .int .i64 k ∧ n = .int .i64 (clenTo c k)) (fun _ i => 16 - (intOf i).toNat)
  case atStart => exact ⟨0, by omega, rfl, rfl⟩
  case round =>
    obtain ⟨k, hk, rfl, rfl⟩ := hrel
    have hle := clenTo_le c k
    by_cases hlt : k < 16
    · have h1 := clkA_get c hlt
      by_cases hc : c k = 0
      · have hb : (c k != 0) = false := by simp [hc]
        have hn : Hid (clenTo c (k + 1) = clenTo c k) := by simp [Hid, clenTo, hc]
        go_wp2
        go_round
        case rel => exact ⟨k + 1, by omega, by go_num, by rw [hn.out]⟩
        case measure => simp [intOf]; omega
      · have hb : (c k != 0) = true := by simp [hc]
        have hn : Hid (clenTo c (k + 1) = k + 1) := by simp [Hid, clenTo, hc]
        go_wp2
        go_round
        case rel => exact ⟨k + 1, by omega, by go_num, by rw [hn.out]; go_num⟩
        case measure => simp [intOf]; omega
    · obtain rfl : k = 16 := by omega
      go_wp2
      go_ret
      exact ⟨rfl, (Ext.refl w).alloc _⟩

theorem ClkBytes_any (c : Nat → Int) (A : Option Addr) (cap : Nat) (xs : List Int) (w : World) (hc : ∀ i, U64 (c i))
    (hat : At w A (xs.map (Value.int .u8))) (hn : xs.length ≤ 1000000000) :
    Calls Tryz.prog 111 #[.agg (clkA c), .slice A xs.length cap] w (RetInts 5 .u8 w.heap.size (xs ++ clkBytes c) w) := by
  have hsa := clkA_size c
  have hle := clen_le c
  have hB : Blk (w.alloc (.cells (clkA c) 45)) w.heap.size 45 (clkA c) := Blk.new w _ _
  have hx0 : Ext w (w.alloc (.cells (clkA c) 45)) := (Ext.refl w).alloc _
  have hmod : (clen c : Int) % 256 = clen c := by omega
  go_enter Tryz.func111, Tryz.ntmps111
  go_wp2_with (first
    | (refine wpList_load_blk 45 (.tmp 2) (by rfl) (by rfl) w.heap.size 45 (clkA c) (by rfl) Tryz.underlying45 (by rfl) clk_size hB ?_)
    | (go_at_call 150; refine (length_any c _).mono ?_; rintro e w1 ⟨rfl, hx1⟩)
    | (at_builtin; refine wpList_app _ (.const (.slice none 0 0)) (.tmp 10) elU8 (by rfl) (by rfl) w1.heap.size _ 0 [] (by rfl) (own_nil _ _ _ _) A xs.length cap (xs.map (Value.int .u8)) (by rfl) ?_ ((hat.ext hx0).ext hx1) (ints_one _ _) ?_ ?_ ?_ ?_; simp; omega; omega; (exact Nat.le_refl _); intro A2 c2 w2 ho2 hb2 hg2 hl2)
    | (at_builtin; refine wpList_app1 _ (.tmp 11) (.tmp 14) elU8 (by rfl) (by rfl) w1.heap.size (.slice A2 (0 + xs.length) c2) _ _ (by simp; rfl) ho2 _ (by rfl) (by rfl) ⟨?_, ?_, ?_⟩ ?_; omega; omega; (exact hb2.size); intro A3 c3 w3 ho3 hb3 hg3 hw3))
  have hx13 : Ext w1 w3 := hb2.trans hb3
  have hx01 := hx0.trans hx1
  go_loopw [6, 17] (fun q i wr => ∃ (k : Nat) (A' : Option Addr) (c' : Nat) (zs : List Int), k ≤ clen c ∧ i = .int .i64 k ∧ q = .slice A' zs.length c' ∧ Hid (zs = xs ++ (clen c : Int) :: entB c k) ∧ Ext w1 wr ∧
      wr.ownsRow w1.heap.size 5 1 (.slice A' zs.length c') zs.length (zs.map (Value.int .u8))) (fun _ i _ => clen c - (intOf i).toNat)
  case atStart => exact ⟨0, A3, c3, xs ++ [(clen c : Int)], by omega, rfl, by simp, rfl, hx13, by simpa using ho3⟩
  case round =>
    obtain ⟨k, A', c', zs, hk, rfl, rfl, hz, hx, ho⟩ := hrel
    have hle2 := entB_len hc k
    have hzl : zs.length ≤ 1000000200 := by rw [hz.out]; simp; omega
    by_cases hlt : k < clen c
    · have h1 := (((hB.ext hx1).ext hx).cell k).trans (clkA_get c (k := k) (by omega))
      have h3 : (0 : Int) ≤ (k : Int) := by omega
      have h4 : (k : Int) < 16 := by omega
      go_wp2_with (go_at_call 82; refine ((PutUint_any A' c' zs (c k) wr (hc k).1 (hc k).2 (At.of_own ho) (by omega)).mono ?_); rintro e w4 ⟨A4, c4, rfl, ho4, hb4⟩)
      go_roundw
      case rel => exact ⟨k + 1, A4, c4, zs ++ putU (c k), by omega, by go_num, by simp, by simp [Hid, hz.out, entB_succ], hx.trans hb4, own_mono ho4 hx.size⟩
      case measure => simp [intOf]; omega
    · obtain rfl : k = clen c := by omega
      go_wp2
      go_ret
      have hzz : xs ++ clkBytes c = zs := by rw [hz.out, clkBytes_eq]
      refine ⟨A', c', ret_slice (by rw [hzz]), ?_, hx01.trans hx⟩
      rw [hzz]; exact own_mono ho hx01.size
end Go.Proofs.YtepkcbalmjnhpaaGreat

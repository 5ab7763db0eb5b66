/-
  From a row's premises to typed data: general lemmas.
-/
import Derived.Test.YtepkcbalmjnhpaaGreatRun
import Derived.Test.YtepkcbalmjnhpaaGreatOpen
import Derived.Test.YtepkcbalmjnhpaaGreatEngT
import Derived.Deep.Slices
set_option maxHeartbeats 1000000
set_option maxRecDepth 100000
set_option linter.unusedVariables false
set_option linter.unusedSimpArgs false
namespace Go.Proofs.YtepkcbalmjnhpaaGreat
open Go.ChangeShapes Go.WideShapes Go.ChangeAt Go.RowKit
theorem wf_in {k : IntKind} {n : Int} (h : (Lit.int k n).wf = true) : InR k n := by
  cases k <;> simpa [Lit.wf, IntKind.min, IntKind.max, IntKind.signed, IntKind.bits, InR] using h
theorem RsL.join {F : FMap} {γ : Gam} {ds es : List DV} {cs : List Value} {off n : Nat} (hn : off + n ≤ cs.length) (h1 : RsL F γ ds ((cs.drop off).take n)) (h2 : RsL F γ es (cs.drop (off + n))) : RsL F γ (ds ++ es) (cs.drop off) := by
  have : cs.drop off = (cs.drop off).take n ++ cs.drop (off + n) := by
    rw [← List.drop_drop, List.take_append_drop]
  rw [this]; exact h1.append h2
theorem RsL.done {F : FMap} {γ : Gam} {cs : List Value} {n : Nat} (h : cs.length = n) : RsL F γ [] (cs.drop n) := by
  simp only [RsL]; rw [← h, List.drop_length]
theorem rs_one {F : FMap} {γ : Gam} {d : DV} {v : Value} (h : RsL F γ [d] [v]) : Rs F γ d v := by
  simp only [RsL] at h
  obtain ⟨u, rest, h1, _, h2, _⟩ := h
  injection h1 with h1 _; subst h1; exact h2
theorem rs_cells {F : FMap} {γ : Gam} {ds : List DV} {cs : Array Value} (h : RsL F γ ds cs.toList) : Rs F γ (.agg ds) (.agg cs) := by
  simp only [Rs]; exact ⟨cs, rfl, h⟩
section
variable {H : Type} {enc : TypeId × Value → H} {P : Program} {w : World} {fuel : Nat}
theorem op_int {t : TypeId} {k : IntKind} {cs : List Value} {y : DataW H × List MemPlace} (ht : P.underlying t = some (.int k)) (h : DataW.trod enc P w 0 (fun _ => true) true fuel t cs = some y) : ∃ x : Int, RsL (allF w) Gam.no [.int k x] cs ∧ InR k x := by
  obtain ⟨n, rfl, _, hw⟩ := DataW.trod_int ht h
  exact ⟨n, RsL.single (by simp only [Rs]) rfl, wf_in hw⟩
theorem op_bool {t : TypeId} {cs : List Value} {y : DataW H × List MemPlace} (ht : P.underlying t = some .bool) (h : DataW.trod enc P w 0 (fun _ => true) true fuel t cs = some y) : ∃ x : Bool, RsL (allF w) Gam.no [.bool x] cs ∧ True := by
  obtain ⟨n, rfl, _⟩ := DataW.trod_bool ht h
  exact ⟨n, RsL.single (by simp only [Rs]) rfl, trivial⟩
theorem op_string {t : TypeId} {cs : List Value} {y : DataW H × List MemPlace} (ht : P.underlying t = some .string) (h : DataW.trod enc P w 0 (fun _ => true) true fuel t cs = some y) : ∃ x : ByteArray, RsL (allF w) Gam.no [.str x] cs ∧ x.size ≤ 9223372036854775807 := by
  obtain ⟨n, rfl, _, hs⟩ := DataW.trod_string ht h
  exact ⟨n, RsL.single (by simp only [Rs]) rfl, hs⟩
/-- where a slice's elements lie -/
theorem spot_at {a : Addr} {n : Nat} {cs : List Value} (h : w.cells? 0 a n = some cs) (hn : 0 < n) : a.spot = none := by
  obtain ⟨_, h1, h2⟩ := World.cells?_some h
  have h0 := h2 0 hn
  obtain ⟨v0, hv0⟩ : ∃ v, cs[0]? = some v := ⟨_, List.getElem?_eq_getElem (by omega)⟩
  rw [hv0, Addr.add_zero'] at h0
  unfold World.cell? at h0
  split at h0
  · cases hs : a.spot with
    | none => rfl
    | some s => simp [hs] at h0
  · cases h0
theorem cells_at {b o n i : Nat} {cs : List Value} (h : w.cells? 0 (Addr.add ⟨b, o, none⟩ i) n = some cs) (hn : 0 < n) :
    ∃ blk t fz, w.heap[b]? = some (.cells blk t fz) ∧ (blk.toList.drop (o + i)).take n = cs := by
  rw [Addr.add_mid] at h
  obtain ⟨_, h1, h2⟩ := World.cells?_some h
  have key : ∀ j, j < n → ∃ blk t fz, w.heap[b]? = some (.cells blk t fz) ∧ blk[o + i + j]? = cs[j]? := by
    intro j hj
    have h0 := h2 j hj
    obtain ⟨v0, hv0⟩ : ∃ v, cs[j]? = some v := ⟨_, List.getElem?_eq_getElem (by omega)⟩
    rw [hv0, Addr.add_mid] at h0
    unfold World.cell? at h0
    split at h0
    · rename_i c t fz hc
      simp at h0
      exact ⟨c, t, fz, hc, by rw [hv0]; exact h0⟩
    · cases h0
  obtain ⟨blk, t, fz, hb, _⟩ := key 0 hn
  refine ⟨blk, t, fz, hb, ?_⟩
  apply List.ext_getElem?
  intro j
  rw [List.getElem?_take, List.getElem?_drop]
  by_cases hj : j < n
  · obtain ⟨blk2, t2, fz2, q1, q2⟩ := key j hj
    rw [hb] at q1; injection q1 with q1; injection q1 with q1 _ _; subst q1
    rw [if_pos hj, ← q2]; simp
  · rw [if_neg hj, List.getElem?_eq_none (by omega)]
theorem op_slice {t e : TypeId} {sz : Nat} {cs : List Value} {y : DataW H × List MemPlace} {α : Type} {dv : α → DV} {ok : α → Prop} (ht : P.underlying t = some (.slice e)) (hc : P.cellsOf e = sz) (hz : 0 < sz) (hf : ∀ x, (dv x).flat = true)
    (hop : ∀ (fuel : Nat) (cs : List Value) (y : DataW H × List MemPlace), DataW.trod enc P w 0 (fun _ => true) true fuel e cs = some y → ∃ x, RsL (allF w) Gam.no (dv x).cs cs ∧ ok x)
    (h : DataW.trod enc P w 0 (fun _ => true) true fuel t cs = some y) : ∃ xs : List α, RsL (allF w) Gam.no [.sl sz (xs.map dv)] cs ∧ (xs.length ≤ 9223372036854775807 ∧ ∀ x ∈ xs, ok x) := by
  rcases Go.Deep.open_slice ht h with ⟨rfl, _⟩ | ⟨a, len, cap, m, n, D, Pl, rfl, hb, hl, hm, hmm, _, hel⟩
  · refine ⟨[], RsL.single ?_ rfl, by simp, by simp⟩
    simp only [Rs]
    exact ⟨none, 0, rfl, ⟨fun _ => ⟨rfl, rfl⟩, Nat.le_refl _, by decide⟩, fun h => absurd rfl h⟩
  · rw [if_pos rfl] at hmm
    rw [hc] at hel
    have hml : maxLen = 9223372036854775807 := rfl
    rcases Nat.eq_zero_or_pos len with h0 | hlen
    · subst h0
      refine ⟨[], RsL.single ?_ rfl, by simp, by simp⟩
      simp only [Rs]
      exact ⟨some a, cap, rfl, ⟨(fun h => by cases h), Nat.zero_le _, by omega⟩, fun h => absurd rfl h⟩
    obtain ⟨b, o, sp⟩ := a
    have hsp : sp = none := by
      obtain ⟨cs', c1, _⟩ := hel 0 (by omega)
      rw [Nat.zero_mul, Addr.add_zero'] at c1
      exact spot_at c1 hz
    subst hsp
    have main : ∀ k, k ≤ len → ∃ xs : List α, xs.length = k ∧ (∀ x ∈ xs, ok x) ∧ ∃ vs : List Value, RsE (allF w) sz (xs.map dv) vs ∧ (0 < k → ∃ blk t fz, w.heap[b]? = some (.cells blk t fz) ∧ (blk.toList.drop o).take (k * sz) = vs) := by
      intro k
      induction k with
      | zero => intro _; exact ⟨[], rfl, by simp, [], by simp [RsE], fun h => absurd h (by omega)⟩
      | succ k ih =>
        intro hk
        obtain ⟨xs, h1, h2, vs, h3, h4⟩ := ih (by omega)
        obtain ⟨cs', c1, c2⟩ := hel k (by omega)
        obtain ⟨x, r1, r2⟩ := hop n cs' _ c2
        obtain ⟨v, v1, v2⟩ := Rs_of_cs (hf x) r1
        obtain ⟨blk, t', fz, b1, b3⟩ := cells_at c1 hz
        have hsz : v.cells.size = sz := by
          have := (World.cells?_some c1).2.1
          rw [← Array.length_toList, v1]; exact this
        have hE : RsE (allF w) sz [dv x] v.cells.toList := RsE.single hsz (by rw [v1]; exact r1.one) v2
        refine ⟨xs ++ [x], by simp [h1], fun y hy => ?_, vs ++ v.cells.toList, ?_, fun _ => ⟨blk, t', fz, b1, ?_⟩⟩
        · rcases List.mem_append.1 hy with hy | hy
          · exact h2 y hy
          · rw [List.mem_singleton] at hy; subst hy; exact r2
        · rw [List.map_append]; exact h3.append hE
        · rw [Nat.succ_mul, List.take_add, v1]
          congr 1
          · by_cases hk0 : 0 < k
            · obtain ⟨blk2, t2, fz2, q1, q3⟩ := h4 hk0
              rw [b1] at q1; injection q1 with q1; injection q1 with q1 _ _; subst q1; exact q3
            · have : k = 0 := by omega
              subst this
              have := h3.len
              simp only [List.length_map, h1, Nat.zero_mul] at this
              rw [List.eq_nil_of_length_eq_zero this]; simp
          · rw [List.drop_drop, b3]
    obtain ⟨xs, h1, h2, vs, h3, h4⟩ := main len (Nat.le_refl _)
    refine ⟨xs, RsL.single ?_ rfl, by omega, h2⟩
    simp only [Rs]
    refine ⟨some ⟨b, o, none⟩, cap, by simp [h1], ⟨(fun h => by cases h), by simp [h1]; omega, by omega⟩, fun hne => ?_⟩
    obtain ⟨blk, t', fz, b1, b3⟩ := h4 hlen
    exact ⟨b, o, blk, vs, (blk.toList.drop o).drop (len * sz), rfl, by simp [allF, b1], by rw [← b3, List.take_append_drop], h3⟩
end
end Go.Proofs.YtepkcbalmjnhpaaGreat

/-
  From a contract of the engine to a row's statement: the world's blocks are data.
-/
import Derived.Test.YtkadjbpmnpcfhaaOpenR
import Derived.Test.YtkadjbpmnpcfhaaBrB
set_option maxHeartbeats 1000000
set_option maxRecDepth 100000
set_option linter.unusedVariables false
set_option linter.unusedSimpArgs false
namespace Go.Proofs.Ytkadjbpmnpcfhaa
open Go.ChangeShapes Go.WideShapes Go.ChangeAt Go.RowKit
def allF (w : World) : FMap := fun b => match w.heap[b]? with
  | some (.cells cs _ _) => some cs
  | _ => none
theorem allF_sat (w : World) : FSat (allF w) w := by
  intro b cs h
  unfold allF at h
  split at h
  · rename_i c t fz hb; injection h with h; subst h; exact ⟨t, fz, hb⟩
  · cases h
theorem law_run {P : Program} {f : FuncId} {args : List DV} {vs : List Value} {W : World} (h : PCall P f args (.bool true)) (hv : RsT (allF W) Gam.no args vs) : Calls P f vs.toArray W (fun e W' => e = .returned (.bool true) ∧ Ext W W') := by
  have H : WS ⟨W, fun _ => False, allF W, 0, Gam.no⟩ (allF W) Gam.no [] [] W := {
    ent := fun id e h => by simp [hget, look] at h
    own := fun id e g b h => by simp [hget, look] at h
    apart := fun id id' e e' g g' b h => by simp [hget, look] at h
    fs := allF_sat W
    f0 := FLe.refl _
    fnew := fun b cs h => .inl h
    os := rfl, tape := rfl, output := rfl
    size := Nat.le_refl _
    keep := fun _ _ _ => rfl
    us := fun id g h => by cases h
    gone := GOne.no
    g0 := GLe.refl _
    gk := fun id g h => by cases h }
  refine (h _ (allF W) Gam.no [] [] W vs H hv).mono ?_
  rintro e w' ⟨v, F', rfl, _, K, hr⟩
  simp only [Rs] at hr
  exact ⟨by rw [hr], ⟨K.os, K.tape, K.output, K.size, fun k hk => K.keep k hk (fun h => h)⟩⟩
theorem rs_at {W : World} {k : IntKind} {xs : List Int} {A : Option Addr} {c : Nat} (hat : At W A (xs.map (Value.int k))) (h1 : xs.length ≤ c) (h2 : c ≤ 9223372036854775807) (h3 : A = none → c = 0) : Rs (allF W) Gam.no (.sl 1 (xs.map (.int k))) (.slice A xs.length c) := by
  simp only [Rs, List.length_map]
  refine ⟨A, c, rfl, ⟨fun h => ⟨by have := h3 h; omega, h3 h⟩, h1, h2⟩, fun hne => ?_⟩
  have hne' : xs.map (Value.int k) ≠ [] := by intro h; apply hne; simpa using h
  obtain ⟨b, o, rfl, hr⟩ := hat.elim hne'
  have hlt := rangeAt.lt hr hne'
  have hcell : ∀ j v, (xs.map (Value.int k))[j]? = some v → ∃ cs t fz, W.heap[b]? = some (.cells cs t fz) ∧ cs[o + j]? = some v := by
    intro j v hv
    have := hr j v hv
    unfold World.cell? at this
    split at this
    · rename_i cs t fz hb; simp at this; exact ⟨cs, t, fz, hb, this⟩
    · cases this
  obtain ⟨x, rest, hx⟩ := List.exists_cons_of_ne_nil hne'
  obtain ⟨cs, t, fz, hb, _⟩ := hcell 0 x (by rw [hx]; rfl)
  refine ⟨b, o, cs, xs.map (Value.int k), (cs.toList.drop o).drop xs.length, rfl, by simp [allF, hb], ?_, ?_⟩
  · have : (cs.toList.drop o).take xs.length = xs.map (Value.int k) := by
      apply List.ext_getElem?
      intro j
      rw [List.getElem?_take, List.getElem?_drop]
      by_cases hj : j < xs.length
      · rw [if_pos hj]
        obtain ⟨v, hv⟩ : ∃ v, (xs.map (Value.int k))[j]? = some v := ⟨_, List.getElem?_eq_getElem (by simpa using hj)⟩
        obtain ⟨cs', t', fz', hb', hc'⟩ := hcell j v hv
        rw [hb] at hb'; injection hb' with hb'; injection hb' with hb' _ _; subst hb'
        rw [hv]; simpa using hc'
      · rw [if_neg hj, List.getElem?_eq_none (by simpa using hj)]
    rw [← this, List.take_append_drop]
  · have hE : ∀ (l : List Int), RsE (allF W) 1 (l.map (DV.int k)) (l.map (Value.int k)) := by
      intro l
      induction l with
      | nil => simp [RsE]
      | cons x l ih =>
        simp only [List.map_cons, RsE]
        exact ⟨.int k x, l.map (Value.int k), by simp [Value.cells], rfl, by simp [Value.cells, Value.oneCell'], by simp only [Rs], ih⟩
    exact hE xs
theorem rs_rrA {W : World} {x : RR} {C A : Option Addr} {cc c : Nat} (h : RAt0 W x C cc A c) : Rs (allF W) Gam.no (.agg (rrD x)) (.agg (rrA x C cc A c)) := by
  have h1 := rs_at h.clock h.ccl.1 h.ccl.2 h.cn
  have h2 := rs_at h.args h.acl.1 h.acl.2 h.an
  simp only [Rs]
  refine ⟨_, rfl, RsL.of_get rfl (fun i d hd => ?_)⟩
  have hlt : i < 14 := (List.getElem?_eq_some_iff.1 hd).1
  have : ∀ i, i < 14 → ∀ d, (rrD x)[i]? = some d → ∃ v, (rrA x C cc A c).toList[i]? = some v ∧ v.oneCell' = true ∧ Rs (allF W) Gam.no d v := by
    intro i hi d hd
    match i, hi with
    | 0, _ => injection hd with hd; subst hd; exact ⟨_, rfl, rfl, by simp only [Rs]⟩
    | 1, _ => injection hd with hd; subst hd; exact ⟨_, rfl, rfl, by simp only [Rs]⟩
    | 2, _ => injection hd with hd; subst hd; exact ⟨_, rfl, rfl, by simp only [Rs]⟩
    | 3, _ => injection hd with hd; subst hd; exact ⟨_, rfl, rfl, by simp only [Rs]⟩
    | 4, _ => injection hd with hd; subst hd; exact ⟨_, rfl, rfl, h1⟩
    | 5, _ => injection hd with hd; subst hd; exact ⟨_, rfl, rfl, by simp only [Rs]⟩
    | 6, _ => injection hd with hd; subst hd; exact ⟨_, rfl, rfl, by simp only [Rs]⟩
    | 7, _ => injection hd with hd; subst hd; exact ⟨_, rfl, rfl, by simp only [Rs]⟩
    | 8, _ => injection hd with hd; subst hd; exact ⟨_, rfl, rfl, by simp only [Rs]⟩
    | 9, _ => injection hd with hd; subst hd; exact ⟨_, rfl, rfl, by simp only [Rs]⟩
    | 10, _ => injection hd with hd; subst hd; exact ⟨_, rfl, rfl, by simp only [Rs]⟩
    | 11, _ => injection hd with hd; subst hd; exact ⟨_, rfl, rfl, by simp only [Rs]⟩
    | 12, _ => injection hd with hd; subst hd; exact ⟨_, rfl, rfl, by simp only [Rs]⟩
    | 13, _ => injection hd with hd; subst hd; exact ⟨_, rfl, rfl, h2⟩
    | i + 14, h => exact absurd h (by omega)
  exact this i hlt d hd
end Go.Proofs.Ytkadjbpmnpcfhaa

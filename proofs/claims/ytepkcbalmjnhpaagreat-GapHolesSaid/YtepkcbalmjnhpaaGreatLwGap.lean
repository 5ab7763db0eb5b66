/-
  The law GapHoles, in plain words.
-/
import Derived.Test.YtepkcbalmjnhpaaGreatHGp
import Derived.Test.YtepkcbalmjnhpaaGreatPlM
set_option maxRecDepth 100000
set_option maxHeartbeats 1000000
set_option linter.unusedVariables false
set_option linter.unusedSimpArgs false
namespace Go.Proofs.YtepkcbalmjnhpaaGreat
open Go.RowKit
theorem awake32 : rootcauselaw32_awake = some true := by kernel_rfl
def cutG (g : gap_Gap) : gap_Gap := ⟨g.gComponent, g.gFirst, g.gCount, g.gOpen, if (-1099511627776) > g.gFrom then (-1099511627776) else g.gFrom, g.gTo⟩
def toldG (g : gap_Gap) : rootcauseref32_Gap := ⟨g.gComponent, g.gFirst, g.gCount, g.gOpen, g.gFrom, g.gTo⟩
theorem idx_at {α : Type} {xs : List α} {k : Nat} (h : k < xs.length) : idx xs (k : Int) = some xs[k] := by
  simp [idx, h]
theorem fold_cut (xs : List gap_Gap) (h : xs.length ≤ 12) : foldM' 9223372036854775807 (List.length xs : Int) (fun k s => rootcauselaw32_GapHoles_L23 k s) xs = some (xs.map cutG) := by
  have := foldM_spec (mx := 9223372036854775807) (n := (List.length xs : Int)) (body := fun k s => rootcauselaw32_GapHoles_L23 k s) (s0 := xs) xs.length (fun j => (xs.take j).map cutG ++ xs.drop j) (by simp) rfl (by omega) (fun j hj => ?_)
  · simpa using this
  · have hl : ((xs.take j).map cutG).length = j := by simp; omega
    have hi : idx ((xs.take j).map cutG ++ xs.drop j) (j : Int) = some xs[j] := by
      unfold idx
      rw [if_pos (by omega), Int.toNat_natCast, List.getElem?_append_right (by omega), hl, Nat.sub_self, List.getElem?_drop, Nat.add_zero, List.getElem?_eq_getElem hj]
    unfold rootcauselaw32_GapHoles_L23
    rw [hi]
    simp only [Option.bind_some, Int.toNat_natCast]
    congr 1
    rw [List.set_append_right _ _ (by omega), hl, Nat.sub_self]
    rw [List.take_succ_eq_append_getElem hj, List.map_append, List.append_assoc]
    congr 1
    rw [List.drop_eq_getElem_cons hj]
    rfl
theorem told_eq (xs : List gap_Gap) (h : xs.length ≤ 12) : rootcauselaw32_told xs = some (xs.map toldG) := by
  unfold rootcauselaw32_told
  have := foldM_spec (mx := 9223372036854775807) (n := (List.length xs : Int)) (body := fun k s => rootcauselaw32_told_L5 xs k s) (s0 := ([] : List rootcauseref32_Gap)) xs.length (fun j => (xs.take j).map toldG) (by simp) rfl (by omega) (fun j hj => ?_)
  · rw [this]; simp [rootcauselaw32_told_K2]
  · unfold rootcauselaw32_told_L5
    rw [idx_at hj]
    simp only [Option.bind_some]
    rw [chk_pos (by simp [apOk]; omega)]
    congr 1
    rw [List.take_succ_eq_append_getElem hj, List.map_append]
    rfl
def holesB (xs : List gap_Gap) (c t : Int) : Bool := xs.any fun v => ((v.gComponent == c) && (decide (v.gFrom ≤ t))) && (decide (t ≤ v.gTo))
theorem holes_eq (xs : List gap_Gap) (c t : Int) (h : xs.length ≤ 12) : gap_Holes xs c t = some (holesB xs c t) := by
  unfold gap_Holes
  have key : ∃ r, forM' (E := Bool) 9223372036854775807 (List.length xs : Int) (fun k s => gap_Holes_L3 xs c t k) () = some r ∧ (match r with | .next _ => holesB xs c t = false | .done b => b = true ∧ holesB xs c t = true) := by
    refine forM_ind (S := Unit) (E := Bool) (mx := 9223372036854775807) (n := (List.length xs : Int)) (fun k _ => holesB (xs.take k) c t = false) (fun r => match r with | .next _ => holesB xs c t = false | .done b => b = true ∧ holesB xs c t = true) (by omega) (by omega) (by simp [holesB]) (fun k s hk hI => ?_) (fun s hI => by simpa using hI)
    have hk' : k < xs.length := by omega
    unfold gap_Holes_L3
    rw [idx_at hk']
    simp only [Option.bind_some]
    split
    · rename_i hc
      refine .inr ⟨true, rfl, rfl, ?_⟩
      unfold holesB
      rw [List.any_eq_true]
      exact ⟨xs[k], List.getElem_mem hk', hc⟩
    · rename_i hc
      refine .inl ⟨(), rfl, ?_⟩
      unfold holesB at hI ⊢
      rw [List.take_succ_eq_append_getElem hk', List.any_append, hI]
      simpa using hc
  obtain ⟨r, h1, h2⟩ := key
  rw [h1]
  cases r with
  | next s => simp only [Option.bind_some]; rw [h2]; rfl
  | done b => obtain ⟨rfl, h2⟩ := h2; simp only [Option.bind_some]; rw [h2]
theorem refHoles_eq (xs : List gap_Gap) (c t : Int) (h : xs.length ≤ 12) : rootcauseref32_Holes (xs.map toldG) c t = some (holesB xs c t) := by
  rw [← holes_eq xs c t h]
  unfold rootcauseref32_Holes gap_Holes
  rw [List.length_map]
  have : (fun (k : Nat) (s : Unit) => rootcauseref32_Holes_L3 (xs.map toldG) c t k) = fun k s => gap_Holes_L3 xs c t k := by
    funext k s
    unfold rootcauseref32_Holes_L3 gap_Holes_L3
    have : idx (xs.map toldG) (k : Int) = (idx xs (k : Int)).map toldG := by unfold idx; split <;> simp
    rw [this]
    cases idx xs (k : Int) <;> rfl
  rw [this]
  rfl
theorem until_eq (xs : List gap_Gap) (c t : Int) (h : xs.length ≤ 12) (hb : ∀ g ∈ xs, -1099511627776 ≤ g.gFrom ∧ g.gFrom ≤ 9223372036854775807) : gap_Until xs c t = rootcauseref32_Until (xs.map toldG) c t := by
  unfold rootcauseref32_Until gap_Until
  rw [List.length_map]
  have : (fun (k : Nat) (s : Int) => rootcauseref32_Until_L5 (xs.map toldG) c k s) = fun k s => gap_Until_L5 xs c k s := by
    funext k s
    unfold rootcauseref32_Until_L5 gap_Until_L5
    have : idx (xs.map toldG) (k : Int) = (idx xs (k : Int)).map toldG := by unfold idx; split <;> simp
    rw [this]
    cases hi : idx xs (k : Int) with
    | none => rfl
    | some g =>
      have hm : g ∈ xs := by
        unfold idx at hi
        split at hi
        · exact List.mem_of_getElem? hi
        · cases hi
      have hg := hb g hm
      have hw : IntKind.wrap .i64 (g.gFrom - 1) = g.gFrom - 1 := wrap_in (by simp only [InR]; omega)
      simp only [Option.map_some, Option.bind_some, toldG, hw]
      by_cases h1 : g.gComponent = c
      · have h2 : ¬ g.gFrom = -9223372036854775808 := by omega
        by_cases h3 : g.gFrom ≤ s
        · have h4 : g.gFrom - 1 < s := by omega
          simp [h1, h2, h3, h4]
        · have h4 : ¬ g.gFrom - 1 < s := by omega
          simp [h1, h2, h3, h4]
      · simp [h1]
  rw [this]
  have : rootcauseref32_Until_K2 = gap_Until_K2 := by funext s; rfl
  rw [this]
theorem until_some (xs : List gap_Gap) (c t : Int) (h : xs.length ≤ 12) : ∃ r, gap_Until xs c t = some r := by
  unfold gap_Until
  have hs : ∀ (f : Nat → Int → Int), (∀ k s, k < xs.length → gap_Until_L5 xs c k s = some (f k s)) → ∃ r, foldM' 9223372036854775807 (List.length xs : Int) (fun k s => gap_Until_L5 xs c k s) t = some r := by
    intro f hf
    refine ⟨_, foldM_spec (s0 := t) xs.length (fun j => Nat.rec t (fun k s => f k s) j) rfl rfl (by omega) (fun j hj => hf j _ hj)⟩
  obtain ⟨r, hr⟩ := hs (fun k s => (gap_Until_L5 xs c k s).getD 0) (fun k s hk => by
    unfold gap_Until_L5
    rw [idx_at hk]
    simp only [Option.bind_some]
    split <;> rfl)
  exact ⟨r, by rw [hr]; rfl⟩
theorem gapHoles_law (x0 : List gap_Gap) (x1 : api_Event) (x2 : Int) (h : ∀ g ∈ x0, InR .i64 g.gFrom) : rootcauselaw32_GapHoles x0 x1 x2 = some true := by
  unfold rootcauselaw32_GapHoles
  rw [awake32]
  simp only [Option.bind_some, Bool.not_true, Bool.false_eq_true, if_false]
  have hn : ((if 12 < (List.length x0 : Int) then 12 else (List.length x0 : Int)) : Int).toNat ≤ 12 := by split <;> omega
  rw [chk_pos (by unfold slOk; split <;> omega)]
  generalize hk : ((if 12 < (List.length x0 : Int) then 12 else (List.length x0 : Int)) : Int).toNat = n at hn ⊢
  have hl : (x0.take n).length ≤ 12 := by simp; omega
  have hc : slices_Clone_gap_Gap_gap_Gap (x0.take n) = some (x0.take n) := by
    unfold slices_Clone_gap_Gap_gap_Gap
    rw [chk_pos (by simp only [apOk, List.length_nil, Nat.zero_add]; omega)]
    rfl
  have hm : ∀ g ∈ x0.take n, InR .i64 g.gFrom := fun g hg => h g (List.mem_of_mem_take hg)
  rw [hc]
  generalize x0.take n = xs at hl hm
  simp only [Option.bind_some]
  rw [fold_cut xs hl]
  simp only [Option.bind_some]
  have hl2 : (xs.map cutG).length ≤ 12 := by simpa using hl
  have hb : ∀ g ∈ xs.map cutG, -1099511627776 ≤ g.gFrom ∧ g.gFrom ≤ 9223372036854775807 := by
    intro g hg
    obtain ⟨g0, h0, rfl⟩ := List.mem_map.1 hg
    have := hm g0 h0
    simp only [InR] at this
    simp only [cutG]
    split <;> omega
  generalize xs.map cutG = ys at hl2 hb
  unfold rootcauselaw32_GapHoles_K8
  rw [told_eq ys hl2]
  simp only [Option.bind_some]
  rw [refHoles_eq ys _ _ hl2, holes_eq ys _ _ hl2]
  simp only [Option.bind_some, beq_self_eq_true, gb]
  unfold gap_Could
  rw [holes_eq ys _ _ hl2]
  simp only [Option.bind_some, beq_self_eq_true, Bool.and_self, if_true]
  rw [← until_eq ys _ _ hl2 hb]
  obtain ⟨r, hr⟩ := until_some ys x1.gComponent x2 hl2
  rw [hr]
  simp
end Go.Proofs.YtepkcbalmjnhpaaGreat

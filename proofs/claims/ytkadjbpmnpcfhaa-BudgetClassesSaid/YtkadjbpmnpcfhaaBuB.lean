/-
  Plain laws of the budget: the records of the laws, the examples, and every law.
-/
import Derived.Test.YtkadjbpmnpcfhaaBuA
import Derived.Test.YtkadjbpmnpcfhaaPlG
set_option maxRecDepth 100000
set_option maxHeartbeats 2000000
set_option linter.unusedVariables false
set_option linter.unusedSimpArgs false
namespace Go.Proofs.Ytkadjbpmnpcfhaa
def mkItem (r : record_Record) : rootcauseref27_Item := ⟨rcls r, rsz r⟩
def zck : vclock_Clock := vclock_Clock.mk (arr 0 [0, 0, 0, 0, 0, 0, 0, 0, 0, 0, 0, 0, 0, 0, 0, 0])
structure RawT (x : rootcauselaw27_Raw) : Prop where
  what : 0 ≤ x.gWhat ∧ x.gWhat ≤ 255
  kind : 0 ≤ x.gKind ∧ x.gKind ≤ 255
  tick : 0 ≤ x.gTick ∧ x.gTick ≤ 255
  args : ∀ v ∈ x.gArgs, -9223372036854775808 ≤ v ∧ v ≤ 9223372036854775807
theorem fit_of {r : record_Record} (h : reFits r = true) (hv : validB (reOf r) = true) : RFit r := by
  have hT := reFits_T h
  have h1 := recBytes_small hT.1
  have h2 := recBytes_ne hv
  have h3 : 0 < (recBytes (reOf r)).length := List.length_pos_iff.2 h2
  exact ⟨h, by unfold rsz; omega, by unfold rsz; omega⟩
theorem zck_fits : ckFits zck = true := by decide
theorem zck_same (x : record_Record) (h : x.gClock = zck) : sameTo (reOf x).clk clk0 16 = true := by
  rw [sameTo_iff]
  intro i hi
  simp only [reOf, h, zck, clk0, arr]
  have : i = 0 ∨ i = 1 ∨ i = 2 ∨ i = 3 ∨ i = 4 ∨ i = 5 ∨ i = 6 ∨ i = 7 ∨ i = 8 ∨ i = 9 ∨ i = 10 ∨ i = 11 ∨ i = 12 ∨ i = 13 ∨ i = 14 ∨ i = 15 := by omega
  rcases this with rfl | rfl | rfl | rfl | rfl | rfl | rfl | rfl | rfl | rfl | rfl | rfl | rfl | rfl | rfl | rfl <;> rfl
def zev : api_Event := api_Event.mk 0 0 0 0 0 0 0 0 []
def rEntry (s t k c d : Int) (l : List Int) : record_Record := record_Record.mk 1 s zck 1 (api_Event.mk t 1 k 0 0 c 0 d l) 0
def rLost (s n : Int) : record_Record := record_Record.mk 1 s zck 2 zev n
def rEnd (s : Int) : record_Record := record_Record.mk 1 s zck 3 zev 0
theorem fit_entry {s t k c d : Int} {l : List Int} (hs : 0 ≤ s ∧ s ≤ 1000) (ht : 0 ≤ t ∧ t ≤ 200) (hk : 1 ≤ k ∧ k ≤ 11) (hc : 0 ≤ c ∧ c ≤ 1) (hd : 0 ≤ d ∧ d ≤ 255) (hl : l.length ≤ 4) (ha : ∀ v ∈ l, -9223372036854775808 ≤ v ∧ v ≤ 9223372036854775807) : RFit (rEntry s t k c d l) := by
  refine fit_of ?_ ?_
  · simp only [reFits, evFits, rEntry, zck_fits, Bool.and_eq_true, okI_iff, InR, List.all_eq_true, decide_eq_true_eq]
    refine ⟨⟨⟨⟨⟨?_, ?_⟩, ?_⟩, ?_⟩, ⟨⟨⟨⟨⟨⟨⟨⟨⟨?_, ?_⟩, ?_⟩, ?_⟩, ?_⟩, ?_⟩, ?_⟩, ?_⟩, ?_⟩, ?_⟩⟩, ?_⟩ <;> first | trivial | omega | (exact decide_eq_true (by omega)) | (intro v hv; exact ha v hv)
  · unfold validB okWhat
    rw [if_pos (show (reOf (rEntry s t k c d l)).what = 1 from rfl)]
    simp only [reOf, evOf, rEntry, evOk, inB, Bool.and_eq_true, decide_eq_true_eq, beq_iff_eq]
    and_intros <;> first | trivial | rfl | omega | (exact decide_eq_true (by omega)) | (exact decide_eq_true (by and_intros <;> omega))
theorem fit_lost {s n : Int} (hs : 0 ≤ s ∧ s ≤ 1000) (hn : 1 ≤ n ∧ n ≤ 1000) : RFit (rLost s n) := by
  refine fit_of ?_ ?_
  · simp only [reFits, evFits, rLost, zev, zck_fits, Bool.and_eq_true, okI_iff, InR, List.all_eq_true, decide_eq_true_eq]
    refine ⟨⟨⟨⟨⟨?_, ?_⟩, ?_⟩, ?_⟩, ⟨⟨⟨⟨⟨⟨⟨⟨⟨?_, ?_⟩, ?_⟩, ?_⟩, ?_⟩, ?_⟩, ?_⟩, ?_⟩, ?_⟩, ?_⟩⟩, ?_⟩ <;> first | trivial | omega | (intro v hv; cases hv) | simp
  · have hz := zck_same (rLost s n) rfl
    unfold validB okWhat
    rw [if_neg (show ¬ (reOf (rLost s n)).what = 1 from (by decide : ¬ (2 : Int) = 1)), if_pos (show (reOf (rLost s n)).what = 2 from rfl)]
    simp only [bareB, hz, inB, evEq, Bool.and_eq_true, decide_eq_true_eq, beq_iff_eq]
    simp only [reOf, evOf, rLost, zev, ev0]
    and_intros <;> first | trivial | rfl | omega | (exact decide_eq_true (by omega)) | (exact decide_eq_true (by and_intros <;> omega))
theorem fit_end {s : Int} (hs : 0 ≤ s ∧ s ≤ 1000) : RFit (rEnd s) := by
  refine fit_of ?_ ?_
  · simp only [reFits, evFits, rEnd, zev, zck_fits, Bool.and_eq_true, okI_iff, InR, List.all_eq_true, decide_eq_true_eq]
    refine ⟨⟨⟨⟨⟨?_, ?_⟩, ?_⟩, ?_⟩, ⟨⟨⟨⟨⟨⟨⟨⟨⟨?_, ?_⟩, ?_⟩, ?_⟩, ?_⟩, ?_⟩, ?_⟩, ?_⟩, ?_⟩, ?_⟩⟩, ?_⟩ <;> first | trivial | omega | (intro v hv; cases hv) | simp
  · have hz := zck_same (rEnd s) rfl
    unfold validB okWhat
    rw [if_neg (show ¬ (reOf (rEnd s)).what = 1 from (by decide : ¬ (3 : Int) = 1)), if_neg (show ¬ (reOf (rEnd s)).what = 2 from (by decide : ¬ (3 : Int) = 2)), if_pos (show (reOf (rEnd s)).what = 3 from rfl)]
    simp only [bareB, hz, inB, evEq, Bool.and_eq_true, decide_eq_true_eq, beq_iff_eq]
    simp only [reOf, evOf, rEnd, zev, ev0]
    and_intros <;> first | trivial | rfl | omega | (exact decide_eq_true (by omega)) | (exact decide_eq_true (by and_intros <;> omega))
theorem K24_eq {k : Nat} {rs : List record_Record} {its : List rootcauseref27_Item} (hk : k < 40) (h1 : rs.length = k) (h2 : its.length = k) (w t c kd cp d : Int) (l : List Int) (n : Int)
    (hf : RFit (record_Record.mk 1 (k : Int) zck w (api_Event.mk t c kd 0 0 cp 0 d l) n)) :
    rootcauselaw27_records_K24 k rs its w t c kd cp d l n = some (.next (rs ++ [record_Record.mk 1 (k : Int) zck w (api_Event.mk t c kd 0 0 cp 0 d l) n], its ++ [mkItem (record_Record.mk 1 (k : Int) zck w (api_Event.mk t c kd 0 0 cp 0 d l) n)])) := by
  unfold rootcauselaw27_records_K24
  rw [wrap_u64 (by omega) (by omega), chk_pos (by simp [apOk]; omega)]
  have hz := size_eq hf
  rw [zck] at hz
  rw [hz, Option.bind_some]
  unfold rootcauselaw27_records_K29 rootcauselaw27_records_K12 mkItem
  rw [rof_eq, Option.bind_some, wrap_u64 (by omega) (by omega)]
  by_cases hw : w = 1
  · subst hw
    rw [if_pos (by decide), chk_pos (by simp [apOk]; omega)]
    simp [rcls, zck]
  · rw [if_neg (by simp [hw]), chk_pos (by simp [apOk]; omega)]
    simp [rcls, zck, hw]
structure RecsOk (p : List record_Record × List rootcauseref27_Item) : Prop where
  len : p.1.length ≤ 40
  fit : ∀ r ∈ p.1, RFit r
  its : p.2 = p.1.map mkItem
theorem recs_eq {x : List rootcauselaw27_Raw} (hx : ∀ r ∈ x, RawT r) (hl : x.length ≤ 9223372036854775807) : ∃ p, rootcauselaw27_records x = some p ∧ RecsOk p := by
  unfold rootcauselaw27_records
  obtain ⟨t, h1, h2⟩ := forM_ind (mx := 9223372036854775807) (n := (x.length : Int)) (body := fun k4 s => rootcauselaw27_records_L7 x k4 s.1 s.2) (s0 := (([] : List record_Record), ([] : List rootcauseref27_Item)))
    (fun k s => k ≤ 40 ∧ s.1.length = k ∧ RecsOk s) (fun t => match t with | .next s => RecsOk s | .done e => RecsOk e) (by omega) (by omega) ⟨by omega, rfl, ⟨by simp, by simp, rfl⟩⟩ (by
    rintro k ⟨rs, its⟩ hk ⟨hk4, hlen, hok⟩
    obtain ⟨r, hr⟩ : ∃ r, x[k]? = some r := ⟨_, List.getElem?_eq_getElem (by omega)⟩
    have hT := hx r (List.mem_of_getElem? hr)
    simp only [rootcauselaw27_records_L7]
    rw [idx_some hr, Option.bind_some]
    by_cases h40 : k = 40
    · right
      subst h40
      exact ⟨_, rfl, hok⟩
    · left
      have e40 : (((k : Nat) : Int) == 40) = false := by simp; omega
      rw [e40, if_neg (by decide), chk_pos ⟨hT.what.1, by decide⟩]
      have hil : its.length = k := by have := hok.its; simp only at this hlen; rw [this, List.length_map, hlen]
      have fin : ∀ rec : record_Record, RFit rec → ((k + 1 ≤ 40) ∧ (rs ++ [rec]).length = k + 1 ∧ RecsOk (rs ++ [rec], its ++ [mkItem rec])) := fun rec hf => by
        refine ⟨by omega, by simp at hlen ⊢; exact hlen, ⟨by simp at hlen ⊢; omega, fun r hr => ?_, ?_⟩⟩
        · rcases List.mem_append.1 hr with h | h
          · exact hok.fit r h
          · rw [List.mem_singleton] at h; subst h; exact hf
        · have := hok.its; simp only at this ⊢; rw [this, List.map_append]; rfl
      simp only at hlen
      by_cases h10 : r.gWhat % 12 = 10
      · rw [if_pos (by rw [h10]; rfl)]
        have ht : IntKind.wrap .u64 (1 + IntKind.wrap .u64 r.gTick) = 1 + r.gTick := by
          have := hT.tick
          rw [wrap_u64 (n := r.gTick) (by omega) (by omega), wrap_u64 (by omega) (by omega)]
        have hf := fit_lost (s := (k : Int)) (n := 1 + r.gTick) (by omega) (by have := hT.tick; omega)
        rw [ht]
        exact ⟨_, K24_eq (by omega) hlen hil 2 0 0 0 0 0 [] (1 + r.gTick) hf, fin _ hf⟩
      · rw [if_neg (by rw [beq_iff_eq]; exact h10)]
        by_cases h11 : r.gWhat % 12 = 11
        · rw [if_pos (by rw [h11]; rfl)]
          have hf := fit_end (s := (k : Int)) (by omega)
          exact ⟨_, K24_eq (by omega) hlen hil 3 0 0 0 0 0 [] 0 hf, fin _ hf⟩
        · rw [if_neg (by rw [beq_iff_eq]; exact h11)]
          have hti := hT.tick
          have hki := hT.kind
          rw [wrap_i64 (n := r.gTick) (by omega) (by omega), chk_pos ⟨by omega, by decide⟩, chk_pos ⟨by omega, by decide⟩]
          have main : ∀ cp : Int, (0 ≤ cp ∧ cp ≤ 1) → ∃ s', rootcauselaw27_records_K40 k rs its r cp = some (.next s') ∧ (k + 1 ≤ 40 ∧ s'.1.length = k + 1 ∧ RecsOk s') := by
            intro cp hcp
            unfold rootcauselaw27_records_K40
            have hlen4 : (if 4 < (List.length r.gArgs : Int) then 4 else (List.length r.gArgs : Int)) = ((min 4 r.gArgs.length : Nat) : Int) := by split <;> omega
            rw [hlen4, Int.toNat_natCast, chk_pos (by unfold slOk; omega), chk_pos (by simp [apOk]; omega), wrap_i64 (n := r.gTick) (by omega) (by omega), wrap_i64 (n := r.gKind) (by omega) (by omega), wrap_u8 (by omega) (by omega)]
            have hf := fit_entry (s := (k : Int)) (t := r.gTick % 201) (k := 1 + r.gKind % 11) (c := cp) (d := r.gKind) (l := r.gArgs.take (min 4 r.gArgs.length)) (by omega) (by omega) (by omega) hcp (by omega) (by simp; omega) (fun v hv => hT.args v (List.mem_of_mem_take hv))
            exact ⟨_, K24_eq (by omega) hlen hil 1 (r.gTick % 201) 1 (1 + r.gKind % 11) cp r.gKind _ 0 hf, fin _ hf⟩
          split
          · exact main 1 (by omega)
          · exact main 0 (by omega)) (fun s hs => hs.2.2)
  rw [h1, Option.bind_some]
  cases t with
  | next s => exact ⟨_, rfl, h2⟩
  | done e => exact ⟨_, rfl, h2⟩
def reqR : record_Record := record_Record.mk 0 0 zck 1 (api_Event.mk 0 0 4 0 0 0 0 0 []) 0
def msgR : record_Record := record_Record.mk 0 2 zck 1 (api_Event.mk 0 0 5 0 0 0 0 0 []) 0
theorem req_size : rsz reqR = 12 := by
  have h0 : putU 0 = [0] := putU_small (by omega)
  have h4 : putU 4 = [4] := putU_small (by omega)
  have hv : validB (reOf reqR) = true := by rfl
  unfold rsz recBytes
  rw [if_pos hv]
  have h1 : recHead (reOf reqR) = 1 :: (putU 0 ++ putU 0) := rfl
  have h2 : recTail (reOf reqR) = [0] ++ (putU 0 ++ (putU 4 ++ (putU 0 ++ (putU 0 ++ (putU 0 ++ (putU 0 ++ []))))) ++ putU 0 ++ putU 0 ++ []) := rfl
  rw [h1, h2, h0, h4]; rfl
theorem msg_size : rsz msgR = 12 := by
  have h0 : putU 0 = [0] := putU_small (by omega)
  have h2' : putU 2 = [2] := putU_small (by omega)
  have h5 : putU 5 = [5] := putU_small (by omega)
  have hv : validB (reOf msgR) = true := by rfl
  unfold rsz recBytes
  rw [if_pos hv]
  have h1 : recHead (reOf msgR) = 1 :: (putU 0 ++ putU 2) := rfl
  have h2 : recTail (reOf msgR) = [0] ++ (putU 0 ++ (putU 5 ++ (putU 0 ++ (putU 0 ++ (putU 0 ++ (putU 0 ++ []))))) ++ putU 0 ++ putU 0 ++ []) := rfl
  rw [h1, h2, h0, h2', h5]; rfl
theorem req_fit : RFit reqR := ⟨by rfl, by rw [req_size]; decide, by rw [req_size]; decide⟩
theorem msg_fit : RFit msgR := ⟨by rfl, by rw [msg_size]; decide, by rw [msg_size]; decide⟩
def exCf : Nat → Int := fun i => if i = 1 then 2 else if i = 0 ∨ i = 2 then 1 else 0
def exSf : Nat → Int := fun i => if i < 3 then 12 else 0
theorem ex_cf : cfOf [reqR, msgR, reqR] = exCf := by
  funext i
  match i with
  | 0 => rfl
  | 1 => rfl
  | 2 => rfl
  | i + 3 => rfl
theorem ex_sf : sfOf [reqR, msgR, reqR] = exSf := by
  funext i
  match i with
  | 0 => exact req_size
  | 1 => exact msg_size
  | 2 => exact req_size
  | i + 3 =>
    have : ¬ i + 3 < 3 := by omega
    simp [sfOf, exSf, this]
theorem ex_plan : (keepL exCf 3 (planM exCf exSf 3 25).1, (planM exCf exSf 3 25).2) = ([true, false, true], 24) := by decide
theorem awake27 : rootcauselaw27_awake = some true := by
  have hp : budget_Plan [reqR, msgR, reqR] 25 = some ([true, false, true], 24) := by
    rw [plan_eq (rs := [reqR, msgR, reqR]) (by
      intro r hr
      simp only [List.mem_cons, List.not_mem_nil, or_false] at hr
      rcases hr with rfl | rfl | rfl
      · exact req_fit
      · exact msg_fit
      · exact req_fit) (by decide) (by decide), ex_cf, ex_sf]
    exact congrArg some ex_plan
  have hz : record_Size reqR = some 12 := by rw [size_eq req_fit, req_size]
  have hs : budget_Spread 10 4 = some [0, 2, 5, 7] := by rw [spread_eq _ _ (by decide)]; decide
  unfold rootcauselaw27_awake
  rw [hs, Option.bind_some]
  change (record_Size reqR).bind _ = _
  rw [hz, Option.bind_some]
  change (budget_Plan [reqR, msgR, reqR] (IntKind.wrap .i64 (IntKind.wrap .i64 (2 * 12) + 1))).bind _ = _
  rw [show IntKind.wrap .i64 (IntKind.wrap .i64 (2 * 12) + 1) = 25 by decide, hp, Option.bind_some]
  decide
theorem classes_law (e : api_Event) : rootcauselaw27_BudgetClasses e = some true := by
  unfold rootcauselaw27_BudgetClasses
  have := ofc_range e
  rw [awake27, Option.bind_some]
  simp only [gb, if_true, of_eq, rof_eq, Option.bind_some]
  rw [wrap_i64 (by omega) (by omega)]
  simp
theorem spreads_law (n m : Int) (hn : -32768 ≤ n ∧ n ≤ 32767) : rootcauselaw27_BudgetSpreads n m = some true := by
  unfold rootcauselaw27_BudgetSpreads
  rw [awake27, Option.bind_some, wrap_i64 (by omega) (by omega), spread_eq _ _ (by omega), Option.bind_some, rspread_eq _ _ (by omega) (by omega), Option.bind_some]
  generalize hl : spr n.toNat (min n.toNat m.toNat) = l
  have hlen : l.length ≤ 32767 := by rw [← hl, spr_len]; omega
  have e : ((List.length l : Int) != (List.length l : Int)) = false := by simp
  rw [if_neg (by decide), e, if_neg (by decide)]
  rw [forM_next (E := Bool) (body := fun k10 s => rootcauselaw27_BudgetSpreads_L11 l l k10) l.length (fun _ => ()) rfl rfl (by omega) (fun j hj => ?_)]
  · rfl
  · obtain ⟨x, hx⟩ : ∃ x, l[j]? = some x := ⟨_, List.getElem?_eq_getElem hj⟩
    simp only [rootcauselaw27_BudgetSpreads_L11]
    rw [idx_some hx, Option.bind_some, Option.bind_some]
    simp
/-! the allotment -/
section
variable {cf sf : Nat → Int} {N : Nat}
def csum (cf sf : Nat → Int) (N : Nat) (m : Int → Nat) : List Int → Int
  | [] => 0
  | c :: cs => ssum (szN cf sf N c) (m c) + csum cf sf N m cs
theorem allo_other : ∀ (cs : List Int) (m : Int → Nat) (u l : Int) (c : Int), c ∉ cs → (allo cf sf N cs m u l).1 c = m c
  | [], m, u, l, c, _ => rfl
  | d :: cs, m, u, l, c, h => by
    simp only [List.mem_cons, not_or] at h
    have hu : updm m d (pick (szN cf sf N d) l) c = m c := by unfold updm; rw [if_neg h.1]
    unfold allo
    split
    · exact hu
    · rw [allo_other cs _ _ _ c h.2]; exact hu
theorem allo_head {cs : List Int} {m : Int → Nat} {u l : Int} {d : Int} (h : d ∉ cs) : (allo cf sf N (d :: cs) m u l).1 d = pick (szN cf sf N d) l := by
  have hu : updm m d (pick (szN cf sf N d) l) d = pick (szN cf sf N d) l := by unfold updm; rw [if_pos rfl]
  unfold allo
  split
  · exact hu
  · rw [allo_other cs _ _ _ d h]; exact hu
theorem allo_le : ∀ (cs : List Int) (m : Int → Nat) (u l : Int), cs.Nodup → (∀ c ∈ cs, m c = 0) → ∀ c ∈ cs, (allo cf sf N cs m u l).1 c ≤ (posN cf N c).length
  | [], m, u, l, _, _, c, h => by cases h
  | d :: cs, m, u, l, hn, hm, c, h => by
    rw [List.nodup_cons] at hn
    by_cases hc : c = d
    · subst hc; rw [allo_head hn.1, ← szN_len cf sf N c]; exact pick_le _ _
    · have hcs : c ∈ cs := by simpa [hc] using h
      have hmm : ∀ x ∈ cs, updm m d (pick (szN cf sf N d) l) x = 0 := fun x hx => by
        unfold updm
        rw [if_neg (fun e : x = d => hn.1 (e ▸ hx))]; exact hm x (List.mem_cons_of_mem _ hx)
      unfold allo
      split
      · simp only [hmm c hcs]; omega
      · exact allo_le cs _ _ _ hn.2 hmm c hcs
theorem csum_congr {m m' : Int → Nat} : ∀ (cs : List Int), (∀ c ∈ cs, m c = m' c) → csum cf sf N m cs = csum cf sf N m' cs
  | [], _ => rfl
  | c :: cs, h => by
    unfold csum
    rw [h c (List.mem_cons_self ..), csum_congr cs fun x hx => h x (List.mem_cons_of_mem _ hx)]
theorem ssum_zero (ss : List Int) : ssum ss 0 = 0 := rfl
theorem csum_zero : ∀ (cs : List Int) (m : Int → Nat), (∀ c ∈ cs, m c = 0) → csum cf sf N m cs = 0
  | [], _, _ => rfl
  | c :: cs, m, h => by
    unfold csum
    rw [h c (List.mem_cons_self ..), ssum_zero, csum_zero cs m fun x hx => h x (List.mem_cons_of_mem _ hx)]; rfl
theorem allo_sum : ∀ (cs : List Int) (m : Int → Nat) (u l : Int), cs.Nodup → (∀ c ∈ cs, m c = 0) → 0 ≤ l → (allo cf sf N cs m u l).2 = u + csum cf sf N (allo cf sf N cs m u l).1 cs ∧ csum cf sf N (allo cf sf N cs m u l).1 cs ≤ l
  | [], m, u, l, _, _, h0 => by simp [allo, csum]; exact h0
  | d :: cs, m, u, l, hn, hm, h0 => by
    rw [List.nodup_cons] at hn
    have hf := pick_fits (szN cf sf N d) h0
    have hmm : ∀ x ∈ cs, updm m d (pick (szN cf sf N d) l) x = 0 := fun x hx => by
      unfold updm
      rw [if_neg (fun e : x = d => hn.1 (e ▸ hx))]; exact hm x (List.mem_cons_of_mem _ hx)
    have hd := allo_head (cf := cf) (sf := sf) (N := N) (m := m) (u := u) (l := l) hn.1
    unfold csum
    rw [hd]
    unfold allo
    split
    · simp only []
      rw [csum_zero cs _ hmm]
      omega
    · have ih := allo_sum cs (updm m d (pick (szN cf sf N d) l)) (u + ssum (szN cf sf N d) (pick (szN cf sf N d) l)) (l - ssum (szN cf sf N d) (pick (szN cf sf N d) l)) hn.2 hmm (by omega)
      omega
theorem allo_first : ∀ (cs : List Int) (m : Int → Nat) (u l : Int), cs.Nodup → (∀ c ∈ cs, m c = 0) → ∀ (pre : List Int) (c1 c2 : Int) (post : List Int), cs = pre ++ c1 :: post → c2 ∈ post → 0 < (allo cf sf N cs m u l).1 c2 → (allo cf sf N cs m u l).1 c1 = (posN cf N c1).length
  | [], m, u, l, _, _, pre, c1, c2, post, h, _, _ => by simp at h
  | d :: cs, m, u, l, hn, hm, pre, c1, c2, post, h, h2, hp => by
    have hn' := hn
    rw [List.nodup_cons] at hn
    have hmm : ∀ x ∈ cs, updm m d (pick (szN cf sf N d) l) x = 0 := fun x hx => by
      unfold updm
      rw [if_neg (fun e : x = d => hn.1 (e ▸ hx))]; exact hm x (List.mem_cons_of_mem _ hx)
    have hle : pick (szN cf sf N d) l ≤ (posN cf N d).length := by rw [← szN_len cf sf N d]; exact pick_le _ _
    cases pre with
    | nil =>
      simp only [List.nil_append, List.cons.injEq] at h
      obtain ⟨rfl, rfl⟩ := h
      rw [allo_head hn.1]
      by_cases hc : pick (szN cf sf N d) l < (posN cf N d).length
      · unfold allo at hp
        rw [if_pos hc] at hp
        simp only [hmm c2 h2] at hp
        omega
      · omega
    | cons e pre =>
      simp only [List.cons_append, List.cons.injEq] at h
      obtain ⟨rfl, rfl⟩ := h
      have h2' : c2 ∈ pre ++ c1 :: post := by simp [h2]
      unfold allo at hp ⊢
      split
      · rename_i hc
        rw [if_pos hc] at hp
        simp only [hmm c2 h2'] at hp
        omega
      · rename_i hc
        rw [if_neg hc] at hp
        exact allo_first (pre ++ c1 :: post) _ _ _ hn.2 hmm pre c1 c2 post rfl h2 hp
theorem ssum_full (hs : ∀ i, i < N → 1 ≤ sf i ∧ sf i ≤ 400) {c : Int} {l : Int} (h : ¬ pick (szN cf sf N c) l < (posN cf N c).length) : pick (szN cf sf N c) l = (posN cf N c).length := by
  have := pick_le (szN cf sf N c) l
  rw [szN_len] at this
  omega
theorem allo_mono (hs : ∀ i, i < N → 1 ≤ sf i ∧ sf i ≤ 400) : ∀ (cs : List Int) (m : Int → Nat) (u l u' l' : Int), cs.Nodup → (∀ c ∈ cs, m c = 0) → 0 ≤ l → l ≤ l' → ∀ c ∈ cs, (allo cf sf N cs m u l).1 c ≤ (allo cf sf N cs m u' l').1 c
  | [], m, u, l, u', l', _, _, _, _, c, h => by cases h
  | d :: cs, m, u, l, u', l', hn, hm, h0, hl, c, h => by
    rw [List.nodup_cons] at hn
    by_cases hc : c = d
    · subst hc
      rw [allo_head hn.1, allo_head hn.1]
      exact pick_mono _ h0 hl
    · have hcs : c ∈ cs := by simpa [hc] using h
      have hmm : ∀ v, ∀ x ∈ cs, updm m d v x = 0 := fun v x hx => by
        unfold updm
        rw [if_neg (fun e : x = d => hn.1 (e ▸ hx))]; exact hm x (List.mem_cons_of_mem _ hx)
      have hle := pick_le (szN cf sf N d) l'
      have hmo := pick_mono (szN cf sf N d) h0 hl
      rw [szN_len] at hle
      unfold allo
      by_cases h1 : pick (szN cf sf N d) l < (posN cf N d).length
      · rw [if_pos h1]
        simp only [hmm _ c hcs]
        omega
      · have h2 : ¬ pick (szN cf sf N d) l' < (posN cf N d).length := by omega
        rw [if_neg h1, if_neg h2]
        have e : pick (szN cf sf N d) l = pick (szN cf sf N d) l' := by omega
        have hf := pick_fits (szN cf sf N d) h0
        rw [← e]
        exact allo_mono hs cs _ _ _ _ _ hn.2 (hmm _) (by omega) (by omega) c hcs
theorem allo_none (hs : ∀ i, i < N → 1 ≤ sf i ∧ sf i ≤ 400) : ∀ (cs : List Int) (m : Int → Nat) (u : Int), cs.Nodup → (∀ c ∈ cs, m c = 0) → ∀ c ∈ cs, (allo cf sf N cs m u 0).1 c = 0
  | [], m, u, _, _, c, h => by cases h
  | d :: cs, m, u, hn, hm, c, h => by
    rw [List.nodup_cons] at hn
    have hz : pick (szN cf sf N d) 0 = 0 := pick_zero (szN_szs hs d)
    by_cases hc : c = d
    · subst hc
      rw [allo_head hn.1, hz]
    · have hcs : c ∈ cs := by simpa [hc] using h
      have hmm : ∀ v, ∀ x ∈ cs, updm m d v x = 0 := fun v x hx => by
        unfold updm
        rw [if_neg (fun e : x = d => hn.1 (e ▸ hx))]; exact hm x (List.mem_cons_of_mem _ hx)
      unfold allo
      split
      · exact hmm _ c hcs
      · rw [hz, ssum_zero, Int.sub_zero]
        exact allo_none hs cs _ _ hn.2 (hmm _) c hcs
def fulls (cf sf : Nat → Int) (N : Nat) : List Int → Int
  | [] => 0
  | c :: cs => ssum (szN cf sf N c) (posN cf N c).length + fulls cf sf N cs
theorem fulls_nonneg (hs : ∀ i, i < N → 1 ≤ sf i ∧ sf i ≤ 400) : ∀ cs, 0 ≤ fulls cf sf N cs
  | [] => Int.le_refl _
  | c :: cs => by
    have := fulls_nonneg hs cs
    have h := (ssum_range (szN_szs (cf := cf) hs c) (m := (posN cf N c).length) (by rw [szN_len]; omega)).1
    unfold fulls; omega
theorem allo_all (hs : ∀ i, i < N → 1 ≤ sf i ∧ sf i ≤ 400) : ∀ (cs : List Int) (m : Int → Nat) (u l : Int), cs.Nodup → (∀ c ∈ cs, m c = 0) → fulls cf sf N cs ≤ l → (∀ c ∈ cs, (allo cf sf N cs m u l).1 c = (posN cf N c).length) ∧ (allo cf sf N cs m u l).2 = u + fulls cf sf N cs
  | [], m, u, l, _, _, _ => ⟨fun c h => (by cases h), by simp [allo, fulls]⟩
  | d :: cs, m, u, l, hn, hm, hl => by
    rw [List.nodup_cons] at hn
    have hnn := fulls_nonneg (cf := cf) hs cs
    unfold fulls at hl ⊢
    have hmax := pick_max (szN cf sf N d) (left := l) (j := (posN cf N d).length) (by rw [szN_len]; omega) (by omega)
    have hp : pick (szN cf sf N d) l = (posN cf N d).length := by
      have := pick_le (szN cf sf N d) l
      rw [szN_len] at this; omega
    have hmm : ∀ v, ∀ x ∈ cs, updm m d v x = 0 := fun v x hx => by
      unfold updm
      rw [if_neg (fun e : x = d => hn.1 (e ▸ hx))]; exact hm x (List.mem_cons_of_mem _ hx)
    have ih := allo_all hs cs (updm m d (posN cf N d).length) (u + ssum (szN cf sf N d) (posN cf N d).length) (l - ssum (szN cf sf N d) (posN cf N d).length) hn.2 (hmm _) (by omega)
    have e : allo cf sf N (d :: cs) m u l = allo cf sf N cs (updm m d (posN cf N d).length) (u + ssum (szN cf sf N d) (posN cf N d).length) (l - ssum (szN cf sf N d) (posN cf N d).length) := by
      rw [allo, hp, if_neg (by omega)]
    refine ⟨fun c hc => ?_, ?_⟩
    · by_cases hcd : c = d
      · subst hcd; rw [allo_head hn.1, hp]
      · rw [e]; exact ih.1 c (by simpa [hcd] using hc)
    · rw [e, ih.2]; omega
end
/-! evenly spread numbers again -/
theorem sp_zero (n m : Nat) : sp n m 0 = 0 := by simp [sp]
theorem sp_end {n m : Nat} (h : 0 < m) : sp n m m = n := by unfold sp; rw [Nat.mul_comm, Nat.mul_div_cancel _ h]
theorem sp_full {n i : Nat} (h : i < n) : sp n n i = i := by unfold sp; exact Nat.mul_div_cancel _ (by omega)
theorem sp_step {n m i : Nat} (h : 0 < m) : sp n m i + n / m ≤ sp n m (i + 1) ∧ sp n m (i + 1) ≤ sp n m i + n / m + 1 := by
  unfold sp
  rw [Nat.succ_mul]
  have h1 := Nat.div_add_mod (i * n) m
  have h2 := Nat.div_add_mod n m
  have h3 := Nat.mod_lt (i * n) h
  have h4 := Nat.mod_lt n h
  constructor
  · rw [Nat.le_div_iff_mul_le h, Nat.add_mul, Nat.mul_comm (i * n / m) m, Nat.mul_comm (n / m) m]
    omega
  · have : (i * n + n) / m < i * n / m + n / m + 2 := by
      rw [Nat.div_lt_iff_lt_mul h, Nat.add_mul, Nat.add_mul, Nat.mul_comm (i * n / m) m, Nat.mul_comm (n / m) m]
      omega
    omega
theorem sp_lt_step {n m i : Nat} (h : 0 < m) (hmn : m ≤ n) : sp n m i < sp n m (i + 1) := by
  have h1 := (sp_step (n := n) (i := i) h).1
  have : 1 ≤ n / m := by rw [Nat.le_div_iff_mul_le h]; omega
  omega
theorem sp_strict {n m : Nat} (h : 0 < m) (hmn : m ≤ n) {i : Nat} : ∀ {j : Nat}, i < j → sp n m i < sp n m j
  | 0, hij => by omega
  | j + 1, hij => by
    have h1 := sp_lt_step (i := j) h hmn
    by_cases he : i = j
    · subst he; exact h1
    · have := sp_strict h hmn (i := i) (j := j) (by omega)
      omega
/-! sums over what is selected -/
def gsum (N : Nat) (f : Nat → Int) : Int := ((List.range N).map f).sum
theorem gsum_succ (N : Nat) (f : Nat → Int) : gsum (N + 1) f = gsum N f + f N := by
  unfold gsum
  rw [range_succ_map, List.sum_append]; simp
theorem gsum_congr {f g : Nat → Int} : ∀ N, (∀ i, i < N → f i = g i) → gsum N f = gsum N g
  | 0, _ => rfl
  | N + 1, h => by rw [gsum_succ, gsum_succ, gsum_congr N (fun i hi => h i (by omega)), h N (by omega)]
theorem gsum_add (f g : Nat → Int) : ∀ N, gsum N (fun i => f i + g i) = gsum N f + gsum N g
  | 0 => rfl
  | N + 1 => by rw [gsum_succ, gsum_succ, gsum_succ, gsum_add f g N]; omega
theorem gsum_point (f : Nat → Int) (p : Nat) : ∀ N, gsum N (fun i => if p = i then f i else 0) = if p < N then f p else 0
  | 0 => by simp [gsum]
  | N + 1 => by
    rw [gsum_succ, gsum_point f p N]
    by_cases h : p = N
    · subst h; simp
    · rw [if_neg h]
      by_cases h2 : p < N
      · rw [if_pos h2, if_pos (by omega)]; omega
      · rw [if_neg h2, if_neg (by omega)]; omega
theorem gsum_zero : ∀ N, gsum N (fun _ => 0) = 0
  | 0 => rfl
  | N + 1 => by rw [gsum_succ, gsum_zero N]; rfl
theorem posN_nodup (cf : Nat → Int) (N : Nat) (c : Int) : (posN cf N c).Nodup := List.nodup_range.filter _
theorem getD_inj {P : List Nat} (hn : P.Nodup) {i j : Nat} (hi : i < P.length) (hj : j < P.length) (h : P.getD i 0 = P.getD j 0) : i = j := by
  rw [List.getD_eq_getElem?_getD, List.getD_eq_getElem?_getD, List.getElem?_eq_getElem hi, List.getElem?_eq_getElem hj] at h
  exact (List.getElem_inj hn).1 h
theorem selP_iff {P : List Nat} {v j i : Nat} : selP P v j i = true ↔ ∃ t, t < j ∧ P.getD (sp P.length v t) 0 = i := by
  simp [selP]
theorem sel_sum {P : List Nat} {sf : Nat → Int} {N v : Nat} (hn : P.Nodup) (hP : ∀ p ∈ P, p < N) (hv : v ≤ P.length) : ∀ j, j ≤ v → gsum N (fun i => if selP P v j i = true then sf i else 0) = psum (P.map sf) v j
  | 0, _ => by simp [selP_zero, psum_zero]; exact gsum_zero N
  | j + 1, hj => by
    have ih := sel_sum (sf := sf) hn hP hv j (by omega)
    have hlt := sp_lt (n := P.length) (m := v) (i := j) (by omega) (by omega)
    have hp : P.getD (sp P.length v j) 0 < N := by
      rw [List.getD_eq_getElem?_getD, List.getElem?_eq_getElem hlt]; exact hP _ (List.getElem_mem hlt)
    have hnot : selP P v j (P.getD (sp P.length v j) 0) = false := by
      rw [Bool.eq_false_iff]
      intro hs
      obtain ⟨t, ht, he⟩ := selP_iff.1 hs
      have h1 := getD_inj hn (sp_lt (n := P.length) (m := v) (i := t) (by omega) (by omega)) hlt he
      have h2 := sp_strict (n := P.length) (m := v) (by omega) hv ht
      omega
    have hg : (P.map sf).getD (sp (P.map sf).length v j) 0 = sf (P.getD (sp P.length v j) 0) := by
      rw [List.length_map, List.getD_eq_getElem?_getD, List.getElem?_map, List.getD_eq_getElem?_getD, List.getElem?_eq_getElem hlt]; rfl
    rw [psum_succ, ← ih, hg]
    have hpt := gsum_point sf (P.getD (sp P.length v j) 0) N
    rw [if_pos hp] at hpt
    rw [← hpt, ← gsum_add]
    apply gsum_congr
    intro i _
    rw [selP_succ]
    generalize P.getD (sp P.length v j) 0 = q at hnot
    by_cases he : q = i
    · subst he
      rw [hnot, if_pos rfl]; simp
    · rw [if_neg he]; simp [he]
theorem sel_ssum {cf sf : Nat → Int} {N : Nat} {c : Int} {v : Nat} (hv : v ≤ (posN cf N c).length) : gsum N (fun i => if selP (posN cf N c) v v i = true then sf i else 0) = ssum (szN cf sf N c) v :=
  sel_sum (posN_nodup cf N c) (fun p hp => (mem_posN.1 hp).1) hv v (Nat.le_refl _)
theorem sel_full {P : List Nat} {i : Nat} (h : i ∈ P) : selP P P.length P.length i = true := by
  obtain ⟨t, ht, he⟩ := List.mem_iff_getElem.1 h
  exact selP_iff.2 ⟨t, ht, by rw [sp_full ht, List.getD_eq_getElem?_getD, List.getElem?_eq_getElem ht]; exact he⟩
theorem sel_pos {P : List Nat} {v i : Nat} (h : selP P v v i = true) : 0 < v := by
  obtain ⟨t, ht, _⟩ := selP_iff.1 h; omega
/-- what the kept entries take, out of the classes -/
theorem kept_sum {cf sf : Nat → Int} {N : Nat} {m : Int → Nat} (hc : ∀ i, i < N → -1 ≤ cf i ∧ cf i ≤ 4) (hm : ∀ c ∈ ([1, 2, 3, 4, 0] : List Int), m c ≤ (posN cf N c).length) :
    gsum N (fun i => if 0 ≤ cf i ∧ kp cf N m i = true then sf i else 0) = csum cf sf N m [1, 2, 3, 4, 0] := by
  simp only [csum]
  rw [← sel_ssum (hm 1 (by simp)), ← sel_ssum (hm 2 (by simp)), ← sel_ssum (hm 3 (by simp)), ← sel_ssum (hm 4 (by simp)), ← sel_ssum (hm 0 (by simp)), Int.add_zero, ← gsum_add, ← gsum_add, ← gsum_add, ← gsum_add]
  apply gsum_congr
  intro i hi
  have hci := hc i hi
  have hno : ∀ c ∈ ([1, 2, 3, 4, 0] : List Int), c ≠ cf i → selP (posN cf N c) (m c) (m c) i = false := fun c hcm hne => by
    rw [Bool.eq_false_iff]
    intro hs
    exact hne (mem_posN.1 (selP_mem (hm c hcm) (Nat.le_refl _) hs)).2.symm
  have n1 := hno 1 (by simp); have n2 := hno 2 (by simp); have n3 := hno 3 (by simp); have n4 := hno 4 (by simp); have n0 := hno 0 (by simp)
  unfold kp
  have : cf i = -1 ∨ cf i = 0 ∨ cf i = 1 ∨ cf i = 2 ∨ cf i = 3 ∨ cf i = 4 := by omega
  rcases this with h | h | h | h | h | h <;> rw [h] at n0 n1 n2 n3 n4 ⊢
  · rw [n0 (by decide), n1 (by decide), n2 (by decide), n3 (by decide), n4 (by decide)]; simp
  · rw [n1 (by decide), n2 (by decide), n3 (by decide), n4 (by decide)]; simp
  · rw [n0 (by decide), n2 (by decide), n3 (by decide), n4 (by decide)]; simp
  · rw [n0 (by decide), n1 (by decide), n3 (by decide), n4 (by decide)]; simp
  · rw [n0 (by decide), n1 (by decide), n2 (by decide), n4 (by decide)]; simp
  · rw [n0 (by decide), n1 (by decide), n2 (by decide), n3 (by decide)]; simp
theorem ord_nodup : ([1, 2, 3, 4, 0] : List Int).Nodup := by decide
theorem keepL_len (cf : Nat → Int) (N : Nat) (m : Int → Nat) : (keepL cf N m).length = N := by simp [keepL]
theorem keepL_idx {cf : Nat → Int} {N : Nat} {m : Int → Nat} {k : Nat} (h : k < N) : idx (keepL cf N m) (k : Int) = some (kp cf N m k) := by
  rw [idx_nat, keepL, List.getElem?_map, List.getElem?_range h]; rfl
theorem item_idx {rs : List record_Record} {k : Nat} (h : k < rs.length) : ∃ it, idx (rs.map mkItem) (k : Int) = some it ∧ it.gClass = cfOf rs k ∧ it.gSize = sfOf rs k := by
  refine ⟨mkItem rs[k], ?_, ?_, ?_⟩
  · rw [idx_nat, List.getElem?_map, List.getElem?_eq_getElem h]; rfl
  · simp only [mkItem, cfOf, List.getElem?_eq_getElem h]
  · simp only [mkItem, sfOf, List.getElem?_eq_getElem h]
theorem cf_range (rs : List record_Record) (i : Nat) : -1 ≤ cfOf rs i ∧ cfOf rs i ≤ 4 := by
  unfold cfOf
  split
  · rename_i r _
    have := ofc_range r.gEvent
    unfold rcls
    split <;> omega
  · omega
theorem left0_nonneg (x u : Int) : 0 ≤ left0 x u := by unfold left0; split <;> omega
structure PlanOk (rs : List record_Record) (x : Int) (m : Int → Nat) (used : Int) : Prop where
  eq : budget_Plan rs x = some (keepL (cfOf rs) rs.length m, used)
  le : ∀ c ∈ ([1, 2, 3, 4, 0] : List Int), m c ≤ (posN (cfOf rs) rs.length c).length
  used : used = usedN (cfOf rs) (sfOf rs) rs.length + csum (cfOf rs) (sfOf rs) rs.length m [1, 2, 3, 4, 0]
  fits : csum (cfOf rs) (sfOf rs) rs.length m [1, 2, 3, 4, 0] ≤ left0 x (usedN (cfOf rs) (sfOf rs) rs.length)
theorem plan_ok {rs : List record_Record} (h : ∀ r ∈ rs, RFit r) (hN : rs.length ≤ 1000) {x : Int} (hx : -9223372036854775808 ≤ x ∧ x ≤ 9223372036854775807) :
    PlanOk rs x (planM (cfOf rs) (sfOf rs) rs.length x).1 (planM (cfOf rs) (sfOf rs) rs.length x).2 := by
  have hs := allo_sum (cf := cfOf rs) (sf := sfOf rs) (N := rs.length) [1, 2, 3, 4, 0] (fun _ => 0) (usedN (cfOf rs) (sfOf rs) rs.length) (left0 x (usedN (cfOf rs) (sfOf rs) rs.length)) ord_nodup (fun _ _ => rfl) (left0_nonneg _ _)
  exact ⟨plan_eq h hN hx, allo_le _ _ _ _ ord_nodup (fun _ _ => rfl), hs.1, hs.2⟩
/-! fits -/
theorem entries_range {cf sf : Nat → Int} {N : Nat} (hs : ∀ i, i < N → 1 ≤ sf i ∧ sf i ≤ 400) (p : Nat → Bool) : ∀ k, k ≤ N → 0 ≤ gsum k (fun i => if 0 ≤ cf i ∧ p i = true then sf i else 0) ∧ gsum k (fun i => if 0 ≤ cf i ∧ p i = true then sf i else 0) ≤ 400 * k
  | 0, _ => by simp [gsum]
  | k + 1, h => by
    have ih := entries_range hs (cf := cf) p k (by omega)
    have := hs k (by omega)
    rw [gsum_succ]
    split <;> omega
theorem fits_law {x : List rootcauselaw27_Raw} {b : Int} (hx : ∀ r ∈ x, RawT r) (hl : x.length ≤ 9223372036854775807) (hb : -9223372036854775808 ≤ b ∧ b ≤ 9223372036854775807) : rootcauselaw27_BudgetFits x b = some true := by
  obtain ⟨⟨rs, its⟩, h1, h2⟩ := recs_eq hx hl
  have hits := h2.its
  have hlen := h2.len
  have hfit := h2.fit
  simp only at hits hlen hfit
  subst hits
  have P := plan_ok hfit (by omega) hb
  generalize (planM (cfOf rs) (sfOf rs) rs.length b).1 = m at P
  generalize (planM (cfOf rs) (sfOf rs) rs.length b).2 = used at P
  unfold rootcauselaw27_BudgetFits
  rw [awake27, Option.bind_some, if_neg (by decide), h1, Option.bind_some]
  simp only [P.eq, Option.bind_some, keepL_len, List.length_map]
  rw [if_neg (by simp)]
  have hsz := sfOf_range hfit
  rw [forM_next (E := Bool) (s0 := ((0 : Int), (0 : Int))) rs.length (fun k => (gsum k (fun i => if 0 ≤ cfOf rs i ∧ kp (cfOf rs) rs.length m i = true then sfOf rs i else 0), usedN (cfOf rs) (sfOf rs) k)) rfl rfl (by omega) (fun j hj => ?_)]
  · simp only [Option.bind_some]
    have hks := kept_sum (sf := sfOf rs) (m := m) (fun i _ => cf_range rs i) P.le
    have hu := usedN_range (cf := cfOf rs) hsz rs.length (Nat.le_refl _)
    have he := entries_range (cf := cfOf rs) hsz (kp (cfOf rs) rs.length m) rs.length (Nat.le_refl _)
    have hfi := P.fits
    have hus := P.used
    rw [hks] at he ⊢
    unfold rootcauselaw27_BudgetFits_K11
    generalize csum (cfOf rs) (sfOf rs) rs.length m [1, 2, 3, 4, 0] = e at *
    generalize usedN (cfOf rs) (sfOf rs) rs.length = u at *
    rw [wrap_i64 (n := e + u) (by omega) (by omega)]
    have e1 : (used == e + u) = true := by rw [beq_iff_eq]; omega
    simp only [e1, Bool.true_and]
    by_cases hz : e = 0
    · subst hz; simp
    · unfold left0 at hfi
      have hb0 : 0 < b := by split at hfi <;> (split at hfi <;> omega)
      rw [if_pos hb0] at hfi
      have hle : e ≤ b - u := by split at hfi <;> omega
      rw [wrap_i64 (by omega) (by omega)]
      have : decide (e ≤ b) = true := decide_eq_true (by omega)
      have : decide (e ≤ b - u) = true := decide_eq_true (by omega)
      simp [*]
  · obtain ⟨it, i1, i2, i3⟩ := item_idx hj
    simp only [rootcauselaw27_BudgetFits_L15]
    rw [i1, Option.bind_some, i2, i3]
    have hki := keepL_idx (cf := cfOf rs) (m := m) hj
    have he := entries_range (cf := cfOf rs) hsz (kp (cfOf rs) rs.length m) j (by omega)
    have hu := usedN_range (cf := cfOf rs) hsz j (by omega)
    have hsj := hsz j hj
    rw [gsum_succ, usedN_succ]
    generalize gsum j (fun i => if 0 ≤ cfOf rs i ∧ kp (cfOf rs) rs.length m i = true then sfOf rs i else 0) = g at *
    simp only [hki]
    by_cases hc : cfOf rs j < 0
    · have hk : kp (cfOf rs) rs.length m j = true := by unfold kp; simp [hc]
      have hd : decide (cfOf rs j < 0) = true := decide_eq_true hc
      rw [hd, hk]
      simp only [gb, if_true, Option.bind_some, Bool.not_true, Bool.and_false, Bool.false_eq_true, if_false]
      rw [wrap_i64 (by omega) (by omega), if_neg (by omega), if_pos hc, Int.add_zero]
    · have hd : decide (cfOf rs j < 0) = false := decide_eq_false hc
      rw [hd]
      simp only [gb, Bool.false_eq_true, if_false, Option.bind_some, Bool.false_and, if_neg hc, Int.add_zero]
      by_cases hk : kp (cfOf rs) rs.length m j = true
      · rw [if_pos hk, if_pos ⟨by omega, hk⟩, wrap_i64 (by omega) (by omega)]
      · rw [if_neg hk, if_neg (fun h => hk h.2), Int.add_zero]
/-! first -/
theorem first_key {rs : List record_Record} {b : Int} {i k : Nat} (hi : i < rs.length) (h1 : 0 < cfOf rs i) (h2 : cfOf rs i < cfOf rs k) (hk : kp (cfOf rs) rs.length (planM (cfOf rs) (sfOf rs) rs.length b).1 k = true) : kp (cfOf rs) rs.length (planM (cfOf rs) (sfOf rs) rs.length b).1 i = true := by
  have hck := cf_range rs k
  have hnk : ¬ cfOf rs k < 0 := by omega
  unfold kp at hk ⊢
  simp only [hnk, decide_false, Bool.false_or] at hk
  have hp := sel_pos hk
  have key : ∀ pre post, ([1, 2, 3, 4, 0] : List Int) = pre ++ cfOf rs i :: post → cfOf rs k ∈ post → (planM (cfOf rs) (sfOf rs) rs.length b).1 (cfOf rs i) = (posN (cfOf rs) rs.length (cfOf rs i)).length :=
    fun pre post he hm => allo_first [1, 2, 3, 4, 0] _ _ _ ord_nodup (fun _ _ => rfl) pre _ _ post he hm hp
  have hfull : (planM (cfOf rs) (sfOf rs) rs.length b).1 (cfOf rs i) = (posN (cfOf rs) rs.length (cfOf rs i)).length := by
    generalize cfOf rs k = ck at *
    generalize cfOf rs i = ci at *
    have : ci = 1 ∨ ci = 2 ∨ ci = 3 := by omega
    rcases this with rfl | rfl | rfl
    · exact key [] [2, 3, 4, 0] rfl (by have : ck = 2 ∨ ck = 3 ∨ ck = 4 := by omega
                                        rcases this with rfl | rfl | rfl <;> decide)
    · exact key [1] [3, 4, 0] rfl (by have : ck = 3 ∨ ck = 4 := by omega
                                      rcases this with rfl | rfl <;> decide)
    · exact key [1, 2] [4, 0] rfl (by have : ck = 4 := by omega
                                      subst this; decide)
  rw [hfull, sel_full (mem_posN.2 ⟨hi, rfl⟩), Bool.or_true]
theorem first_law {x : List rootcauselaw27_Raw} {b : Int} (hx : ∀ r ∈ x, RawT r) (hl : x.length ≤ 9223372036854775807) (hb : -9223372036854775808 ≤ b ∧ b ≤ 9223372036854775807) : rootcauselaw27_BudgetFirst x b = some true := by
  obtain ⟨⟨rs, its⟩, h1, h2⟩ := recs_eq hx hl
  have hits := h2.its
  have hlen := h2.len
  have hfit := h2.fit
  simp only at hits hlen hfit
  subst hits
  have P := plan_ok hfit (by omega) hb
  have hfk := @first_key rs b
  generalize (planM (cfOf rs) (sfOf rs) rs.length b).1 = m at P hfk
  unfold rootcauselaw27_BudgetFirst
  rw [awake27, Option.bind_some, if_neg (by decide), h1, Option.bind_some]
  simp only [P.eq, Option.bind_some, keepL_len, List.length_map]
  rw [if_neg (by simp)]
  rw [forM_next (E := Bool) rs.length (fun k => ()) rfl rfl (by omega) (fun j hj => ?_)]
  · rfl
  · obtain ⟨it, i1, i2, i3⟩ := item_idx hj
    simp only [rootcauselaw27_BudgetFirst_L11]
    rw [i1, Option.bind_some, List.length_map, forM_next (E := Bool) rs.length (fun k => ()) rfl rfl (by omega) (fun k hk => ?_)]
    · rfl
    · obtain ⟨it2, j1, j2, j3⟩ := item_idx hk
      simp only [rootcauselaw27_BudgetFirst_L18]
      rw [j1, Option.bind_some, keepL_idx hk, keepL_idx hj, i2, j2]
      have hf := hfk (i := j) (k := k) hj
      cases h1 : decide (0 < cfOf rs j) <;> cases h2 : decide (cfOf rs j < cfOf rs k) <;> simp only [gb, Bool.and_true, Bool.and_false, Bool.false_and, Bool.true_and, Bool.false_eq_true, if_false, if_true, Option.bind_some]
      cases h3 : kp (cfOf rs) rs.length m k
      · simp
      · rw [hf (of_decide_eq_true h1) (of_decide_eq_true h2) h3]; simp
/-! the kept numbers of a class -/
theorem sorted_ext : ∀ {l1 l2 : List Nat}, l1.Pairwise (· < ·) → l2.Pairwise (· < ·) → (∀ a, a ∈ l1 ↔ a ∈ l2) → l1 = l2
  | [], [], _, _, _ => rfl
  | [], b :: l2, _, _, h => by have := (h b).2 (List.mem_cons_self ..); cases this
  | a :: l1, [], _, _, h => by have := (h a).1 (List.mem_cons_self ..); cases this
  | a :: l1, b :: l2, h1, h2, h => by
    rw [List.pairwise_cons] at h1 h2
    have hab : a = b := by
      have ha := (h a).1 (List.mem_cons_self ..)
      have hb := (h b).2 (List.mem_cons_self ..)
      rw [List.mem_cons] at ha hb
      rcases ha with ha | ha
      · exact ha
      · rcases hb with hb | hb
        · exact hb.symm
        · have := h1.1 b hb; have := h2.1 a ha; omega
    subst hab
    congr 1
    refine sorted_ext h1.2 h2.2 (fun c => ?_)
    have hc := h c
    rw [List.mem_cons, List.mem_cons] at hc
    constructor
    · intro hm
      have hlt := h1.1 c hm
      rcases hc.1 (.inr hm) with e | e
      · omega
      · exact e
    · intro hm
      have hlt := h2.1 c hm
      rcases hc.2 (.inr hm) with e | e
      · omega
      · exact e
def atN (cf : Nat → Int) (N : Nat) (m : Int → Nat) (c : Int) (k : Nat) : List Nat := (List.range (posN cf k c).length).filter fun t => kp cf N m ((posN cf k c).getD t 0)
theorem posN_prefix (cf : Nat → Int) (c : Int) {k t : Nat} (h : t < (posN cf k c).length) : (posN cf (k + 1) c).getD t 0 = (posN cf k c).getD t 0 := by
  rw [posN_succ]
  split
  · rw [List.getD_eq_getElem?_getD, List.getD_eq_getElem?_getD, List.getElem?_append_left h]
  · rfl
theorem atN_succ (cf : Nat → Int) (N : Nat) (m : Int → Nat) (c : Int) (k : Nat) : atN cf N m c (k + 1) = if cf k = c then (if kp cf N m k = true then atN cf N m c k ++ [(posN cf k c).length] else atN cf N m c k) else atN cf N m c k := by
  by_cases h : cf k = c
  · rw [if_pos h]
    have hl : (posN cf (k + 1) c).length = (posN cf k c).length + 1 := by rw [posN_succ, if_pos h]; simp
    have hlast : (posN cf (k + 1) c).getD (posN cf k c).length 0 = k := by rw [posN_succ, if_pos h, List.getD_eq_getElem?_getD]; simp
    unfold atN
    rw [hl, List.range_succ, List.filter_append]
    have e1 : (List.range (posN cf k c).length).filter (fun t => kp cf N m ((posN cf (k + 1) c).getD t 0)) = (List.range (posN cf k c).length).filter (fun t => kp cf N m ((posN cf k c).getD t 0)) := by
      apply List.filter_congr
      intro t ht
      rw [posN_prefix cf c (List.mem_range.1 ht)]
    rw [e1]
    by_cases hk : kp cf N m k = true
    · rw [if_pos hk, List.filter_cons, hlast, if_pos hk]; rfl
    · rw [if_neg hk, List.filter_cons, hlast, if_neg hk]; simp
  · rw [if_neg h]
    unfold atN
    rw [posN_succ, if_neg h]
theorem atN_end {cf : Nat → Int} {N : Nat} {m : Int → Nat} {c : Int} (hc : 0 ≤ c) (hm : m c ≤ (posN cf N c).length) : (atN cf N m c N).map Int.ofNat = spr (posN cf N c).length (m c) := by
  have e : atN cf N m c N = (List.range (m c)).map (sp (posN cf N c).length (m c)) := by
    apply sorted_ext
    · exact List.Pairwise.filter _ (List.pairwise_lt_range)
    · rw [List.pairwise_map]
      by_cases hz : m c = 0
      · rw [hz]; exact List.Pairwise.nil
      · exact List.pairwise_lt_range.imp fun h => sp_strict (by omega) hm h
    · intro a
      simp only [atN, List.mem_filter, List.mem_range, List.mem_map]
      constructor
      · rintro ⟨ha, hk⟩
        have hin : (posN cf N c).getD a 0 ∈ posN cf N c := by
          rw [List.getD_eq_getElem?_getD, List.getElem?_eq_getElem ha]; exact List.getElem_mem ha
        have hcf := (mem_posN.1 hin).2
        unfold kp at hk
        rw [hcf] at hk
        have : decide (c < 0) = false := decide_eq_false (by omega)
        rw [this, Bool.false_or] at hk
        obtain ⟨t, ht, he⟩ := selP_iff.1 hk
        exact ⟨t, ht, getD_inj (posN_nodup cf N c) (sp_lt ht (by omega)) ha he⟩
      · rintro ⟨t, ht, rfl⟩
        have hlt := sp_lt (n := (posN cf N c).length) (m := m c) (i := t) ht (by omega)
        refine ⟨hlt, ?_⟩
        have hin : (posN cf N c).getD (sp (posN cf N c).length (m c) t) 0 ∈ posN cf N c := by
          rw [List.getD_eq_getElem?_getD, List.getElem?_eq_getElem hlt]; exact List.getElem_mem hlt
        have hcf := (mem_posN.1 hin).2
        unfold kp
        rw [hcf, selP_iff.2 ⟨t, ht, rfl⟩, Bool.or_true]
  rw [e, List.map_map]; rfl
theorem kept_eq {rs : List record_Record} {m : Int → Nat} {c : Int} (hN : rs.length ≤ 1000) (hc : 0 ≤ c) (hm : m c ≤ (posN (cfOf rs) rs.length c).length) :
    rootcauselaw27_kept (rs.map mkItem) (keepL (cfOf rs) rs.length m) c = some (spr (posN (cfOf rs) rs.length c).length (m c), ((posN (cfOf rs) rs.length c).length : Int)) := by
  unfold rootcauselaw27_kept
  rw [List.length_map, foldM_spec (s0 := (([] : List Int), (0 : Int))) rs.length (fun k => ((atN (cfOf rs) rs.length m c k).map Int.ofNat, ((posN (cfOf rs) k c).length : Int))) rfl rfl (by omega) (fun j hj => ?_)]
  · simp only [Option.bind_some, rootcauselaw27_kept_K3]
    rw [atN_end hc hm]
  · obtain ⟨it, i1, i2, i3⟩ := item_idx hj
    simp only [rootcauselaw27_kept_L7]
    rw [i1, Option.bind_some, i2, keepL_idx hj, atN_succ, posN_succ]
    have hpl := posN_len (cfOf rs) j c
    have hal : (atN (cfOf rs) rs.length m c j).length ≤ j := Nat.le_trans (List.length_filter_le _ _) (by simp; exact hpl)
    by_cases hcj : cfOf rs j = c
    · rw [if_pos (by rw [hcj]; simp), if_pos hcj, if_pos hcj, Option.bind_some, wrap_i64 (by omega) (by omega)]
      by_cases hk : kp (cfOf rs) rs.length m j = true
      · rw [if_pos hk, if_pos hk, chk_pos (by simp [apOk]; omega)]; simp
      · rw [if_neg hk, if_neg hk]; simp
    · rw [if_neg (by simp [hcj]), if_neg hcj, if_neg hcj]
theorem mem_ord {c : Int} (h0 : 0 ≤ c) (h1 : c ≤ 4) : c ∈ ([1, 2, 3, 4, 0] : List Int) := by
  have : c = 0 ∨ c = 1 ∨ c = 2 ∨ c = 3 ∨ c = 4 := by omega
  rcases this with rfl | rfl | rfl | rfl | rfl <;> decide
theorem left0_eq (x u : Int) : left0 x u = max (max x 0 - u) 0 := by
  unfold left0
  have : (if x > 0 then x else 0) = max x 0 := by split <;> omega
  rw [this]; split <;> omega
/-! grows -/
theorem grows_law {x : List rootcauselaw27_Raw} {b a : Int} (hx : ∀ r ∈ x, RawT r) (hl : x.length ≤ 9223372036854775807) (hb : -32768 ≤ b ∧ b ≤ 32767) (ha : 0 ≤ a ∧ a ≤ 255) : rootcauselaw27_BudgetGrows x b a = some true := by
  obtain ⟨⟨rs, its⟩, h1, h2⟩ := recs_eq hx hl
  have hits := h2.its
  have hlen := h2.len
  have hfit := h2.fit
  simp only at hits hlen hfit
  subst hits
  have P := plan_ok hfit (by omega) (x := b) (by omega)
  have Q := plan_ok hfit (by omega) (x := b + a) (by omega)
  have hmo : ∀ c ∈ ([1, 2, 3, 4, 0] : List Int), (planM (cfOf rs) (sfOf rs) rs.length b).1 c ≤ (planM (cfOf rs) (sfOf rs) rs.length (b + a)).1 c := by
    refine allo_mono (sfOf_range hfit) _ _ _ _ _ _ ord_nodup (fun _ _ => rfl) (left0_nonneg _ _) ?_
    rw [left0_eq, left0_eq]; omega
  generalize (planM (cfOf rs) (sfOf rs) rs.length b).1 = m at *
  generalize (planM (cfOf rs) (sfOf rs) rs.length (b + a)).1 = m' at *
  unfold rootcauselaw27_BudgetGrows
  rw [awake27, Option.bind_some, if_neg (by decide), h1, Option.bind_some, wrap_i64 (n := b) (by omega) (by omega), wrap_i64 (n := a) (by omega) (by omega), wrap_i64 (n := b + a) (by omega) (by omega)]
  simp only [P.eq, Q.eq, Option.bind_some, keepL_len]
  rw [if_neg (by simp), whileM_spec (s0 := (1 : Int)) (e := .inl ()) 4 (fun k => ((k : Int) + 1)) rfl (by omega) (fun j hj => ?_) ?_]
  · rfl
  · simp only [rootcauselaw27_BudgetGrows_L13]
    rfl
  · simp only [rootcauselaw27_BudgetGrows_L13]
    have hc := mem_ord (c := (j : Int) + 1) (by omega) (by omega)
    have hmc := hmo _ hc
    rw [decide_eq_true (show (j : Int) + 1 ≤ 4 by omega), if_pos rfl, kept_eq (by omega) (by omega) (P.le _ hc), Option.bind_some, kept_eq (by omega) (by omega) (Q.le _ hc), Option.bind_some]
    simp only [spr_len]
    rw [decide_eq_false (by omega), if_neg (by decide), wrap_i64 (by omega) (by omega)]
    simp
/-! ends -/
theorem usedN_gsum (cf sf : Nat → Int) (N : Nat) : usedN cf sf N = gsum N (fun i => if cf i < 0 then sf i else 0) := rfl
theorem size_sum {rs : List record_Record} (h : ∀ r ∈ rs, RFit r) (hN : rs.length ≤ 1000) : rootcauselaw27_size (rs.map mkItem) = some (gsum rs.length (sfOf rs)) := by
  have hs := sfOf_range h
  have hr : ∀ k, k ≤ rs.length → 0 ≤ gsum k (sfOf rs) ∧ gsum k (sfOf rs) ≤ 400 * k := by
    intro k
    induction k with
    | zero => intro _; simp [gsum]
    | succ k ih => intro hk; have := ih (by omega); have := hs k (by omega); rw [gsum_succ]; omega
  unfold rootcauselaw27_size
  rw [List.length_map, foldM_spec (s0 := (0 : Int)) rs.length (fun k => gsum k (sfOf rs)) rfl rfl (by omega) (fun j hj => ?_)]
  · rfl
  · obtain ⟨it, i1, i2, i3⟩ := item_idx hj
    have := hr j (by omega)
    have := hs j hj
    simp only [rootcauselaw27_size_L5]
    rw [i1, Option.bind_some, i3, gsum_succ, wrap_i64 (by omega) (by omega)]
theorem gsum_range {sf : Nat → Int} {N : Nat} (hs : ∀ i, i < N → 1 ≤ sf i ∧ sf i ≤ 400) : ∀ k, k ≤ N → 0 ≤ gsum k sf ∧ gsum k sf ≤ 400 * k
  | 0, _ => by simp [gsum]
  | k + 1, h => by
    have ih := gsum_range hs k (by omega)
    have := hs k (by omega)
    rw [gsum_succ]; omega
theorem fulls_eq (cf sf : Nat → Int) (N : Nat) : ∀ cs, fulls cf sf N cs = csum cf sf N (fun c => (posN cf N c).length) cs
  | [] => rfl
  | c :: cs => by unfold fulls csum; rw [fulls_eq cf sf N cs]
theorem all_sum {rs : List record_Record} : usedN (cfOf rs) (sfOf rs) rs.length + fulls (cfOf rs) (sfOf rs) rs.length [1, 2, 3, 4, 0] = gsum rs.length (sfOf rs) := by
  rw [fulls_eq, ← kept_sum (fun i _ => cf_range rs i) (fun c _ => Nat.le_refl _), usedN_gsum, ← gsum_add]
  apply gsum_congr
  intro i hi
  by_cases hc : cfOf rs i < 0
  · rw [if_pos hc, if_neg (by omega), Int.add_zero]
  · have hk : kp (cfOf rs) rs.length (fun c => (posN (cfOf rs) rs.length c).length) i = true := by
      unfold kp
      rw [sel_full (mem_posN.2 ⟨hi, rfl⟩), Bool.or_true]
    rw [if_neg hc, if_pos ⟨by omega, hk⟩, Int.zero_add]
theorem kp_none {cf : Nat → Int} {N : Nat} {m : Int → Nat} {i : Nat} (hc : -1 ≤ cf i ∧ cf i ≤ 4) (hm : ∀ c ∈ ([1, 2, 3, 4, 0] : List Int), m c = 0) : kp cf N m i = decide (cf i < 0) := by
  unfold kp
  by_cases h : cf i < 0
  · simp [h]
  · rw [hm _ (mem_ord (by omega) hc.2), selP_zero, Bool.or_false]
theorem ends_law {x : List rootcauselaw27_Raw} {a : Int} (hx : ∀ r ∈ x, RawT r) (hl : x.length ≤ 9223372036854775807) (ha : 0 ≤ a ∧ a ≤ 65535) : rootcauselaw27_BudgetEnds x a = some true := by
  obtain ⟨⟨rs, its⟩, h1, h2⟩ := recs_eq hx hl
  have hits := h2.its
  have hlen := h2.len
  have hfit := h2.fit
  simp only at hits hlen hfit
  subst hits
  have hsz := sfOf_range hfit
  have hg := gsum_range hsz rs.length (Nat.le_refl _)
  have hu := usedN_range (cf := cfOf rs) hsz rs.length (Nat.le_refl _)
  have hsum := all_sum (rs := rs)
  have P := plan_ok hfit (by omega) (x := gsum rs.length (sfOf rs) + a) (by omega)
  have Q := plan_ok hfit (by omega) (x := 0) (by omega)
  have R := plan_ok hfit (by omega) (x := 0 - a) (by omega)
  have hall := allo_all (cf := cfOf rs) hsz [1, 2, 3, 4, 0] (fun _ => 0) (usedN (cfOf rs) (sfOf rs) rs.length) (left0 (gsum rs.length (sfOf rs) + a) (usedN (cfOf rs) (sfOf rs) rs.length)) ord_nodup (fun _ _ => rfl) (by
    have := fulls_nonneg (cf := cfOf rs) hsz [1, 2, 3, 4, 0]
    rw [left0_eq]; omega)
  have hq : ∀ y : Int, y ≤ 0 → ∀ c ∈ ([1, 2, 3, 4, 0] : List Int), (planM (cfOf rs) (sfOf rs) rs.length y).1 c = 0 := fun y hy => by
    have : left0 y (usedN (cfOf rs) (sfOf rs) rs.length) = 0 := by
      rw [left0_eq]; omega
    unfold planM
    rw [this]
    exact allo_none hsz _ _ _ ord_nodup (fun _ _ => rfl)
  have hq1 := hq 0 (by omega)
  have hq2 := hq (0 - a) (by omega)
  have ha1 : ∀ c ∈ ([1, 2, 3, 4, 0] : List Int), (planM (cfOf rs) (sfOf rs) rs.length (gsum rs.length (sfOf rs) + a)).1 c = (posN (cfOf rs) rs.length c).length := hall.1
  have ha2 : (planM (cfOf rs) (sfOf rs) rs.length (gsum rs.length (sfOf rs) + a)).2 = gsum rs.length (sfOf rs) := by
    have := hall.2
    unfold planM; rw [this]; exact hsum
  generalize (planM (cfOf rs) (sfOf rs) rs.length (gsum rs.length (sfOf rs) + a)).1 = m at *
  generalize (planM (cfOf rs) (sfOf rs) rs.length (gsum rs.length (sfOf rs) + a)).2 = us at *
  generalize (planM (cfOf rs) (sfOf rs) rs.length 0).1 = m0 at *
  generalize (planM (cfOf rs) (sfOf rs) rs.length (0 - a)).1 = m1 at *
  unfold rootcauselaw27_BudgetEnds
  rw [awake27, Option.bind_some, if_neg (by decide), h1, Option.bind_some]
  simp only [size_sum hfit (by omega), Option.bind_some]
  rw [wrap_i64 (n := a) (by omega) (by omega), wrap_i64 (n := gsum rs.length (sfOf rs) + a) (by omega) (by omega), wrap_i64 (n := 0 - a) (by omega) (by omega)]
  simp only [P.eq, Q.eq, R.eq, Option.bind_some, keepL_len, List.length_map, ha2]
  rw [if_neg (by simp), forM_next (E := Bool) (s0 := ()) rs.length (fun k => ()) rfl rfl (by omega) (fun j hj => ?_)]
  · rfl
  · obtain ⟨it, i1, i2, i3⟩ := item_idx hj
    simp only [rootcauselaw27_BudgetEnds_L19]
    have hcr := cf_range rs j
    have hk : kp (cfOf rs) rs.length m j = true := by
      unfold kp
      by_cases h : cfOf rs j < 0
      · simp [h]
      · rw [ha1 _ (mem_ord (by omega) hcr.2), sel_full (mem_posN.2 ⟨hj, rfl⟩), Bool.or_true]
    rw [i1, Option.bind_some, i2, keepL_idx hj, keepL_idx hj, keepL_idx hj, hk, kp_none hcr hq1, kp_none hcr hq2]
    simp [gb]
/-! evenness -/
theorem even_law {x : List rootcauselaw27_Raw} {b : Int} (hx : ∀ r ∈ x, RawT r) (hl : x.length ≤ 9223372036854775807) (hb : -9223372036854775808 ≤ b ∧ b ≤ 9223372036854775807) : rootcauselaw27_BudgetEven x b = some true := by
  obtain ⟨⟨rs, its⟩, h1, h2⟩ := recs_eq hx hl
  have hits := h2.its
  have hlen := h2.len
  have hfit := h2.fit
  simp only at hits hlen hfit
  subst hits
  have P := plan_ok hfit (by omega) hb
  generalize (planM (cfOf rs) (sfOf rs) rs.length b).1 = m at P
  unfold rootcauselaw27_BudgetEven
  rw [awake27, Option.bind_some, if_neg (by decide), h1, Option.bind_some]
  simp only [P.eq, Option.bind_some, keepL_len]
  rw [if_neg (by simp), whileM_spec (s0 := (1 : Int)) (e := .inl ()) 4 (fun k => ((k : Int) + 1)) rfl (by omega) (fun j hj => ?_) ?_]
  · rfl
  · simp only [rootcauselaw27_BudgetEven_L11]
    rfl
  · simp only [rootcauselaw27_BudgetEven_L11]
    have hc := mem_ord (c := (j : Int) + 1) (by omega) (by omega)
    have hnext : rootcauselaw27_BudgetEven_K14 ((j : Int) + 1) = some (.next (((j + 1 : Nat) : Int) + 1)) := by
      unfold rootcauselaw27_BudgetEven_K14
      rw [wrap_i64 (by omega) (by omega)]; rfl
    rw [decide_eq_true (show (j : Int) + 1 ≤ 4 by omega), if_pos rfl, kept_eq (by omega) (by omega) (P.le _ hc), Option.bind_some]
    have hle := P.le _ hc
    have hpl := posN_len (cfOf rs) rs.length ((j : Int) + 1)
    generalize (posN (cfOf rs) rs.length ((j : Int) + 1)).length = n at *
    generalize m ((j : Int) + 1) = v at *
    simp only [spr_len]
    by_cases hv : v = 0
    · subst hv; rw [if_pos (by rfl)]; exact hnext
    · rw [if_neg (by simp; omega)]
      have h0 : idx (spr n v) 0 = some 0 := by
        have := idx_some (spr_get (n := n) (v := v) (j := 0) (by omega))
        rw [sp_zero] at this; exact this
      rw [h0, Option.bind_some, if_neg (by decide)]
      obtain ⟨q, hqd⟩ : ∃ q, q = n / v := ⟨_, rfl⟩
      have hq : q ≤ n := by rw [hqd]; exact Nat.div_le_self _ _
      obtain ⟨s, hs1, hs2⟩ : ∃ s, foldM' 9223372036854775807 (v : Int) (fun k25 s => rootcauselaw27_BudgetEven_L28 (spr n v, (n : Int)) k25 s.1 s.2) ((n : Int), 0) = some s ∧ (q : Int) ≤ s.1 ∧ s.1 ≤ n ∧ 0 ≤ s.2 ∧ s.2 ≤ (q : Int) + 1 := by
        have step : ∀ k, k < v → ∀ l g : Int, ∃ l' g', rootcauselaw27_BudgetEven_L28 (spr n v, (n : Int)) k l g = some (l', g') ∧ l' = (if ((sp n v (k + 1) : Nat) : Int) - ((sp n v k : Nat) : Int) < l then ((sp n v (k + 1) : Nat) : Int) - ((sp n v k : Nat) : Int) else l) ∧ g' = (if ((sp n v (k + 1) : Nat) : Int) - ((sp n v k : Nat) : Int) > g then ((sp n v (k + 1) : Nat) : Int) - ((sp n v k : Nat) : Int) else g) := by
          intro k hk l g
          have hlt := sp_lt (n := n) (m := v) (i := k) hk (by omega)
          have hK : ∀ y : Int, y = ((sp n v (k + 1) : Nat) : Int) → rootcauselaw27_BudgetEven_K32 (spr n v, (n : Int)) k l g y = some ((if ((sp n v (k + 1) : Nat) : Int) - ((sp n v k : Nat) : Int) < l then ((sp n v (k + 1) : Nat) : Int) - ((sp n v k : Nat) : Int) else l), (if ((sp n v (k + 1) : Nat) : Int) - ((sp n v k : Nat) : Int) > g then ((sp n v (k + 1) : Nat) : Int) - ((sp n v k : Nat) : Int) else g)) := by
            rintro y rfl
            have hle2 : sp n v (k + 1) ≤ n := by
              by_cases he : k + 1 = v
              · rw [he, sp_end (by omega)]; omega
              · exact Nat.le_of_lt (sp_lt (by omega) (by omega))
            simp only [rootcauselaw27_BudgetEven_K32]
            rw [idx_some (spr_get hk), Option.bind_some, Option.bind_some, wrap_i64 (by omega) (by omega)]
          refine ⟨_, _, ?_, rfl, rfl⟩
          simp only [rootcauselaw27_BudgetEven_L28, spr_len]
          by_cases hk1 : k + 1 < v
          · have : idx (spr n v) ((k : Int) + 1) = some ((sp n v (k + 1) : Nat) : Int) := by
              have := idx_some (spr_get (n := n) (v := v) (j := k + 1) hk1)
              exact this
            rw [decide_eq_true (by omega), if_pos rfl, this, Option.bind_some]
            exact hK _ rfl
          · rw [decide_eq_false (by omega), if_neg (by decide)]
            refine hK _ ?_
            have : k + 1 = v := by omega
            rw [this, sp_end (by omega)]
        have go : ∀ (r k : Nat) (s : Int × Int), k + r = v → (q : Int) ≤ s.1 → s.1 ≤ n → 0 ≤ s.2 → s.2 ≤ (q : Int) + 1 → ∃ t, foldGo (fun k25 s => rootcauselaw27_BudgetEven_L28 (spr n v, (n : Int)) k25 s.1 s.2) r k s = some t ∧ (q : Int) ≤ t.1 ∧ t.1 ≤ n ∧ 0 ≤ t.2 ∧ t.2 ≤ (q : Int) + 1 := by
          intro r
          induction r with
          | zero => intro k s _ a1 a2 a3 a4; exact ⟨s, rfl, a1, a2, a3, a4⟩
          | succ r ih =>
            intro k s hk a1 a2 a3 a4
            obtain ⟨l', g', e1, e2, e3⟩ := step k (by omega) s.1 s.2
            have hst := sp_step (n := n) (i := k) (m := v) (by omega)
            rw [← hqd] at hst
            unfold foldGo
            rw [e1, Option.bind_some]
            refine ih (k + 1) (l', g') (by omega) ?_ ?_ ?_ ?_
            · show _ ≤ l'; rw [e2]; split <;> omega
            · show l' ≤ _; rw [e2]; split <;> omega
            · show _ ≤ g'; rw [e3]; split <;> omega
            · show g' ≤ _; rw [e3]; split <;> omega
        unfold foldM'
        rw [chk_pos (by omega), Int.toNat_natCast]
        exact go v 0 ((n : Int), 0) (by omega) (by simp only []; omega) (by simp only []; omega) (by simp only []; omega) (by simp only []; omega)
      rw [hs1, Option.bind_some]
      unfold rootcauselaw27_BudgetEven_K23
      rw [wrap_i64 (by omega) (by omega), decide_eq_false (by omega), if_neg (by decide)]
      exact hnext
def selL (P : List Nat) (v : Nat) : List Nat := (List.range v).map fun t => P.getD (sp P.length v t) 0
theorem selL_len (P : List Nat) (v : Nat) : (selL P v).length = v := by simp [selL]
theorem selL_get {P : List Nat} {v j : Nat} (h : j < v) : (selL P v)[j]? = some (P.getD (sp P.length v j) 0) := by
  unfold selL
  rw [List.getElem?_map, List.getElem?_range h]; rfl
theorem selL_full (P : List Nat) : selL P P.length = P := by
  apply List.ext_getElem?
  intro i
  by_cases h : i < P.length
  · rw [selL_get h, sp_full h, List.getD_eq_getElem?_getD, List.getElem?_eq_getElem h]; rfl
  · rw [List.getElem?_eq_none (by rw [selL_len]; omega), List.getElem?_eq_none (by omega)]
theorem selL_lt {P : List Nat} {N v : Nat} (hP : ∀ p ∈ P, p < N) (hv : v ≤ P.length) : ∀ q ∈ selL P v, q < N := by
  intro q hq
  simp only [selL, List.mem_map, List.mem_range] at hq
  obtain ⟨t, ht, rfl⟩ := hq
  have hlt := sp_lt (n := P.length) (m := v) (i := t) ht (by omega)
  rw [List.getD_eq_getElem?_getD, List.getElem?_eq_getElem hlt]; exact hP _ (List.getElem_mem hlt)
theorem idx_ofNat {Q : List Nat} {j q : Nat} (h : Q[j]? = some q) : idx (Q.map Int.ofNat) (j : Int) = some (q : Int) := by
  rw [idx_nat, List.getElem?_map, h]; rfl
def tsum (sf : Nat → Int) (Q : List Nat) (k : Nat) : Int := ((Q.take k).map sf).sum
theorem tsum_succ {sf : Nat → Int} {Q : List Nat} {k q : Nat} (h : Q[k]? = some q) : tsum sf Q (k + 1) = tsum sf Q k + sf q := by
  have hlt : k < Q.length := (List.getElem?_eq_some_iff.1 h).1
  have he : Q[k] = q := (List.getElem?_eq_some_iff.1 h).2
  unfold tsum
  rw [List.take_succ_eq_append_getElem hlt, List.map_append, List.sum_append, he]; simp
theorem tsum_range {sf : Nat → Int} {N : Nat} (hs : ∀ i, i < N → 1 ≤ sf i ∧ sf i ≤ 400) {Q : List Nat} (hQ : ∀ q ∈ Q, q < N) : ∀ k, k ≤ Q.length → 0 ≤ tsum sf Q k ∧ tsum sf Q k ≤ 400 * k
  | 0, _ => by simp [tsum]
  | k + 1, h => by
    have ih := tsum_range hs hQ k (by omega)
    have hg : Q[k]? = some Q[k] := List.getElem?_eq_getElem (by omega)
    have := hs Q[k] (hQ _ (List.getElem_mem _))
    rw [tsum_succ hg]; omega
theorem total_eq {rs : List record_Record} (h : ∀ r ∈ rs, RFit r) {Q : List Nat} (hQ : ∀ q ∈ Q, q < rs.length) (hl : Q.length ≤ 1000) : rootcauseref27_total (rs.map mkItem) (Q.map Int.ofNat) = some ((Q.map (sfOf rs)).sum) := by
  have hs := sfOf_range h
  unfold rootcauseref27_total
  rw [List.length_map, foldM_spec (s0 := (0 : Int)) Q.length (fun k => tsum (sfOf rs) Q k) rfl rfl (by omega) (fun j hj => ?_)]
  · simp [rootcauseref27_total_K2, tsum]
  · have hg : Q[j]? = some Q[j] := List.getElem?_eq_getElem hj
    have hq := hQ Q[j] (List.getElem_mem _)
    obtain ⟨it, i1, i2, i3⟩ := item_idx hq
    have := tsum_range hs hQ j (by omega)
    have := hs _ hq
    simp only [rootcauseref27_total_L5]
    rw [idx_ofNat hg, Option.bind_some, i1, Option.bind_some, i3, tsum_succ hg, wrap_i64 (by omega) (by omega)]
theorem selL_sum {sf : Nat → Int} {P : List Nat} {v : Nat} (hv : v ≤ P.length) : ((selL P v).map sf).sum = ssum (P.map sf) v := by
  unfold selL ssum psum
  rw [List.map_map]
  congr 1
  apply List.map_congr_left
  intro t ht
  have hlt := sp_lt (n := P.length) (m := v) (i := t) (List.mem_range.1 ht) (by have := List.mem_range.1 ht; omega)
  simp only [Function.comp]
  rw [List.length_map, List.getD_eq_getElem?_getD, List.getD_eq_getElem?_getD, List.getElem?_map, List.getElem?_eq_getElem hlt]; rfl
theorem full_sum {sf : Nat → Int} (P : List Nat) : (P.map sf).sum = ssum (P.map sf) P.length := by
  rw [← selL_sum (Nat.le_refl _), selL_full]
/-! the numbers of a class -/
theorem pos_eq {rs : List record_Record} (hN : rs.length ≤ 1000) (c : Int) : foldM' 9223372036854775807 (List.length (rs.map mkItem) : Int) (fun k83 s => rootcauseref27_Plan_L85 (rs.map mkItem) c k83 s) ([] : List Int) = some ((posN (cfOf rs) rs.length c).map Int.ofNat) := by
  rw [List.length_map]
  refine foldM_spec rs.length (fun k => (posN (cfOf rs) k c).map Int.ofNat) rfl rfl (by omega) (fun j hj => ?_)
  obtain ⟨it, i1, i2, i3⟩ := item_idx hj
  simp only [rootcauseref27_Plan_L85]
  have hpl := posN_len (cfOf rs) j c
  rw [i1, Option.bind_some, i2, posN_succ]
  by_cases hc : cfOf rs j = c
  · rw [if_pos (by simp [hc]), if_pos hc, chk_pos (by simp [apOk]; omega)]; simp
  · rw [if_neg (by simp [hc]), if_neg hc]
/-! the best choice -/
theorem best_eq {rs : List record_Record} (h : ∀ r ∈ rs, RFit r) (hN : rs.length ≤ 1000) {P : List Nat} (hP : ∀ p ∈ P, p < rs.length) (hPl : P.length ≤ rs.length) (left : Int) :
    whileM (E := (List Int)) (fun s => rootcauseref27_Plan_L43 (rs.map mkItem) left (P.map Int.ofNat) s.1 s.2) (([] : List Int), 0) = some ((selL P (pickGo (P.map (sfOf rs)) left (P.length - 1))).map Int.ofNat) := by
  refine whileM_spec P.length (fun k => ((selL P (pickGo (P.map (sfOf rs)) left (k - 1))).map Int.ofNat, (k : Int))) rfl (by omega) (fun j hj => ?_) ?_
  · simp only [rootcauseref27_Plan_L43, List.length_map]
    rw [decide_eq_true (by omega), if_pos rfl, rspread_eq _ _ (by omega) (by omega), Option.bind_some, Int.toNat_natCast, Int.toNat_natCast, Nat.min_eq_right (by omega)]
    rw [spr_len, foldM_spec (s0 := ([] : List Int)) j (fun k => ((selL P j).take k).map Int.ofNat) rfl rfl (by omega) (fun k hk => ?_), Option.bind_some]
    · rw [List.take_of_length_le (by rw [selL_len]; omega)]
      unfold rootcauseref27_Plan_K49
      rw [total_eq h (selL_lt hP (by omega)) (by rw [selL_len]; omega), Option.bind_some, selL_sum (by omega)]
      unfold rootcauseref27_Plan_K47
      rw [wrap_i64 (by omega) (by omega), Nat.add_sub_cancel]
      cases j with
      | zero => split <;> rfl
      | succ j =>
        rw [pickGo, Nat.add_sub_cancel]
        by_cases hc : ssum (P.map (sfOf rs)) (j + 1) ≤ left
        · rw [decide_eq_true hc, if_pos rfl, if_pos hc]; rfl
        · rw [decide_eq_false hc, if_neg (by decide), if_neg hc]; rfl
    · simp only [rootcauseref27_Plan_L57]
      have hlt := sp_lt (n := P.length) (m := j) (i := k) hk (by omega)
      have hg : P[sp P.length j k]? = some (P.getD (sp P.length j k) 0) := by
        rw [List.getD_eq_getElem?_getD, List.getElem?_eq_getElem hlt]; rfl
      have hsg := selL_get (P := P) hk
      have hlt2 : k < (selL P j).length := by rw [selL_len]; exact hk
      have hse : (selL P j)[k] = P.getD (sp P.length j k) 0 := (List.getElem?_eq_some_iff.1 hsg).2
      rw [idx_some (spr_get hk), Option.bind_some, idx_ofNat hg, Option.bind_some, chk_pos (by simp [apOk]; omega), List.take_succ_eq_append_getElem hlt2, hse, List.map_append]
      rfl
  · simp only [rootcauseref27_Plan_L43, List.length_map]
    rw [decide_eq_false (by omega), if_neg (by decide)]
/-! marking -/
theorem rmark_eq {rs : List record_Record} (h : ∀ r ∈ rs, RFit r) (hN : rs.length ≤ 1000) {P : List Nat} {v : Nat} (hP : ∀ p ∈ P, p < rs.length) (hv : v ≤ P.length) (hPl : P.length ≤ rs.length) (g : Nat → Bool) {used : Int} (hu : 0 ≤ used ∧ used ≤ 4000000) :
    foldM' 9223372036854775807 (List.length ((selL P v).map Int.ofNat) : Int) (fun k29 s => rootcauseref27_Plan_L32 (rs.map mkItem) ((selL P v).map Int.ofNat) k29 s.1 s.2) ((List.range rs.length).map g, used) = some ((List.range rs.length).map (fun i => g i || selP P v v i), used + ssum (P.map (sfOf rs)) v) := by
  have e0 : ((List.range rs.length).map g, used) = ((List.range rs.length).map (fun i => g i || selP P v 0 i), used + psum (P.map (sfOf rs)) v 0) := by simp [selP_zero, psum_zero]
  have hs := sfOf_range h
  have hz : Szs (P.map (sfOf rs)) := by
    intro s hm
    rw [List.mem_map] at hm
    obtain ⟨p, hp, rfl⟩ := hm
    exact hs p (hP p hp)
  rw [e0, List.length_map, selL_len]
  refine foldM_spec v (fun j => ((List.range rs.length).map (fun i => g i || selP P v j i), used + psum (P.map (sfOf rs)) v j)) rfl rfl (by omega) (fun j hj => ?_)
  have hlt := sp_lt (n := P.length) (m := v) (i := j) hj (by omega)
  have hp : P.getD (sp P.length v j) 0 < rs.length := by
    rw [List.getD_eq_getElem?_getD, List.getElem?_eq_getElem hlt]; exact hP _ (List.getElem_mem hlt)
  have hps := psum_le hz (m := v) (by rw [List.length_map]; exact hv) j (by omega)
  have hsz := hs _ hp
  have hgd : (P.map (sfOf rs)).getD (sp (P.map (sfOf rs)).length v j) 0 = sfOf rs (P.getD (sp P.length v j) 0) := by
    rw [List.length_map, List.getD_eq_getElem?_getD, List.getElem?_map, List.getD_eq_getElem?_getD, List.getElem?_eq_getElem hlt]; rfl
  simp only [rootcauseref27_Plan_L32]
  rw [idx_ofNat (selL_get hj), Option.bind_some, psum_succ, hgd]
  generalize hpe : P.getD (sp P.length v j) 0 = p at *
  obtain ⟨it, i1, i2, i3⟩ := item_idx hp
  have i2 : ∃ b, idx ((List.range rs.length).map fun i => g i || selP P v j i) ((p : Nat) : Int) = some b := by
    rw [idx_nat, List.getElem?_map, List.getElem?_range hp]; exact ⟨_, rfl⟩
  obtain ⟨b, hb⟩ := i2
  rw [hb, Option.bind_some, i1, Option.bind_some, i3, Int.toNat_natCast, set_range, wrap_i64 (by omega) (by omega)]
  congr 2
  · congr 1
    funext i
    rw [selP_succ, hpe, Bool.or_assoc]
  · omega
theorem amark_eq {N : Nat} (hN : N ≤ 1000) {P : List Nat} (hP : ∀ p ∈ P, p < N) (hPl : P.length ≤ N) (g : Nat → Bool) :
    foldM' 9223372036854775807 (List.length (P.map Int.ofNat) : Int) (fun k74 s => rootcauseref27_Plan_L76 (P.map Int.ofNat) k74 s) ((List.range N).map g) = some ((List.range N).map (fun i => g i || selP P P.length P.length i)) := by
  have e0 : (List.range N).map g = (List.range N).map (fun i => g i || selP P P.length 0 i) := by simp [selP_zero]
  rw [e0, List.length_map]
  refine foldM_spec P.length (fun j => (List.range N).map (fun i => g i || selP P P.length j i)) rfl rfl (by omega) (fun j hj => ?_)
  have hg : P[j]? = some (P.getD (sp P.length P.length j) 0) := by
    rw [sp_full hj, List.getD_eq_getElem?_getD, List.getElem?_eq_getElem hj]; rfl
  have hp : P.getD (sp P.length P.length j) 0 < N := hP _ (List.mem_of_getElem? hg)
  simp only [rootcauseref27_Plan_L76]
  rw [idx_ofNat hg, Option.bind_some]
  generalize hpe : P.getD (sp P.length P.length j) 0 = p at *
  have i2 : ∃ b, idx ((List.range N).map fun i => g i || selP P P.length j i) ((p : Nat) : Int) = some b := by
    rw [idx_nat, List.getElem?_map, List.getElem?_range hp]; exact ⟨_, rfl⟩
  obtain ⟨b, hb⟩ := i2
  rw [hb, Option.bind_some, Int.toNat_natCast, set_range]
  congr 2
  funext i
  rw [selP_succ, hpe, Bool.or_assoc]
/-! the classes -/
theorem upd_zero {m : Int → Nat} {c : Int} (h : m c = 0) : updm m c 0 = m := by
  funext x
  unfold updm
  split
  · rename_i e; subst e; exact h.symm
  · rfl
theorem allo_at0 {cf sf : Nat → Int} {N : Nat} (hs : ∀ i, i < N → 1 ≤ sf i ∧ sf i ≤ 400) : ∀ (cs : List Int) (m : Int → Nat) (u : Int), (∀ c ∈ cs, m c = 0) → allo cf sf N cs m u 0 = (m, u)
  | [], m, u, _ => rfl
  | c :: cs, m, u, hm => by
    have hz : pick (szN cf sf N c) 0 = 0 := pick_zero (szN_szs hs c)
    unfold allo
    rw [hz, ssum_zero, upd_zero (hm c (List.mem_cons_self ..)), Int.add_zero, Int.sub_zero, allo_at0 hs cs m u fun x hx => hm x (List.mem_cons_of_mem _ hx)]
    split <;> rfl
theorem rclasses_eq {rs : List record_Record} (h : ∀ r ∈ rs, RFit r) (hN : rs.length ≤ 1000) : ∀ (n k : Nat) (m : Int → Nat) (used left : Int) (whole : Bool), n + k = 5 → (∀ c ∈ ([1, 2, 3, 4, 0] : List Int).drop k, m c = 0) → 0 ≤ used → used ≤ 400000 + 400000 * (k : Int) → -9000000000000000000 ≤ left → left ≤ 9223372036854775807 →
    (foldGo (fun k8 s => rootcauseref27_Plan_L13 (rs.map mkItem) k8 s.1 s.2.1 s.2.2.1 s.2.2.2) n k (keepL (cfOf rs) rs.length m, used, left, whole)).bind (fun s => rootcauseref27_Plan_K7 s.1 s.2.1) =
      (if whole = true then some (keepL (cfOf rs) rs.length (allo (cfOf rs) (sfOf rs) rs.length (([1, 2, 3, 4, 0] : List Int).drop k) m used (max left 0)).1, (allo (cfOf rs) (sfOf rs) rs.length (([1, 2, 3, 4, 0] : List Int).drop k) m used (max left 0)).2) else some (keepL (cfOf rs) rs.length m, used))
  | 0, k, m, used, left, whole, hk, _, _, _, _, _ => by
    have : k = 5 := by omega
    subst this
    split <;> rfl
  | n + 1, k, m, used, left, whole, hk, hm, h1, h2, h3, h4 => by
    obtain ⟨c, hc1, hc2, hc3⟩ : ∃ c, ([1, 2, 3, 4, 0] : List Int).drop k = c :: ([1, 2, 3, 4, 0] : List Int).drop (k + 1) ∧ 0 ≤ c ∧ idx ([1, 2, 3, 4, 0] : List Int) (k : Int) = some c := by
      have : k = 0 ∨ k = 1 ∨ k = 2 ∨ k = 3 ∨ k = 4 := by omega
      rcases this with rfl | rfl | rfl | rfl | rfl <;> exact ⟨_, rfl, by decide, rfl⟩
    have hs := sfOf_range h
    have hmc : m c = 0 := hm c (by rw [hc1]; simp)
    have hz := szN_szs (cf := cfOf rs) hs c
    have hsl := szN_len (cfOf rs) (sfOf rs) rs.length c
    have hpl := posN_len (cfOf rs) rs.length c
    have hP : ∀ p ∈ posN (cfOf rs) rs.length c, p < rs.length := fun p hp => (mem_posN.1 hp).1
    have hfull := ssum_range hz (m := (posN (cfOf rs) rs.length c).length) (by rw [hsl]; omega)
    have hnd : ∀ c' ∈ ([1, 2, 3, 4, 0] : List Int).drop (k + 1), c' ≠ c := by
      have : k = 0 ∨ k = 1 ∨ k = 2 ∨ k = 3 ∨ k = 4 := by omega
      rcases this with rfl | rfl | rfl | rfl | rfl <;> (injection hc1 with hc1 _; subst hc1; decide)
    have hm' : ∀ v, ∀ c' ∈ ([1, 2, 3, 4, 0] : List Int).drop (k + 1), updm m c v c' = 0 := fun v c' hc' => by
      unfold updm
      rw [if_neg (hnd c' hc')]
      exact hm c' (by rw [hc1]; exact List.mem_cons_of_mem _ hc')
    have hkeep : ∀ v, v ≤ (posN (cfOf rs) rs.length c).length → (List.range rs.length).map (fun i => kp (cfOf rs) rs.length m i || selP (posN (cfOf rs) rs.length c) v v i) = keepL (cfOf rs) rs.length (updm m c v) := fun v hv => by
      unfold keepL
      congr 1
      funext i
      exact kp_upd hc2 hmc hv i
    unfold foldGo
    have hbody : rootcauseref27_Plan_L13 (rs.map mkItem) k (keepL (cfOf rs) rs.length m) used left whole = rootcauseref27_Plan_K24 (rs.map mkItem) (keepL (cfOf rs) rs.length m) used left whole ((posN (cfOf rs) rs.length c).map Int.ofNat) := by
      unfold rootcauseref27_Plan_L13
      rw [hc3, Option.bind_some, pos_eq hN, Option.bind_some]
    rw [hbody]
    unfold rootcauseref27_Plan_K24
    cases whole with
    | false =>
      rw [if_pos (show (!false) = true from rfl)]
      unfold rootcauseref27_Plan_K20
      rw [Option.bind_some, rclasses_eq h hN n (k + 1) m used left false (by omega) (fun c' hc' => hm c' (by rw [hc1]; exact List.mem_cons_of_mem _ hc')) (by omega) (by push_cast; omega) (by omega) (by omega), if_neg (by decide), if_neg (by decide)]
    | true =>
      rw [if_neg (by decide), if_pos rfl, total_eq h hP (by omega), Option.bind_some, full_sum]
      have hszn : (posN (cfOf rs) rs.length c).map (sfOf rs) = szN (cfOf rs) (sfOf rs) rs.length c := rfl
      rw [hszn]
      by_cases hc : ssum (szN (cfOf rs) (sfOf rs) rs.length c) (posN (cfOf rs) rs.length c).length ≤ left
      · have hl0 : 0 ≤ left := by omega
        have hpick : pick (szN (cfOf rs) (sfOf rs) rs.length c) (max left 0) = (posN (cfOf rs) rs.length c).length := by
          have a1 := pick_max (szN (cfOf rs) (sfOf rs) rs.length c) (left := max left 0) (j := (posN (cfOf rs) rs.length c).length) (by rw [hsl]; omega) (by omega)
          have a2 := pick_le (szN (cfOf rs) (sfOf rs) rs.length c) (max left 0)
          omega
        rw [decide_eq_true hc, if_pos rfl, keepL, amark_eq hN hP hpl, Option.bind_some, hkeep _ (Nat.le_refl _)]
        unfold rootcauseref27_Plan_K69
        rw [total_eq h hP (by omega), Option.bind_some, Option.bind_some, full_sum, hszn, wrap_i64 (by omega) (by omega), wrap_i64 (by omega) (by omega)]
        unfold rootcauseref27_Plan_K20
        rw [Option.bind_some, rclasses_eq h hN n (k + 1) _ _ _ true (by omega) (hm' _) (by omega) (by push_cast; omega) (by omega) (by omega), if_pos rfl, hc1, allo, hpick, if_neg (by omega)]
        rw [show max (left - ssum (szN (cfOf rs) (sfOf rs) rs.length c) (posN (cfOf rs) rs.length c).length) 0 = max left 0 - ssum (szN (cfOf rs) (sfOf rs) rs.length c) (posN (cfOf rs) rs.length c).length by omega]
      · rw [decide_eq_false hc, if_neg (by decide)]
        unfold rootcauseref27_Plan_K26
        rw [best_eq h hN hP hpl, Option.bind_some, hszn]
        unfold rootcauseref27_Plan_K28
        have hpg := pickGo_le (szN (cfOf rs) (sfOf rs) rs.length c) left ((posN (cfOf rs) rs.length c).length - 1)
        have hvr := ssum_range hz (m := pickGo (szN (cfOf rs) (sfOf rs) rs.length c) left ((posN (cfOf rs) rs.length c).length - 1)) (by omega)
        rw [keepL, rmark_eq h hN hP (by omega) hpl _ ⟨h1, by omega⟩, Option.bind_some, hkeep _ (by omega), hszn]
        unfold rootcauseref27_Plan_K20
        simp only [Option.bind_some]
        have hmm : ∀ c' ∈ ([1, 2, 3, 4, 0] : List Int).drop (k + 1), updm m c (pickGo (szN (cfOf rs) (sfOf rs) rs.length c) left ((posN (cfOf rs) rs.length c).length - 1)) c' = 0 := hm' _
        rw [rclasses_eq h hN n (k + 1) _ _ left false (by omega) hmm (by omega) (by push_cast; omega) (by omega) (by omega), if_neg (by decide)]
        by_cases hl0 : 0 ≤ left
        · rw [show max left 0 = left by omega]
          have hn0 : 0 < (posN (cfOf rs) rs.length c).length := by
            rcases Nat.eq_zero_or_pos (posN (cfOf rs) rs.length c).length with e | e
            · rw [e, ssum_zero] at hc; omega
            · exact e
          have hpick : pick (szN (cfOf rs) (sfOf rs) rs.length c) left = pickGo (szN (cfOf rs) (sfOf rs) rs.length c) left ((posN (cfOf rs) rs.length c).length - 1) := by
            unfold pick
            rw [hsl]
            obtain ⟨q, hq⟩ : ∃ q, (posN (cfOf rs) rs.length c).length = q + 1 := ⟨_, (Nat.succ_pred_eq_of_pos hn0).symm⟩
            rw [hq] at hc ⊢
            rw [pickGo, if_neg hc, Nat.add_sub_cancel]
          rw [hc1, allo, hpick, if_pos (by omega)]
        · rw [show max left 0 = 0 by omega, allo_at0 hs _ m used hm]
          have hp0 : ∀ j, j ≤ (posN (cfOf rs) rs.length c).length → pickGo (szN (cfOf rs) (sfOf rs) rs.length c) left j = 0 := by
            intro j
            induction j with
            | zero => intro _; rfl
            | succ j ih =>
              intro hj
              have := (ssum_range hz (m := j + 1) (by omega)).1
              rw [pickGo, if_neg (by omega)]; exact ih (by omega)
          rw [hp0 _ (by omega), upd_zero hmc, ssum_zero, Int.add_zero]
theorem rfirst_eq {rs : List record_Record} (h : ∀ r ∈ rs, RFit r) (hN : rs.length ≤ 1000) :
    foldM' 9223372036854775807 (List.length (rs.map mkItem) : Int) (fun k92 s => rootcauseref27_Plan_L95 (rs.map mkItem) k92 s.1 s.2) ((List.replicate (Int.toNat (List.length (rs.map mkItem) : Int)) false), 0) = some (keepK (cfOf rs) rs.length rs.length, usedN (cfOf rs) (sfOf rs) rs.length) := by
  have hsr := sfOf_range h
  rw [List.length_map]
  refine foldM_spec rs.length (fun k => (keepK (cfOf rs) rs.length k, usedN (cfOf rs) (sfOf rs) k)) ?_ rfl (by omega) (fun j hj => ?_)
  · have : keepK (cfOf rs) rs.length 0 = List.replicate rs.length false := by
      unfold keepK
      apply List.ext_getElem
      · simp
      · intro i h1 h2; simp
    rw [this, Int.toNat_natCast]; rfl
  · obtain ⟨it, i1, i2, i3⟩ := item_idx hj
    have hu := usedN_range (cf := cfOf rs) hsr j (by omega)
    have hs1 := hsr j hj
    simp only [rootcauseref27_Plan_L95]
    rw [i1, Option.bind_some, i2, i3, usedN_succ]
    by_cases hc : cfOf rs j < 0
    · rw [decide_eq_true hc, if_pos rfl, if_pos hc]
      have hset : (keepK (cfOf rs) rs.length j).set j true = keepK (cfOf rs) rs.length (j + 1) := by
        unfold keepK
        rw [set_range]
        apply List.map_congr_left
        intro i hi
        by_cases hij : j = i
        · subst hij
          have : decide (cfOf rs j < 0) = true := decide_eq_true hc
          simp [this]
        · have e2 : (j == i) = false := by simp [hij]
          have : decide (i < j + 1) = decide (i < j) := by rw [decide_eq_decide]; omega
          rw [this, e2, Bool.or_false]
      have hi : ∃ b, idx (keepK (cfOf rs) rs.length j) (j : Int) = some b := by
        unfold keepK
        rw [idx_nat, List.getElem?_map, List.getElem?_range hj]; exact ⟨_, rfl⟩
      obtain ⟨b, hb⟩ := hi
      rw [hb, Option.bind_some, Int.toNat_natCast, hset, wrap_i64 (by omega) (by omega)]
    · rw [decide_eq_false hc, if_neg (by decide), if_neg hc, Int.add_zero]
      have hk : keepK (cfOf rs) rs.length (j + 1) = keepK (cfOf rs) rs.length j := by
        unfold keepK
        apply List.map_congr_left
        intro i hi
        by_cases hij : i = j
        · subst hij
          have : decide (cfOf rs i < 0) = false := decide_eq_false hc
          rw [this, Bool.and_false, Bool.and_false]
        · have : decide (i < j + 1) = decide (i < j) := by rw [decide_eq_decide]; omega
          rw [this]
      rw [hk]
theorem rplan_eq {rs : List record_Record} (h : ∀ r ∈ rs, RFit r) (hN : rs.length ≤ 1000) {x : Int} (hx : -9223372036854775808 ≤ x ∧ x ≤ 9223372036854775807) :
    rootcauseref27_Plan (rs.map mkItem) x = some (keepL (cfOf rs) rs.length (planM (cfOf rs) (sfOf rs) rs.length x).1, (planM (cfOf rs) (sfOf rs) rs.length x).2) := by
  have hu := usedN_range (cf := cfOf rs) (sfOf_range h) rs.length (Nat.le_refl _)
  unfold rootcauseref27_Plan
  rw [chk_pos (by unfold mkOk; simp; omega), rfirst_eq h hN, Option.bind_some]
  simp only [rootcauseref27_Plan_K4]
  rw [keepK_end]
  have hmx : (if 0 > x then 0 else x) = max x 0 := by split <;> omega
  rw [hmx, wrap_i64 (by omega) (by omega)]
  unfold foldM'
  rw [chk_pos (by decide)]
  have := rclasses_eq h hN 5 0 (fun _ => 0) (usedN (cfOf rs) (sfOf rs) rs.length) (max x 0 - usedN (cfOf rs) (sfOf rs) rs.length) true rfl (fun _ _ => rfl) hu.1 (by omega) (by omega) (by omega)
  rw [if_pos rfl, ← left0_eq] at this
  exact this
theorem plans_law {x : List rootcauselaw27_Raw} {b : Int} (hx : ∀ r ∈ x, RawT r) (hl : x.length ≤ 9223372036854775807) (hb : -9223372036854775808 ≤ b ∧ b ≤ 9223372036854775807) : rootcauselaw27_BudgetPlans x b = some true := by
  obtain ⟨⟨rs, its⟩, h1, h2⟩ := recs_eq hx hl
  have hits := h2.its
  have hlen := h2.len
  have hfit := h2.fit
  simp only at hits hlen hfit
  subst hits
  unfold rootcauselaw27_BudgetPlans
  rw [awake27, Option.bind_some, if_neg (by decide), h1, Option.bind_some]
  simp only [plan_eq hfit (by omega) hb, rplan_eq hfit (by omega) hb, Option.bind_some]
  rw [if_neg (by simp), keepL_len, forM_next (E := Bool) (s0 := ()) rs.length (fun k => ()) rfl rfl (by omega) (fun j hj => ?_)]
  · rfl
  · simp only [rootcauselaw27_BudgetPlans_L13]
    rw [keepL_idx hj, Option.bind_some, Option.bind_some]
    simp
end Go.Proofs.Ytkadjbpmnpcfhaa

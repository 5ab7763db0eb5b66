/-
  slices.SortFunc on runs of numbers: what the library's sort makes of them.
-/
import Derived.Test.YtepkcbalmjnhpaaGreatHCo
import Derived.Test.YtepkcbalmjnhpaaGreatSpL
set_option maxRecDepth 100000
set_option maxHeartbeats 1000000
set_option linter.unusedVariables false
set_option linter.unusedSimpArgs false
namespace Go.Proofs.YtepkcbalmjnhpaaGreat
open Go.Shelf Go.RowKit Go.Sort
def spanCmp (x y : collect_span) : Int := if x.gfrom < y.gfrom then -1 else if y.gfrom < x.gfrom then 1 else 0
def spanEnc (x : collect_span) : List Value := [.int .u64 x.gfrom, .int .u64 x.gto]
instance : Inhabited collect_span := ⟨⟨0, 0⟩⟩
def spanPdq (xs : List collect_span) : List collect_span := (pdq (ltOf spanCmp) xs.toArray 0 xs.toArray.size (Lib.bitLen xs.toArray.size) true true).toList
def spanSort (xs : List collect_span) : Option (List collect_span) := chk (xs.length < 4611686018427387904) (some (spanPdq xs))
theorem span_lt (x y : collect_span) : ltOf spanCmp x y = decide (x.gfrom < y.gfrom) := by
  unfold ltOf spanCmp
  by_cases h1 : x.gfrom < y.gfrom
  · simp [h1]
  · by_cases h2 : y.gfrom < x.gfrom <;> simp [h1, h2]
theorem span_swo : SWO (ltOf spanCmp) where
  irrefl x := by rw [span_lt]; simp
  trans x y z h1 h2 := by rw [span_lt] at *; simp at *; omega
  ntrans x y z h1 h2 := by rw [span_lt] at *; simp at *; omega
theorem span_closure (x y : collect_span) (W : World) : Calls Tryz.prog 160 #[.agg #[.int .u64 x.gfrom, .int .u64 x.gto], .agg #[.int .u64 y.gfrom, .int .u64 y.gto]] W fun e w' => e = .returned (.int .i64 (spanCmp x y)) ∧ ∃ q os', w' = grow (W.drewN q) os' := by
  have hc := Lib.hid (show spanCmp x y = if x.gfrom < y.gfrom then -1 else if y.gfrom < x.gfrom then 1 else 0 from rfl)
  generalize spanCmp x y = r at hc ⊢
  obtain ⟨a, b⟩ := x
  obtain ⟨c, d⟩ := y
  dsimp only at hc ⊢
  by_cases h1 : a < c
  · have hr : r = -1 := by rw [hc.out, if_pos h1]
    subst hr
    clear hc
    go_enter Tryz.func160, Tryz.ntmps160
    go_wp2
    go_ret
    exact ⟨rfl, 0, _, by rw [alloc_eq_grow, alloc_eq_grow, grow_grow]; rfl⟩
  · by_cases h2 : c < a
    · have hr : r = 1 := by rw [hc.out, if_neg h1, if_pos h2]
      subst hr
      clear hc
      have h3 : a > c := h2
      go_enter Tryz.func160, Tryz.ntmps160
      go_wp2
      go_ret
      exact ⟨rfl, 0, _, by rw [alloc_eq_grow, alloc_eq_grow, grow_grow]; rfl⟩
    · have hr : r = 0 := by rw [hc.out, if_neg h1, if_neg h2]
      subst hr
      clear hc
      have h3 : ¬ a > c := h2
      go_enter Tryz.func160, Tryz.ntmps160
      go_wp2
      go_ret
      exact ⟨rfl, 0, _, by rw [alloc_eq_grow, alloc_eq_grow, grow_grow]; rfl⟩
theorem flatK_list {α : Type} [Inhabited α] (enc : α → List Value) (k : Nat) (hk : ∀ x, (enc x).length = k) (h0 : 0 < k) : ∀ xs : List α, (flatK enc k xs.toArray).toList = xs.flatMap enc := by
  have get : ∀ (xs : List α) (t : Nat), t < xs.length * k → (xs.flatMap enc)[t]? = some ((enc xs[t / k]!)[t % k]!) := by
    intro xs
    induction xs with
    | nil => intro t h; simp at h
    | cons x xs ih =>
      intro t h
      rw [List.flatMap_cons, List.getElem?_append, hk]
      by_cases ht : t < k
      · rw [if_pos ht, Nat.div_eq_of_lt ht, Nat.mod_eq_of_lt ht]
        have hl : t < (enc x).length := by rw [hk]; exact ht
        simp [List.getElem?_eq_getElem hl, getElem!_pos, hl]
      · rw [if_neg ht]
        have hge : k ≤ t := Nat.le_of_not_lt ht
        have hlt : t - k < xs.length * k := by simp only [List.length_cons, Nat.succ_mul] at h; omega
        rw [ih (t - k) hlt]
        have hd : t / k = (t - k) / k + 1 := by
          have : t = (t - k) + k := by omega
          conv => lhs; rw [this]
          exact Nat.add_div_right _ h0
        have hm : t % k = (t - k) % k := by
          have : t = (t - k) + k := by omega
          conv => lhs; rw [this]
          exact Nat.add_mod_right _ _
        rw [hd, hm]
        simp
  intro xs
  apply List.ext_getElem?
  intro t
  by_cases h : t < xs.length * k
  · rw [get xs t h]
    have hs : t < (flatK enc k xs.toArray).size := by simpa using h
    have := get_flatK enc k xs.toArray t (by simpa using h)
    rw [getElem!_pos (flatK enc k xs.toArray) t hs] at this
    rw [Array.getElem?_toList, Array.getElem?_eq_getElem hs, this]
    simp
  · have hl : (xs.flatMap enc).length = xs.length * k := by
      clear h get
      induction xs with
      | nil => simp
      | cons x xs ih => rw [List.flatMap_cons, List.length_append, ih, hk, List.length_cons, Nat.succ_mul]; omega
    rw [List.getElem?_eq_none (l := xs.flatMap enc) (by rw [hl]; omega), List.getElem?_eq_none (l := (flatK enc k xs.toArray).toList) (by simp; omega)]
/-- the world behind a sort -/
theorem sortW_heap {α : Type} [Inhabited α] (enc : α → List Value) (k : Nat) {w : World} {b m : Nat} {d : Array α} {os : Array Obj} {cur : Array Value} {E : TypeId} (hb : w.heap[b]? = some (.cells cur E (0, 0))) (hd : d.size * k ≤ cur.size) :
    (∃ cur', (sortWorldK enc k w b 0 m d os).heap[b]? = some (.cells cur' E (0, 0)) ∧ cur'.size = cur.size ∧ cur'.toList.take (d.size * k) = (flatK enc k d).toList) ∧ Stp w (sortWorldK enc k w b 0 m d os) (some b) := by
  have hlt := (Array.getElem?_eq_some_iff.1 hb).1
  have hput : (putRowK enc k (Sort.ahead w m) b 0 d).heap[b]? = some (.cells (putCells id 0 (flatK enc k d) cur) E (0, 0)) := by
    simp [putRowK, putRow, mapBlock, Sort.ahead, Array.getElem?_modify, hb, onCells]
  have hsz : (putRowK enc k (Sort.ahead w m) b 0 d).heap.size = w.heap.size := by simp [putRowK, putRow, mapBlock, Sort.ahead]
  refine ⟨⟨putCells id 0 (flatK enc k d) cur, ?_, by simp [putCells], ?_⟩, ⟨rfl, rfl, rfl, ?_, fun j hj hne => ?_⟩⟩
  · have : b < (putRowK enc k (Sort.ahead w m) b 0 d).heap.size := by rw [hsz]; exact hlt
    simp only [sortWorldK, grow]
    rw [Array.getElem?_append_left this]; exact hput
  · apply List.ext_getElem?
    intro t
    rw [List.getElem?_take]
    by_cases ht : t < d.size * k
    · rw [if_pos ht]
      have h1 : t < (flatK enc k d).size := by simpa using ht
      have h2 : t < cur.size := by omega
      simp only [putCells, Array.getElem?_toList, Array.getElem?_mapIdx, Array.getElem?_eq_getElem h2, Array.getElem?_eq_getElem h1, Option.map_some, Nat.zero_le, true_and, Nat.zero_add, h1, if_true, Nat.sub_zero, id]
      rw [getElem!_pos (flatK enc k d) t h1]
    · rw [if_neg ht, List.getElem?_eq_none (by simp; omega)]
  · simp only [sortWorldK, grow, Array.size_append]; rw [hsz]; omega
  · have : j < (putRowK enc k (Sort.ahead w m) b 0 d).heap.size := by rw [hsz]; exact hj
    have hne' : b ≠ j := fun e => hne (by rw [e])
    simp only [sortWorldK, grow]
    rw [Array.getElem?_append_left this]
    simp [putRowK, putRow, mapBlock, Sort.ahead, Array.getElem?_modify, hne']
theorem sort_bridge {P : Program} {α : Type} [Inhabited α] (enc : α → List Value) (dv : α → DV) (k : Nat) (E : TypeId) (fn g : FuncId) (sortF : List α → List α) (hlen : ∀ x, (enc x).length = k) (hk0 : 0 < k)
    (hE : ∀ (F : FMap) (xs : List α) (cs : List Value), RsE F k (xs.map dv) cs ↔ cs = xs.flatMap enc)
    (hcall : ∀ (blk cap : Nat) (d : Array α) (w : World), HoldsK enc k w blk 0 d → blk < w.heap.size → d.size < 4611686018427387904 →
      Calls P fn #[.slice (some ⟨blk, 0, none⟩) d.size cap, .func (.func g) #[] #[]] w fun e w' => e = .returned (.tuple #[]) ∧ ∃ n os, w' = sortWorldK enc k w blk 0 n (sortF d.toList).toArray os)
    (hnone : ∀ (p : Option Addr) (cap : Nat) (fv : Value) (w : World), Calls P fn #[.slice p 0 cap, fv] w fun e w' => e = .returned (.tuple #[]) ∧ w' = w)
    (hsl : ∀ xs, (sortF xs).length = xs.length) (xs : List α) (hx : xs.length < 4611686018427387904) :
    ACall P fn ⟨[.row 100000, .val (.func (.func g) #[] #[])], [(100000, some (.row E k (xs.map dv)))], .tup [], [(100000, some (.row E k ((sortF xs).map dv)))], []⟩ := by
  intro C F γ heap used w vs f hpre hnew hinj H hv
  have he : hget heap (f 100000) = some (.row E k (xs.map dv)) := hpre 100000 (.row E k (xs.map dv)) rfl
  obtain ⟨gv, hg, cs, hown, hcs⟩ := H.ent _ _ he
  simp only [renL, DV.ren, RsT, Rs] at hv
  obtain ⟨v1, r1, rfl, k1, v2, r2, rfl, rfl, rfl⟩ := hv
  rw [hg] at k1; injection k1 with k1; subst k1
  rw [hE] at hcs
  rw [List.length_map] at hown
  have keep : ∀ (w' : World), Stp w w' none → xs = [] → ∃ v F' γ', Ending.returned (.tuple #[]) = .returned v ∧ FLe F F' ∧ GLe γ γ' ∧ WS C F' γ' (renH f [(100000, some (.row E k ((sortF xs).map dv)))] ++ heap) (List.map f [] ++ used) w' ∧ Rs F' γ' (DV.ren f (.tup [])) v := by
    intro w' S h0
    have h1 : sortF xs = [] := List.eq_nil_of_length_eq_zero (by rw [hsl, h0]; rfl)
    refine ⟨_, F, γ, rfl, FLe.refl _, GLe.refl _, (H.quiet S).congr (fun i e hi => ?_) (fun _ h => h), by simp [DV.ren, renL, Rs, RsT]⟩
    simp only [renH, List.map_cons, List.map_nil, List.cons_append, List.nil_append, Option.map_some, HE.ren] at hi
    rw [hget_cons] at hi
    split at hi
    · rename_i e1; subst e1; rw [he, ← hi, h1, h0]
    · exact hi
  by_cases hxe : xs = []
  · have hgn : ∃ p cap, gv = .slice p 0 cap := by
      rcases hown.2 with ⟨q, _⟩ | ⟨b, cap, cur, q, _⟩
      · exact ⟨none, 0, q⟩
      · rw [hxe] at q; exact ⟨_, cap, q⟩
    obtain ⟨p, cap, rfl⟩ := hgn
    refine (hnone p cap _ w).mono ?_
    rintro e w' ⟨rfl, rfl⟩
    exact keep _ (Stp.refl _) hxe
  · rcases hown.2 with ⟨_, q⟩ | ⟨b, cap, cur, rfl, q1, q2, q3, q4, q5, q6⟩
    · exact absurd (List.eq_nil_of_length_eq_zero q) hxe
    · have hfl := flatK_list enc k hlen hk0
      have hcl : cs.length = xs.length * k := hown.1
      have hH : HoldsK enc k w b 0 xs.toArray := by
        intro j hj
        have hj' : j < xs.length * k := by simpa using hj
        have hjc : j < cur.size := by
          rw [q5]; exact Nat.lt_of_lt_of_le hj' (Nat.mul_le_mul_right _ q3)
        have e1 : (flatK enc k xs.toArray)[j]! = cur[j] := by
          have a1 : (flatK enc k xs.toArray).toList[j]? = some (flatK enc k xs.toArray)[j]! := by
            rw [Array.getElem?_toList, Array.getElem?_eq_getElem hj, getElem!_pos (flatK enc k xs.toArray) j hj]
          rw [hfl, ← hcs, ← q6, List.getElem?_take, if_pos hj', Array.getElem?_toList, Array.getElem?_eq_getElem hjc] at a1
          exact (Option.some.inj a1).symm
        refine ⟨?_, ?_⟩
        · simp only [World.cell?, q2, Nat.zero_add, id, e1]
          simp [hjc]
        · simp [World.frozen?, q2]
      have hlt : b < w.heap.size := (Array.getElem?_eq_some_iff.1 q2).1
      have := hcall b cap xs.toArray w hH hlt (by simpa using hx)
      simp only [List.size_toArray] at this
      refine this.mono ?_
      rintro e w' ⟨rfl, m, os, rfl⟩
      have hd : (sortF xs).toArray.size * k ≤ cur.size := by
        simp only [List.size_toArray, hsl]; rw [q5]; exact Nat.mul_le_mul_right _ q3
      obtain ⟨⟨cur', c1, c2, c3⟩, S⟩ := sortW_heap enc k (m := m) (os := os) q2 hd
      refine ⟨_, F, γ, rfl, FLe.refl _, GLe.refl _, ?_, by simp [DV.ren, renL, Rs, RsT]⟩
      have hT := H.turn he hg (by simpa [Value.pblk] using S)
      have hP := hT.put (e0 := .row E k ((sortF xs).map dv)) hg ⟨(sortF xs).flatMap enc, ?_, (hE _ _ _).2 rfl⟩ (fun b' hb' => ?_)
      · refine hP.congr (fun i e hi => ?_) (fun _ h => h)
        simp only [renH, List.map_cons, List.map_nil, List.cons_append, List.nil_append, Option.map_some, HE.ren] at hi
        rw [hget_cons] at hi ⊢
        split at hi
        · rename_i e1; rw [if_pos e1]; exact hi
        · rename_i e1; rw [if_neg e1, hget_cons, if_neg e1]; exact hi
      · have hfl2 : ((sortF xs).flatMap enc).length = (sortF xs).length * k := by
          rw [← hfl]; simp
        refine ⟨by rw [List.length_map]; exact hfl2, .inr ⟨b, cap, cur', ?_, Nat.zero_le _, c1, ?_, q4, by rw [c2, q5], ?_⟩⟩
        · rw [List.length_map, hsl]
        · rw [List.length_map, hsl]; exact q3
        · rw [List.length_map, ← hfl, ← c3]; simp
      · have q := H.own _ _ _ b' he hg hb'
        refine ⟨q.1, q.2, fun id' e' g' hne hh2 hg' hb'' => ?_⟩
        rw [hget_cons] at hh2
        split at hh2
        · cases hh2
        · exact hne (H.apart id' _ e' _ g' _ b' hh2 he hg' hg hb'' hb')
theorem span_rsE (F : FMap) : ∀ (xs : List collect_span) (cs : List Value), RsE F 2 (xs.map collect_span.dv) cs ↔ cs = xs.flatMap spanEnc
  | [], cs => by simp [RsE]
  | x :: xs, cs => by
    simp only [List.map_cons, RsE, List.flatMap_cons, span_rsE F xs]
    constructor
    · rintro ⟨v, rest, rfl, h1, h2, h3, rfl⟩
      congr 1
      simp only [collect_span.dv, collect_span.cs, Rs, RsL] at h3
      obtain ⟨cs, rfl, v1, r1, e1, _, rfl, v2, r2, rfl, _, rfl, rfl⟩ := h3
      simpa [Value.cells, spanEnc] using e1
    · rintro rfl
      exact ⟨.agg #[.int .u64 x.gfrom, .int .u64 x.gto], _, rfl, rfl, by simp [Value.cells, Value.oneCell'], by
        simp only [collect_span.dv, collect_span.cs, Rs, RsL]
        exact ⟨_, rfl, _, _, rfl, rfl, rfl, _, _, rfl, rfl, rfl, rfl⟩, rfl⟩
theorem spanPdq_spec (xs : List collect_span) : PermIn 0 xs.toArray.size xs.toArray (spanPdq xs).toArray ∧ SortedIn (ltOf spanCmp) 0 xs.toArray.size (spanPdq xs).toArray := by
  have h := pdq_sorts (ltOf spanCmp) span_swo xs.toArray 0 xs.toArray.size (Lib.bitLen xs.toArray.size) true true (Nat.zero_le _) (Nat.le_refl _) (Or.inl rfl)
  simpa [spanPdq] using h
theorem spanPdq_len (xs : List collect_span) : (spanPdq xs).length = xs.length := by
  have := (spanPdq_spec xs).1.1
  simpa using this
theorem spanSort_c {x r : List collect_span} (hM : spanSort x = some r) : ACall Tryz.prog 159 ⟨[.row 100000, .val (.func (.func 160) #[] #[])], [(100000, some (.row 146 2 (List.map collect_span.dv x)))], .tup [], [(100000, some (.row 146 2 (List.map collect_span.dv r)))], []⟩ := by
  obtain ⟨h, hM⟩ := of_chk hM
  obtain rfl := Option.some.inj hM
  refine sort_bridge spanEnc collect_span.dv 2 _ _ _ spanPdq (fun _ => rfl) (by decide) span_rsE (fun blk cap d w hH hlt hsz => ?_) (fun p cap fv w => ?_) spanPdq_len x h
  · have eg : ∀ args w, (callFunc 160 args).run Tryz.prog w = .ok (.enter 160 args) w := enters_of Tryz.func160 (by kernel_rfl) rfl
    have aE : ∀ w, (isAgg 146).run Tryz.prog w = .ok true w := fun w => by simp [isAgg, run_underlying Tryz.underlying146]
    have zE : ∀ w, (Go.sizeOf 146).run Tryz.prog w = .ok 2 w := fun w => by
      have : (Tryz.prog.info? 146).map (·.size) = some 2 := by kernel_rfl
      cases hi : Tryz.prog.info? 146 with
      | none => rw [hi] at this; cases this
      | some i => rw [hi] at this; injection this with this; simp [Go.sizeOf, typeInfo, hi, this]
    have hcon := AnyQ.slices_SortFunc_eq Tryz.sortSpan 2 aE zE spanEnc (fun _ => rfl) (fun x v hv => by simp [spanEnc] at hv; rcases hv with rfl | rfl <;> rfl) spanCmp span_swo 160 #[] blk 0 cap d w eg (fun _ _ _ _ x y => span_closure x y _) hH hlt hsz
    change Calls Tryz.prog 159 _ _ _ at hcon
    refine hcon.mono ?_
    rintro e w' ⟨rfl, n, os, rfl⟩
    exact ⟨rfl, n, os, by simp [spanPdq]⟩
  · have := AnyF.slices_SortFunc_none Tryz.sortSpan p cap fv w
    exact this
end Go.Proofs.YtepkcbalmjnhpaaGreat

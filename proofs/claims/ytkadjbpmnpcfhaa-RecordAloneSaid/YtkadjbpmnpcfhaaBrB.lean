/-
  Bridges: the contracts of record and of the reference 24 for the engine.
-/
import Derived.Test.YtkadjbpmnpcfhaaRdD
import Derived.Test.YtkadjbpmnpcfhaaLawE
import Derived.Test.YtkadjbpmnpcfhaaSame
import Derived.Test.YtkadjbpmnpcfhaaInj
set_option maxRecDepth 100000
set_option linter.unusedVariables false
set_option linter.unusedSimpArgs false
namespace Go.Proofs.Ytkadjbpmnpcfhaa
open Go.RowKit
def recD (r : Re) : List DV := (.int .i64 r.comp :: .int .u64 r.seq :: clkD r.clk) ++ (.int .u8 r.what :: evD r.ev) ++ [.int .u64 r.count]
def rrD (x : RR) : List DV := [.int .u8 x.what, .int .i64 x.comp, .int .u64 x.seq, .int .u64 x.count, .sl 1 (x.clock.map (.int .u64))] ++ evD x.ev
def isInt : DV → Bool
  | .int _ _ => true
  | _ => false
theorem RsL_sc {F : FMap} {γ : Gam} : ∀ {ds : List DV} {vs : List Value}, (ds.all isInt) = true → RsL F γ ds vs → vs = ds.map DV.scal
  | [], vs, _, h => by simp only [RsL] at h; rw [h]; rfl
  | d :: ds, vs, hi, h => by
    simp only [List.all_cons, Bool.and_eq_true] at hi
    simp only [RsL] at h
    obtain ⟨v, rest, rfl, _, h1, h2⟩ := h
    cases d with
    | int k n =>
      simp only [Rs] at h1
      rw [h1, RsL_sc hi.2 h2]; rfl
    | _ => exact absurd hi.1 (by simp [isInt])
/-- cells, of which one is a slice of numbers -/
theorem RsL_sl {F : FMap} {γ : Gam} {w : World} (hF : FSat F w) {a b : List DV} {k : IntKind} {xs : List Int} {vs : List Value} (ha : (a.all isInt) = true) (h : RsL F γ (a ++ .sl 1 (xs.map (.int k)) :: b) vs) :
    ∃ A c rest, vs = a.map DV.scal ++ .slice A xs.length c :: rest ∧ SlOk A xs.length c ∧ At w A (xs.map (Value.int k)) ∧ RsL F γ b rest := by
  obtain ⟨h1, h2⟩ := h.split
  have e1 := RsL_sc ha h1
  have h3 : ∃ v rest, vs.drop a.length = v :: rest ∧ v.oneCell' = true ∧ Rs F γ (.sl 1 (xs.map (.int k))) v ∧ RsL F γ b rest := by simpa only [RsL] using h2
  obtain ⟨v, rest, e, _, hs, hb⟩ := h3
  obtain ⟨A, c, rfl, hok, hat⟩ := sl_ints hF hs
  exact ⟨A, c, rest, by rw [← e1, ← e, List.take_append_drop], hok, hat, hb⟩
theorem rec_of {F : FMap} {γ : Gam} {w : World} (hF : FSat F w) {r : Re} {v : Value} (h : Rs F γ (.agg (recD r)) v) : ∃ A c, v = .agg (recA r A c) ∧ SlOk A r.ev.args.length c ∧ At w A (r.ev.args.map (Value.int .i64)) := by
  simp only [Rs] at h
  obtain ⟨cs, rfl, h⟩ := h
  have e : recD r = (.int .i64 r.comp :: .int .u64 r.seq :: clkD r.clk ++ (.int .u8 r.what :: [.int .i64 r.ev.tick, .int .i64 r.ev.comp, .int .u8 r.ev.kind, .int .i64 r.ev.peer, .int .i64 r.ev.n, .int .i64 r.ev.copy, .int .i64 r.ev.handler, .int .i64 r.ev.d])) ++ .sl 1 (r.ev.args.map (.int .i64)) :: [.int .u64 r.count] := rfl
  rw [e] at h
  obtain ⟨A, c, rest, e1, h1, h2, h3⟩ := RsL_sl hF rfl h
  have e2 := RsL_sc (ds := [.int .u64 r.count]) rfl h3
  refine ⟨A, c, ?_, h1, h2⟩
  congr 1
  apply Array.toList_inj.1
  rw [e1, e2]; rfl
theorem rs_rec {F : FMap} {γ : Gam} {r : Re} {A : Option Addr} {c : Nat} (h : Rs F γ (.sl 1 (r.ev.args.map (.int .i64))) (.slice A r.ev.args.length c)) : Rs F γ (.agg (recD r)) (.agg (recA r A c)) := by
  simp only [Rs]
  refine ⟨_, rfl, RsL.of_get rfl (fun i d hd => ?_)⟩
  have hlt : i < 29 := by
    have := (List.getElem?_eq_some_iff.1 hd).1
    exact this
  have key : i = 27 ∨ i ≠ 27 := by omega
  rcases key with rfl | hne
  · have : (recD r)[27]? = some (.sl 1 (r.ev.args.map (.int .i64))) := rfl
    rw [this] at hd; injection hd with hd; subst hd
    exact ⟨_, rfl, rfl, h⟩
  · have : ∀ i, i < 29 → i ≠ 27 → ∃ k n, (recD r)[i]? = some (.int k n) ∧ (recA r A c).toList[i]? = some (.int k n) := by
      intro i hi hn
      match i, hi, hn with
      | 0, _, _ => exact ⟨_, _, rfl, rfl⟩
      | 1, _, _ => exact ⟨_, _, rfl, rfl⟩
      | 2, _, _ => exact ⟨_, _, rfl, rfl⟩
      | 3, _, _ => exact ⟨_, _, rfl, rfl⟩
      | 4, _, _ => exact ⟨_, _, rfl, rfl⟩
      | 5, _, _ => exact ⟨_, _, rfl, rfl⟩
      | 6, _, _ => exact ⟨_, _, rfl, rfl⟩
      | 7, _, _ => exact ⟨_, _, rfl, rfl⟩
      | 8, _, _ => exact ⟨_, _, rfl, rfl⟩
      | 9, _, _ => exact ⟨_, _, rfl, rfl⟩
      | 10, _, _ => exact ⟨_, _, rfl, rfl⟩
      | 11, _, _ => exact ⟨_, _, rfl, rfl⟩
      | 12, _, _ => exact ⟨_, _, rfl, rfl⟩
      | 13, _, _ => exact ⟨_, _, rfl, rfl⟩
      | 14, _, _ => exact ⟨_, _, rfl, rfl⟩
      | 15, _, _ => exact ⟨_, _, rfl, rfl⟩
      | 16, _, _ => exact ⟨_, _, rfl, rfl⟩
      | 17, _, _ => exact ⟨_, _, rfl, rfl⟩
      | 18, _, _ => exact ⟨_, _, rfl, rfl⟩
      | 19, _, _ => exact ⟨_, _, rfl, rfl⟩
      | 20, _, _ => exact ⟨_, _, rfl, rfl⟩
      | 21, _, _ => exact ⟨_, _, rfl, rfl⟩
      | 22, _, _ => exact ⟨_, _, rfl, rfl⟩
      | 23, _, _ => exact ⟨_, _, rfl, rfl⟩
      | 24, _, _ => exact ⟨_, _, rfl, rfl⟩
      | 25, _, _ => exact ⟨_, _, rfl, rfl⟩
      | 26, _, _ => exact ⟨_, _, rfl, rfl⟩
      | 27, _, h => exact absurd rfl h
      | 28, _, _ => exact ⟨_, _, rfl, rfl⟩
      | i + 29, h, _ => exact absurd h (by omega)
    obtain ⟨k, n, q1, q2⟩ := this i hlt hne
    rw [q1] at hd; injection hd with hd; subst hd
    exact ⟨_, q2, rfl, by simp only [Rs]⟩
theorem rr_of {F : FMap} {γ : Gam} {w : World} (hF : FSat F w) {x : RR} {v : Value} (h : Rs F γ (.agg (rrD x)) v) : ∃ C cc A c, v = .agg (rrA x C cc A c) ∧ RAt0 w x C cc A c := by
  simp only [Rs] at h
  obtain ⟨cs, rfl, h⟩ := h
  have e : rrD x = [.int .u8 x.what, .int .i64 x.comp, .int .u64 x.seq, .int .u64 x.count] ++ .sl 1 (x.clock.map (.int .u64)) :: ([.int .i64 x.ev.tick, .int .i64 x.ev.comp, .int .u8 x.ev.kind, .int .i64 x.ev.peer, .int .i64 x.ev.n, .int .i64 x.ev.copy, .int .i64 x.ev.handler, .int .i64 x.ev.d] ++ .sl 1 (x.ev.args.map (.int .i64)) :: []) := rfl
  rw [e] at h
  obtain ⟨C, cc, rest, e1, h1, h2, h3⟩ := RsL_sl hF rfl h
  obtain ⟨A, c, rest', e2, k1, k2, k3⟩ := RsL_sl hF rfl h3
  simp only [RsL] at k3
  subst k3
  refine ⟨C, cc, A, c, ?_, ⟨h2, k2, h1.2, k1.2, fun h => (h1.1 h).2, fun h => (k1.1 h).2⟩⟩
  congr 1
  apply Array.toList_inj.1
  rw [e1, e2]; rfl
theorem RAt0.at {w : World} {x : RR} {C A : Option Addr} {cc c : Nat} (h : RAt0 w x C cc A c) (h1 : x.clock.length ≤ 16) (h2 : x.ev.args.length ≤ 6) : RAt w x C cc A c := ⟨h.clock, h.args, h1, h2, h.ccl, h.acl, h.cn, h.an⟩
theorem one_arg {F : FMap} {γ : Gam} {d : DV} {vs : List Value} (h : RsT F γ [d] vs) : ∃ v, vs = [v] ∧ Rs F γ d v := by
  simp only [RsT] at h
  obtain ⟨v, rest, rfl, h1, rfl⟩ := h
  exact ⟨v, rfl, h1⟩
theorem two_args {F : FMap} {γ : Gam} {d e : DV} {vs : List Value} (h : RsT F γ [d, e] vs) : ∃ v u, vs = [v, u] ∧ Rs F γ d v ∧ Rs F γ e u := by
  simp only [RsT] at h
  obtain ⟨v, rest, rfl, h1, u, rest', rfl, h2, rfl⟩ := h
  exact ⟨v, u, rfl, h1, h2⟩
theorem check_c (r : Re) (hn : r.ev.args.length ≤ 1099511627776) (hu : U64 r.seq) : PCall Try.prog 22 [.agg (recD r)] (.int .i64 (checkN r)) := PCall.ofExt fun F w vs hF hv => by
  obtain ⟨v, rfl, h1⟩ := one_arg hv
  obtain ⟨A, c, rfl, _, hat⟩ := rec_of hF h1
  exact (Check_any r A c w hat hn hu).mono fun e w' ⟨he, hx⟩ => ⟨_, he, hx, by simp only [Rs]⟩
theorem recBytes_c (r : Re) (hn : r.ev.args.length ≤ 1099511627776) (hT : ReT r) : PCall Try.prog 24 [.agg (recD r)] (u8s (recBytes r)) := PCall.ofInts fun F w vs hF hv => by
  obtain ⟨v, rfl, h1⟩ := one_arg hv
  obtain ⟨A, c, rfl, _, hat⟩ := rec_of hF h1
  exact RecBytes_any r A c w hat hn hT
theorem size_c (r : Re) (hn : r.ev.args.length ≤ 1099511627776) (hT : ReT r) : PCall Try.prog 26 [.agg (recD r)] (.int .i64 (recBytes r).length) := PCall.ofExt fun F w vs hF hv => by
  obtain ⟨v, rfl, h1⟩ := one_arg hv
  obtain ⟨A, c, rfl, _, hat⟩ := rec_of hF h1
  exact (Size_any r A c w hat hn hT).mono fun e w' ⟨he, hx⟩ => ⟨_, he, hx, by simp only [Rs]⟩
theorem equal_c (a b : Re) (hn : a.ev.args.length ≤ 1099511627776) : PCall Try.prog 27 [.agg (recD a), .agg (recD b)] (.bool (recEq a b)) := PCall.ofExt fun F w vs hF hv => by
  obtain ⟨v, u, rfl, h1, h2⟩ := two_args hv
  obtain ⟨A, c, rfl, _, hat⟩ := rec_of hF h1
  obtain ⟨B, d, rfl, _, hbt⟩ := rec_of hF h2
  exact (Equal_any a b A B c d w hat hbt hn).mono fun e w' ⟨he, hx⟩ => ⟨_, he, hx, by simp only [Rs]⟩
theorem awake_c : PCall Try.prog 18 [] (.bool true) := PCall.ofExt fun F w vs hF hv => by
  simp only [RsT] at hv
  subst hv
  exact (lawake_any w).mono fun e w' ⟨he, hx⟩ => ⟨_, he, hx, by simp only [Rs]⟩
theorem slEq_c (xs ys : List Int) (hn : xs.length ≤ 1099511627776) : PCall Try.prog 23 [u8s xs, u8s ys] (.bool (xs == ys)) := PCall.ofExt fun F w vs hF hv => by
  obtain ⟨v, u, rfl, h1, h2⟩ := two_args hv
  obtain ⟨A, c, rfl, _, hat⟩ := sl_ints hF h1
  obtain ⟨B, d, rfl, _, hbt⟩ := sl_ints hF h2
  exact (slEqU8_any A B c d xs ys w hat hbt hn).mono fun e w' ⟨he, hx⟩ => ⟨_, he, hx, by simp only [Rs]⟩
theorem valid_c (x : RR) (h1 : x.clock.length ≤ 16) (h2 : x.ev.args.length ≤ 6) (hu : U64 x.seq) : PCall Try.prog 21 [.agg (rrD x)] (.bool (validB (toRe x))) := PCall.ofExt fun F w vs hF hv => by
  obtain ⟨v, rfl, hw⟩ := one_arg hv
  obtain ⟨C, cc, A, c, rfl, hR⟩ := rr_of hF hw
  exact (Valid_any x C cc A c w (hR.at h1 h2) hu).mono fun e w' ⟨he, hx⟩ => ⟨_, he, hx, by simp only [Rs]⟩
theorem refBytes_c (x : RR) (h1 : x.clock.length ≤ 16) (h2 : x.ev.args.length ≤ 6) (hT : RRT x) : PCall Try.prog 25 [.agg (rrD x)] (u8s (recBytes (toRe x))) := PCall.ofInts fun F w vs hF hv => by
  obtain ⟨v, rfl, hw⟩ := one_arg hv
  obtain ⟨C, cc, A, c, rfl, hR⟩ := rr_of hF hw
  exact refBytes_any x C cc A c w (hR.at h1 h2) hT
theorem same_c (x y : RR) (h1 : x.clock.length ≤ 16) (h2 : x.ev.args.length ≤ 6) (h3 : y.clock.length ≤ 16) (h4 : y.ev.args.length ≤ 6) : PCall Try.prog 28 [.agg (rrD x), .agg (rrD y)] (.bool (recEq (toRe x) (toRe y))) := PCall.ofExt fun F w vs hF hv => by
  obtain ⟨v, u, rfl, hw, hu⟩ := two_args hv
  obtain ⟨C, cc, A, c, rfl, hR⟩ := rr_of hF hw
  obtain ⟨D, dd, B, d, rfl, hS⟩ := rr_of hF hu
  exact (Same_any x y C D cc dd A B c d w (hR.at h1 h2) (hS.at h3 h4)).mono fun e w' ⟨he, hx⟩ => ⟨_, he, hx, by simp only [Rs]⟩
end Go.Proofs.Ytkadjbpmnpcfhaa

/-
  Bridges: the contracts of record for the engine.
-/
import Derived.Test.YtepkcbalmjnhpaaGreatRdD
import Derived.Test.YtepkcbalmjnhpaaGreatEq
set_option maxRecDepth 100000
set_option linter.unusedVariables false
set_option linter.unusedSimpArgs false
namespace Go.Proofs.YtepkcbalmjnhpaaGreat
open Go.RowKit
def recD (r : Re) : List DV := (.int .i64 r.comp :: .int .u64 r.seq :: clkD r.clk) ++ (.int .u8 r.what :: evD r.ev) ++ [.int .u64 r.count]
def isInt : DV → Bool
  | .int _ _ => true
  | _ => false
theorem RsL_sc {F : FMap} {γ : Gam} : ∀ {ds : List DV} {vs : List Value}, (ds.all isInt) = true → RsL F γ ds vs → vs = ds.map DV.scal
  | [], vs, _, h => by simp only [RsL] at h; rw [h]; rfl
  | d :: ds, vs, hi, h => by
    simp only [List.all_cons, Bool.and_eq_true] at hi
    simp only [RsL] at h
    obtain ⟨v, rest, rfl, _, h1, h2⟩ := h
    cases d with
    | int k n =>
      simp only [Rs] at h1
      rw [h1, RsL_sc hi.2 h2]; rfl
    | _ => exact absurd hi.1 (by simp [isInt])
/-- cells, of which one is a slice of numbers -/
theorem RsL_sl {F : FMap} {γ : Gam} {w : World} (hF : FSat F w) {a b : List DV} {k : IntKind} {xs : List Int} {vs : List Value} (ha : (a.all isInt) = true) (h : RsL F γ (a ++ .sl 1 (xs.map (.int k)) :: b) vs) :
    ∃ A c rest, vs = a.map DV.scal ++ .slice A xs.length c :: rest ∧ SlOk A xs.length c ∧ At w A (xs.map (Value.int k)) ∧ RsL F γ b rest := by
  obtain ⟨h1, h2⟩ := h.split
  have e1 := RsL_sc ha h1
  have h3 : ∃ v rest, vs.drop a.length = v :: rest ∧ v.oneCell' = true ∧ Rs F γ (.sl 1 (xs.map (.int k))) v ∧ RsL F γ b rest := by simpa only [RsL] using h2
  obtain ⟨v, rest, e, _, hs, hb⟩ := h3
  obtain ⟨A, c, rfl, hok, hat⟩ := sl_ints hF hs
  exact ⟨A, c, rest, by rw [← e1, ← e, List.take_append_drop], hok, hat, hb⟩
theorem rec_of {F : FMap} {γ : Gam} {w : World} (hF : FSat F w) {r : Re} {v : Value} (h : Rs F γ (.agg (recD r)) v) : ∃ A c, v = .agg (recA r A c) ∧ SlOk A r.ev.args.length c ∧ At w A (r.ev.args.map (Value.int .i64)) := by
  simp only [Rs] at h
  obtain ⟨cs, rfl, h⟩ := h
  have e : recD r = (.int .i64 r.comp :: .int .u64 r.seq :: clkD r.clk ++ (.int .u8 r.what :: [.int .i64 r.ev.tick, .int .i64 r.ev.comp, .int .u8 r.ev.kind, .int .i64 r.ev.peer, .int .i64 r.ev.n, .int .i64 r.ev.copy, .int .i64 r.ev.handler, .int .i64 r.ev.d])) ++ .sl 1 (r.ev.args.map (.int .i64)) :: [.int .u64 r.count] := rfl
  rw [e] at h
  obtain ⟨A, c, rest, e1, h1, h2, h3⟩ := RsL_sl hF rfl h
  have e2 := RsL_sc (ds := [.int .u64 r.count]) rfl h3
  refine ⟨A, c, ?_, h1, h2⟩
  congr 1
  apply Array.toList_inj.1
  rw [e1, e2]; rfl
theorem rs_rec {F : FMap} {γ : Gam} {r : Re} {A : Option Addr} {c : Nat} (h : Rs F γ (.sl 1 (r.ev.args.map (.int .i64))) (.slice A r.ev.args.length c)) : Rs F γ (.agg (recD r)) (.agg (recA r A c)) := by
  simp only [Rs]
  refine ⟨_, rfl, RsL.of_get rfl (fun i d hd => ?_)⟩
  have hlt : i < 29 := by
    have := (List.getElem?_eq_some_iff.1 hd).1
    exact this
  have key : i = 27 ∨ i ≠ 27 := by omega
  rcases key with rfl | hne
  · have : (recD r)[27]? = some (.sl 1 (r.ev.args.map (.int .i64))) := rfl
    rw [this] at hd; injection hd with hd; subst hd
    exact ⟨_, rfl, rfl, h⟩
  · have : ∀ i, i < 29 → i ≠ 27 → ∃ k n, (recD r)[i]? = some (.int k n) ∧ (recA r A c).toList[i]? = some (.int k n) := by
      intro i hi hn
      match i, hi, hn with
      | 0, _, _ => exact ⟨_, _, rfl, rfl⟩
      | 1, _, _ => exact ⟨_, _, rfl, rfl⟩
      | 2, _, _ => exact ⟨_, _, rfl, rfl⟩
      | 3, _, _ => exact ⟨_, _, rfl, rfl⟩
      | 4, _, _ => exact ⟨_, _, rfl, rfl⟩
      | 5, _, _ => exact ⟨_, _, rfl, rfl⟩
      | 6, _, _ => exact ⟨_, _, rfl, rfl⟩
      | 7, _, _ => exact ⟨_, _, rfl, rfl⟩
      | 8, _, _ => exact ⟨_, _, rfl, rfl⟩
      | 9, _, _ => exact ⟨_, _, rfl, rfl⟩
      | 10, _, _ => exact ⟨_, _, rfl, rfl⟩
      | 11, _, _ => exact ⟨_, _, rfl, rfl⟩
      | 12, _, _ => exact ⟨_, _, rfl, rfl⟩
      | 13, _, _ => exact ⟨_, _, rfl, rfl⟩
      | 14, _, _ => exact ⟨_, _, rfl, rfl⟩
      | 15, _, _ => exact ⟨_, _, rfl, rfl⟩
      | 16, _, _ => exact ⟨_, _, rfl, rfl⟩
      | 17, _, _ => exact ⟨_, _, rfl, rfl⟩
      | 18, _, _ => exact ⟨_, _, rfl, rfl⟩
      | 19, _, _ => exact ⟨_, _, rfl, rfl⟩
      | 20, _, _ => exact ⟨_, _, rfl, rfl⟩
      | 21, _, _ => exact ⟨_, _, rfl, rfl⟩
      | 22, _, _ => exact ⟨_, _, rfl, rfl⟩
      | 23, _, _ => exact ⟨_, _, rfl, rfl⟩
      | 24, _, _ => exact ⟨_, _, rfl, rfl⟩
      | 25, _, _ => exact ⟨_, _, rfl, rfl⟩
      | 26, _, _ => exact ⟨_, _, rfl, rfl⟩
      | 27, _, h => exact absurd rfl h
      | 28, _, _ => exact ⟨_, _, rfl, rfl⟩
      | i + 29, h, _ => exact absurd h (by omega)
    obtain ⟨k, n, q1, q2⟩ := this i hlt hne
    rw [q1] at hd; injection hd with hd; subst hd
    exact ⟨_, q2, rfl, by simp only [Rs]⟩
theorem one_arg {F : FMap} {γ : Gam} {d : DV} {vs : List Value} (h : RsT F γ [d] vs) : ∃ v, vs = [v] ∧ Rs F γ d v := by
  simp only [RsT] at h
  obtain ⟨v, rest, rfl, h1, rfl⟩ := h
  exact ⟨v, rfl, h1⟩
theorem two_args {F : FMap} {γ : Gam} {d e : DV} {vs : List Value} (h : RsT F γ [d, e] vs) : ∃ v u, vs = [v, u] ∧ Rs F γ d v ∧ Rs F γ e u := by
  simp only [RsT] at h
  obtain ⟨v, rest, rfl, h1, u, rest', rfl, h2, rfl⟩ := h
  exact ⟨v, u, rfl, h1, h2⟩
theorem check_c (r : Re) (hn : r.ev.args.length ≤ 1099511627776) (hu : U64 r.seq) : PCall Tryz.prog 110 [.agg (recD r)] (.int .i64 (checkN r)) := PCall.ofExt fun F w vs hF hv => by
  obtain ⟨v, rfl, h1⟩ := one_arg hv
  obtain ⟨A, c, rfl, _, hat⟩ := rec_of hF h1
  exact (Check_any r A c w hat hn hu).mono fun e w' ⟨he, hx⟩ => ⟨_, he, hx, by simp only [Rs]⟩
theorem recBytes_c (r : Re) (hn : r.ev.args.length ≤ 1099511627776) (hT : ReT r) : PCall Tryz.prog 62 [.agg (recD r)] (u8s (recBytes r)) := PCall.ofInts fun F w vs hF hv => by
  obtain ⟨v, rfl, h1⟩ := one_arg hv
  obtain ⟨A, c, rfl, _, hat⟩ := rec_of hF h1
  exact RecBytes_any r A c w hat hn hT
theorem size_c (r : Re) (hn : r.ev.args.length ≤ 1099511627776) (hT : ReT r) : PCall Tryz.prog 186 [.agg (recD r)] (.int .i64 (recBytes r).length) := PCall.ofExt fun F w vs hF hv => by
  obtain ⟨v, rfl, h1⟩ := one_arg hv
  obtain ⟨A, c, rfl, _, hat⟩ := rec_of hF h1
  exact (Size_any r A c w hat hn hT).mono fun e w' ⟨he, hx⟩ => ⟨_, he, hx, by simp only [Rs]⟩
theorem equal_c (a b : Re) (hn : a.ev.args.length ≤ 1099511627776) : PCall Tryz.prog 29 [.agg (recD a), .agg (recD b)] (.bool (recEq a b)) := PCall.ofExt fun F w vs hF hv => by
  obtain ⟨v, u, rfl, h1, h2⟩ := two_args hv
  obtain ⟨A, c, rfl, _, hat⟩ := rec_of hF h1
  obtain ⟨B, d, rfl, _, hbt⟩ := rec_of hF h2
  exact (Equal_any a b A B c d w hat hbt hn).mono fun e w' ⟨he, hx⟩ => ⟨_, he, hx, by simp only [Rs]⟩
end Go.Proofs.YtepkcbalmjnhpaaGreat

/-
  What the claim leans on, part 13.
-/
import Derived.Test.YtifaebmmbpkclaaGreatDoorRRe12
import Derived.Lib.LaidTab
set_option maxRecDepth 100000
set_option linter.unusedVariables false
set_option linter.unusedSimpArgs false
namespace Go.Proofs.YtifaebmmbpkclaaGreatDoor
open Go.RowKit Go.Sort Go.Lib Go.Shelf
theorem PCall.ofExtK {P : Program} {f : FuncId} {args : List DV} {r : DV} (h : ∀ F w vs,FSat F w→Tbs F→RsT F Gam.no args vs→Calls P f vs.toArray w (fun e w'=>∃ v,e = .returned v∧Ext w w'∧Rs F Gam.no r v)) : PCall P f args r:=by
 intro C F γ heap used w vs H hv
 refine (h F w vs H.fs (H.kn.mono H.f0) hv).mono ?_
 rintro e w' ⟨v,rfl,hx,hr⟩
 have b:=hx.below
 exact ⟨v,F,rfl,FLe.refl _,H.quiet ⟨b.os,b.tape,b.output,b.size,fun k hk _=>b.block k hk⟩,hr⟩
theorem tab_tbs {F : FMap} {w : World} (hF : FSat F w) (hk : Tbs F) : Lib.TabIs Tryz.prog w "internal/strconv.uint64pow10" .u64 Lib.pow10Tab:=by
 have h:=hk 0 (by simp [knBs])
 obtain ⟨t,fz,hb⟩ := hF _ _ h
 have hg : Tryz.prog.globalNamed "internal/strconv.uint64pow10" = some 0:=by kernel_rfl
 unfold Lib.TabIs World.var?
 simp only [hg,Option.bind_some,hb]
 rfl
theorem below_grow (w : World) (k : Nat) (os : Array Obj) : Below w.heap.size w (grow (w.drewN k) os) := ⟨rfl,rfl,rfl,by simp [grow],fun i hi=>heap_grow_old (w.drewN k) os hi⟩
def strconv_FormatUint (x0 x1 : Int) : Option ByteArray:=chk (x1 = 10∧0≤x0∧x0 < 18446744073709551616) (some ⟨(Lib.decDigits x0.toNat).toArray⟩)
theorem strconv_FormatUint_c {x0 x1 : Int} {r : ByteArray} (hM : strconv_FormatUint x0 x1 = some r) : PCall Tryz.prog 39 [.int .u64 x0,.int .i64 x1] (.str r):=by
 obtain ⟨⟨h0,h1,h2⟩,hM⟩ := of_chk hM
 obtain rfl:=Option.some.inj hM
 subst h0
 refine PCall.ofExtK fun F w vs hF hk hv=>?_
 obtain ⟨v,u,rfl,k1,k2⟩ := two_args hv
 simp only [Rs] at k1 k2
 subst k1; subst k2
 have e : (x0.toNat : Int) = x0:=by omega
 have:=Tryz.fmtU x0.toNat (by omega) w (tab_tbs hF hk)
 rw [e] at this
 refine this.mono ?_
 rintro e w' ⟨rfl,k,os,rfl⟩
 exact ⟨_,rfl,below_grow w k os,by simp only [Rs]⟩
theorem jn_extra : Builder.Extra Tryz.prog Tryz.laysJn_ren where
 sizeBuilder:=by kernel_rfl
 liesBuilder:=by kernel_rfl
 t5:=Tryz.underlying5
 a5:=Tryz.isAgg5
 z5:=Tryz.sizeOf5
 v5:=Tryz.zeroValue5
 infoByte:=by kernel_rfl
 cellsByte:=by kernel_rfl
 sizeByte:=by kernel_rfl
 neB5:=by decide
theorem rse_strs {F : FMap} : ∀ (l : List ByteArray) (vs : List Value),RsE F 1 (l.map DV.str) vs→vs = l.map Value.string
 | [],vs,h=>by simpa [RsE] using h
 | x :: l,vs,h=>by
  simp only [List.map_cons,RsE] at h
  obtain ⟨v,rest,h1,h2,h3,h4,h5⟩ := h
  simp only [Rs] at h4
  subst h4
  rw [h1,rse_strs l rest h5]
  rfl
def strings_Join (x0 : List ByteArray) (x1 : ByteArray) : Option ByteArray:=chk (x0.length≤140737488355328∧(Lib.join (x0.map (·.data.toList)) x1.data.toList).length≤140737488355328) (some ⟨(Lib.join (x0.map (·.data.toList)) x1.data.toList).toArray⟩)
theorem strings_Join_c {x0 : List ByteArray} {x1 : ByteArray} {r : ByteArray} (hM : strings_Join x0 x1 = some r) : PCall Tryz.prog 40 [.sl 1 (List.map DV.str x0),.str x1] (.str r):=by
 obtain ⟨⟨h1,h2⟩,hM⟩ := of_chk hM
 obtain rfl:=Option.some.inj hM
 refine PCall.ofExt fun F w vs hF hv=>?_
 obtain ⟨v,u,rfl,k1,k2⟩ := two_args hv
 simp only [Rs] at k1 k2
 subst k2
 obtain ⟨A,c,rfl,hok,hd⟩ := k1
 rw [List.length_map]
 rw [List.length_map] at hok
 by_cases hne : x0 = []
 ·subst hne
  refine (Any.strings_Join_none Tryz.laysJn jn_extra A c x1 w).mono ?_
  rintro e w' ⟨rfl,rfl⟩
  exact ⟨_,rfl,Ext.refl _,by simp only [Rs]; rfl⟩
 ·obtain ⟨b,o,cs,vs,rest,rfl,hb,hcs,hE⟩ := hd (by simpa using hne)
  obtain rfl:=rse_strs x0 vs hE
  obtain ⟨t,fz,hbk⟩ := hF b cs hb
  refine (Any.strings_Join Tryz.laysJn jn_extra b o c x0 x1 w (fun j x hj=>?_) ?_ h1 hok.2.1 h2).mono ?_
  ·have:=blk_range hbk o
   rw [hcs] at this
   exact this j (.string x) (by rw [List.getElem?_append_left (by rw [List.length_map]; exact (List.getElem?_eq_some_iff.1 hj).1),List.getElem?_map,hj]; rfl)
  ·exact (Array.getElem?_eq_some_iff.1 hbk).1
  ·rintro e w' ⟨rfl,hw⟩
   exact ⟨_,rfl,hw,by simp only [Rs]⟩
end Go.Proofs.YtifaebmmbpkclaaGreatDoor

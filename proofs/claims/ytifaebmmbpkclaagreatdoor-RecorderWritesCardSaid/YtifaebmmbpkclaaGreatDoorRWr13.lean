/-
  What the claim leans on, part 13.
-/
import Derived.Test.YtifaebmmbpkclaaGreatDoorRWr12
import Derived.Lib.LaidTab
set_option maxRecDepth 100000
set_option linter.unusedVariables false
set_option linter.unusedSimpArgs false
namespace Go.Proofs.YtifaebmmbpkclaaGreatDoor
open Go.RowKit Go.Sort Go.Lib Go.Shelf
theorem PCall.ofExtK {P : Program} {f : FuncId} {args : List DV} {r : DV} (h : ∀ F w vs,FSat F w→Tbs F→RsT F Gam.no args vs→Calls P f vs.toArray w (fun e w'=>∃ v,e = .returned v∧Ext w w'∧Rs F Gam.no r v)) : PCall P f args r:=by
 intro C F γ heap used w vs H hv
 refine (h F w vs H.fs (H.kn.mono H.f0) hv).mono ?_
 rintro e w' ⟨v,rfl,hx,hr⟩
 have b:=hx.below
 exact ⟨v,F,rfl,FLe.refl _,H.quiet ⟨b.os,b.tape,b.output,b.size,fun k hk _=>b.block k hk⟩,hr⟩
theorem tab_tbs {F : FMap} {w : World} (hF : FSat F w) (hk : Tbs F) : Lib.TabIs Tryz.prog w "internal/strconv.uint64pow10" .u64 Lib.pow10Tab:=by
 have h:=hk 0 (by simp [knBs])
 obtain ⟨t,fz,hb⟩ := hF _ _ h
 have hg : Tryz.prog.globalNamed "internal/strconv.uint64pow10" = some 0:=by kernel_rfl
 unfold Lib.TabIs World.var?
 simp only [hg,Option.bind_some,hb]
 rfl
theorem below_grow (w : World) (k : Nat) (os : Array Obj) : Below w.heap.size w (grow (w.drewN k) os) := ⟨rfl,rfl,rfl,by simp [grow],fun i hi=>heap_grow_old (w.drewN k) os hi⟩
def strconv_FormatUint (x0 x1 : Int) : Option ByteArray:=chk (x1 = 10∧0≤x0∧x0 < 18446744073709551616) (some ⟨(Lib.decDigits x0.toNat).toArray⟩)
theorem strconv_FormatUint_c {x0 x1 : Int} {r : ByteArray} (hM : strconv_FormatUint x0 x1 = some r) : PCall Tryz.prog 39 [.int .u64 x0,.int .i64 x1] (.str r):=by
 obtain ⟨⟨h0,h1,h2⟩,hM⟩ := of_chk hM
 obtain rfl:=Option.some.inj hM
 subst h0
 refine PCall.ofExtK fun F w vs hF hk hv=>?_
 obtain ⟨v,u,rfl,k1,k2⟩ := two_args hv
 simp only [Rs] at k1 k2
 subst k1; subst k2
 have e : (x0.toNat : Int) = x0:=by omega
 have:=Tryz.fmtU x0.toNat (by omega) w (tab_tbs hF hk)
 rw [e] at this
 refine this.mono ?_
 rintro e w' ⟨rfl,k,os,rfl⟩
 exact ⟨_,rfl,below_grow w k os,by simp only [Rs]⟩
theorem jn_extra : Builder.Extra Tryz.prog Tryz.laysJn_ren where
 sizeBuilder:=by kernel_rfl
 liesBuilder:=by kernel_rfl
 t5:=Tryz.underlying5
 a5:=Tryz.isAgg5
 z5:=Tryz.sizeOf5
 v5:=Tryz.zeroValue5
 infoByte:=by kernel_rfl
 cellsByte:=by kernel_rfl
 sizeByte:=by kernel_rfl
 neB5:=by decide
theorem rse_strs {F : FMap} : ∀ (l : List ByteArray) (vs : List Value),RsE F 1 (l.map DV.str) vs→vs = l.map Value.string
 | [],vs,h=>by simpa [RsE] using h
 | x :: l,vs,h=>by
  simp only [List.map_cons,RsE] at h
  obtain ⟨v,rest,h1,h2,h3,h4,h5⟩ := h
  simp only [Rs] at h4
  subst h4
  rw [h1,rse_strs l rest h5]
  rfl
def strings_Join (x0 : List ByteArray) (x1 : ByteArray) : Option ByteArray:=chk (x0.length≤140737488355328∧(Lib.join (x0.map (·.data.toList)) x1.data.toList).length≤140737488355328) (some ⟨(Lib.join (x0.map (·.data.toList)) x1.data.toList).toArray⟩)
theorem strings_Join_c {x0 : List ByteArray} {x1 : ByteArray} {r : ByteArray} (hM : strings_Join x0 x1 = some r) : PCall Tryz.prog 40 [.sl 1 (List.map DV.str x0),.str x1] (.str r):=by
 obtain ⟨⟨h1,h2⟩,hM⟩ := of_chk hM
 obtain rfl:=Option.some.inj hM
 refine PCall.ofExt fun F w vs hF hv=>?_
 obtain ⟨v,u,rfl,k1,k2⟩ := two_args hv
 simp only [Rs] at k1 k2
 subst k2
 obtain ⟨A,c,rfl,hok,hd⟩ := k1
 rw [List.length_map]
 rw [List.length_map] at hok
 by_cases hne : x0 = []
 ·subst hne
  refine (Any.strings_Join_none Tryz.laysJn jn_extra A c x1 w).mono ?_
  rintro e w' ⟨rfl,rfl⟩
  exact ⟨_,rfl,Ext.refl _,by simp only [Rs]; rfl⟩
 ·obtain ⟨b,o,cs,vs,rest,rfl,hb,hcs,hE⟩ := hd (by simpa using hne)
  obtain rfl:=rse_strs x0 vs hE
  obtain ⟨t,fz,hbk⟩ := hF b cs hb
  refine (Any.strings_Join Tryz.laysJn jn_extra b o c x0 x1 w (fun j x hj=>?_) ?_ h1 hok.2.1 h2).mono ?_
  ·have:=blk_range hbk o
   rw [hcs] at this
   exact this j (.string x) (by rw [List.getElem?_append_left (by rw [List.length_map]; exact (List.getElem?_eq_some_iff.1 hj).1),List.getElem?_map,hj]; rfl)
  ·exact (Array.getElem?_eq_some_iff.1 hbk).1
  ·rintro e w' ⟨rfl,hw⟩
   exact ⟨_,rfl,hw,by simp only [Rs]⟩
end Go.Proofs.YtifaebmmbpkclaaGreatDoor
set_option maxHeartbeats 1000000
namespace Go.Proofs.YtifaebmmbpkclaaGreatDoor
open Go.RowKit
def evOf (e : AEv) : Ev := ⟨e.gTick,e.gComponent,e.gKind,e.gPeer,e.gN,e.gCopy,e.gHandler,e.gD,e.gArgs⟩
def reOf (x : RRec) : Re := ⟨x.gComponent,x.gSeq,fun i=>if i < 16 then x.gClock.gat i else 0,x.gWhat,evOf x.gEvent,x.gCount⟩
def okI (k : IntKind) (n : Int) : Bool:=decide (InR k n)
theorem okI_iff {k : IntKind} {n : Int} : okI k n = true↔InR k n:=by simp [okI]
def evFits (e : AEv) : Bool:=okI .i64 e.gTick && okI .i64 e.gComponent && okI .u8 e.gKind && okI .i64 e.gPeer && okI .i64 e.gN && okI .i64 e.gCopy && okI .i64 e.gHandler && okI .i64 e.gD && e.gArgs.all (okI .i64) && decide (e.gArgs.length≤1099511627776)
def ckFits (c : VClk) : Bool:=(List.range 16).all fun i=>okI .u64 (c.gat i)
def reFits (x : RRec) : Bool:=okI .i64 x.gComponent && okI .u64 x.gSeq && ckFits x.gClock && okI .u8 x.gWhat && evFits x.gEvent && okI .u64 x.gCount
theorem evFits_T {e : AEv} (h : evFits e = true) : EvT (evOf e)∧(evOf e).args.length≤1099511627776:=by
 unfold evFits at h
 simp only [Bool.and_eq_true,List.all_eq_true,okI_iff,InR,decide_eq_true_eq] at h
 obtain ⟨⟨⟨⟨⟨⟨⟨⟨⟨h1,h2⟩,h3⟩,h4⟩,h5⟩,h6⟩,h7⟩,h8⟩,h9⟩,h10⟩ := h
 refine ⟨?_,h10⟩
 constructor <;> first | assumption | (simp only [evOf,I64,U64,Byt]; assumption) | (simp only [evOf,I64,U64,Byt]; omega) | (intro v hv; have:=h9 v hv; simp only [I64]; omega)
theorem reFits_T {x : RRec} (h : reFits x = true) : ReT (reOf x)∧(reOf x).ev.args.length≤1099511627776:=by
 unfold reFits ckFits at h
 simp only [Bool.and_eq_true,List.all_eq_true,okI_iff,InR,List.mem_range] at h
 obtain ⟨⟨⟨⟨⟨h1,h2⟩,h3⟩,h4⟩,h5⟩,h6⟩ := h
 refine ⟨⟨?_,?_,?_,?_,(evFits_T h5).1,?_⟩,(evFits_T h5).2⟩
 ·simp only [reOf,I64]; omega
 ·simp only [reOf,U64]; omega
 ·intro i
  simp only [reOf,U64]
  split
  ·have:=h3 i (by assumption); omega
  ·omega
 ·simp only [reOf]; omega
 ·simp only [reOf,U64]; omega
theorem reOf_D (x : RRec) : recD (reOf x) = x.cs:=rfl
def record_Size (x : RRec) : Option Int:=chk (reFits x = true) (some ((recBytes (reOf x)).length : Int))
theorem record_Size_c {x : RRec} {r : Int} (hM : record_Size x = some r) : PCall Tryz.prog 53 [.agg x.cs] (.int .i64 r):=by
 obtain ⟨h,hM⟩ := of_chk hM
 obtain rfl:=Option.some.inj hM
 have:=reFits_T h
 have k:=size_c (reOf x) this.2 this.1
 rw [reOf_D] at k; exact k
def M64 : Int:=18446744073709551615
def fin1 (r : Rd) (x : Re) : Option Re:=if r.fin≠0 then none else if checkN x≠0 then none else some x
def readRec (xs : List Int) : Option Re :=
 let p1:=(⟨xs,0⟩ : Rd).byte
 let p2:=p1.2.uint 8
 let p3:=p2.2.uint M64
 if p3.2.err≠0 then none
 else if p1.1 = 1 then
  match clkR (xs.drop (xs.length - p3.2.xs.length)) with
  | none=>none
  | some (c,n)=>fin1 ((⟨(xs.drop (xs.length - p3.2.xs.length)).drop n,0⟩ : Rd).event p2.1).2 ⟨p2.1,p3.1,c,1,((⟨(xs.drop (xs.length - p3.2.xs.length)).drop n,0⟩ : Rd).event p2.1).1,0⟩
 else if p1.1 = 2 then fin1 (p3.2.uint M64).2 ⟨p2.1,p3.1,clk0,2,ev0,(p3.2.uint M64).1⟩
 else fin1 p3.2 ⟨p2.1,p3.1,clk0,p1.1,ev0,0⟩
def recRD (o : Option Re) : DV:=match o with
 | none=>.tup [.agg (recD re0),.int .i64 6]
 | some r=>.tup [.agg (recD r),.int .i64 0]
theorem recRD_ids (o : Option Re) : (recRD o).ids = []:=by cases o <;> rfl
theorem sfx_uint (r : Rd) (m : Int) : ∃ n,(r.uint m).2.xs = r.xs.drop n:=by
 obtain ⟨xs,e⟩ := r
 unfold Rd.uint
 split
 ·exact ⟨0,rfl⟩
 ·split
  ·exact ⟨0,rfl⟩
  ·split
   ·exact ⟨0,rfl⟩
   ·exact ⟨_,rfl⟩
theorem sfx_byte (r : Rd) : ∃ n,r.byte.2.xs = r.xs.drop n:=by
 obtain ⟨xs,e⟩ := r
 unfold Rd.byte
 split
 ·exact ⟨0,rfl⟩
 ·cases xs with
  | nil=>exact ⟨0,rfl⟩
  | cons b rest=>exact ⟨1,rfl⟩
theorem byte_range {r : Rd} (h : RdOk r) : 0≤r.byte.1∧r.byte.1≤255:=by
 obtain ⟨xs,e⟩ := r
 unfold Rd.byte
 split
 ·exact ⟨by simp,by simp⟩
 ·cases xs with
  | nil=>exact ⟨by simp,by simp⟩
  | cons b rest=>exact h.byt b (by simp)
theorem ents_le : ∀ (n : Nat) (xs l : List Int) (t : Nat),ents n xs = some (l,t)→t≤xs.length∧l.length = n
 | 0,xs,l,t,h=>by
  simp only [ents,Option.some.injEq,Prod.mk.injEq] at h
  rw [← h.1,← h.2]; simp
 | n + 1,xs,l,t,h=>by
  unfold ents at h
  cases hd : decU 0 0 xs with
  | none=>rw [hd] at h; cases h
  | some p=>
   obtain ⟨v,m⟩ := p
   have h1:=decU_le xs 0 0 v m hd
   rw [hd] at h
   simp only at h
   cases he : ents n (xs.drop m) with
   | none=>rw [he] at h; cases h
   | some q=>
    obtain ⟨l',t'⟩ := q
    rw [he] at h
    simp only [Option.some.injEq,Prod.mk.injEq] at h
    have:=ents_le n _ l' t' he
    rw [← h.1,← h.2]
    simp at this ⊢; omega
theorem clkR_le (ys : List Int) (c : Nat→Int) (n : Nat) (h : clkR ys = some (c,n)) : n≤ys.length:=by
 unfold clkR at h
 cases ys with
 | nil=>cases h
 | cons b rest=>
  simp only at h
  split at h
  ·cases h
  ·cases he : ents b.toNat rest with
   | none=>rw [he] at h; cases h
   | some q=>
    obtain ⟨l,t⟩ := q
    rw [he] at h
    simp only at h
    have:=ents_le _ _ l t he
    split at h
    ·simp only [Option.some.injEq,Prod.mk.injEq] at h; simp; omega
    ·cases h
theorem ints_len : ∀ (n : Nat) (r : Rd),(r.ints n).1.length = n
 | 0,r=>rfl
 | n + 1,r=>by simp [Rd.ints,ints_len n]
theorem event_args (r : Rd) (h : RdOk r) (c : Int) : (r.event c).1.args.length≤4:=by
 unfold Rd.event
 simp only [ints_len]
 have:=uint_range ((((((((h.uint M31).uint 255).uint M31).uint M31).uint M31).uint M31).int)) (m:=4) (by omega)
 omega
theorem read_c (xs : List Int) (hx : ∀ b∈xs,Byt b) (hl : xs.length≤140737488355328) : PCall Tryz.prog 42 [u8s xs] (recRD (readRec xs)):=by
 have hrr : readRec xs = (
  let p1:=(⟨xs,0⟩ : Rd).byte
  let p2:=p1.2.uint 8
  let p3:=p2.2.uint M64
  if p3.2.err≠0 then none
  else if p1.1 = 1 then
   match clkR (xs.drop (xs.length - p3.2.xs.length)) with
   | none=>none
   | some (c,n)=>fin1 ((⟨(xs.drop (xs.length - p3.2.xs.length)).drop n,0⟩ : Rd).event p2.1).2 ⟨p2.1,p3.1,c,1,((⟨(xs.drop (xs.length - p3.2.xs.length)).drop n,0⟩ : Rd).event p2.1).1,0⟩
  else if p1.1 = 2 then fin1 (p3.2.uint M64).2 ⟨p2.1,p3.1,clk0,2,ev0,(p3.2.uint M64).1⟩
  else fin1 p3.2 ⟨p2.1,p3.1,clk0,p1.1,ev0,0⟩):=rfl
 simp only at hrr
 have o0 : RdOk ⟨xs,0⟩ := ⟨hx,by simp only; omega⟩
 have k0:=newReader_c xs hl
 have k1:=rByte_c ⟨xs,0⟩ o0
 have b1:=byte_range o0
 have s1:=sfx_byte ⟨xs,0⟩
 have o1:=o0.byte
 generalize (⟨xs,0⟩ : Rd).byte = q1 at *
 obtain ⟨v1,r1⟩ := q1
 simp only at hrr k1 b1 s1 o1
 have k2:=rUint_c r1 8 o1 ⟨by decide,by decide⟩
 have b2:=uint_range o1 (m:=8) (by decide)
 have s2:=sfx_uint r1 8
 have o2:=o1.uint 8
 generalize r1.uint 8 = q2 at *
 obtain ⟨v2,r2⟩ := q2
 simp only at hrr k2 b2 s2 o2
 have k3:=rUint_c r2 M64 o2 ⟨by decide,by decide⟩
 have b3:=uint_range o2 (m:=M64) (by decide)
 have s3:=sfx_uint r2 M64
 have o3:=o2.uint M64
 generalize r2.uint M64 = q3 at *
 obtain ⟨v3,r3⟩ := q3
 simp only at hrr k3 b3 s3 o3
 have k4:=rErr_c r3
 have k5:=rLeft_c r3
 have hle : r3.xs.length≤xs.length:=by
  obtain ⟨n1,e1⟩ := s1
  obtain ⟨n2,e2⟩ := s2
  obtain ⟨n3,e3⟩ := s3
  rw [e3,e2,e1]; simp only [List.length_drop]; omega
 clear s1 s2 s3
 have hm : M64 = 18446744073709551615:=rfl
 refine PCall.body Tryz.func42 Tryz.ntmps42 rfl rfl rfl (recRD_ids _) ?_
 rw [hrr]
 clear hrr
 refine a_seq ?_
 (apply a_region; (case ht=>exact .cons (o_alloc rfl)<|.cons (o_assign rfl)<|.nil _); (case hd=>kernel_rfl); (case hnew=>kernel_rfl))
 refine a_seq ?_
 (apply a_region; (case ht=>exact .cons (o_move rfl)<|.cons (o_callN (fun _=>11) 1 k0 rfl (DLeL.refl _) PreOk.nil rfl RoOk.nil)<|.cons (o_assign rfl)<|.nil _); (case hd=>kernel_rfl); (case hnew=>kernel_rfl))
 refine a_seq ?_
 (apply a_region; (case ht=>((apply tc; (case h=>exact o_move rfl)); (apply tc; (case h=>exact o_callN (fun _=>11) 1 k1 rfl (DLeL.refl _) (PreOk.cons rfl PreOk.nil) rfl RoOk.nil)); (apply tc; (case h=>exact o_move rfl)); (apply tc; (case h=>exact o_callN (fun _=>11) 1 k2 rfl (DLeL.refl _) (PreOk.cons rfl PreOk.nil) rfl RoOk.nil)); (apply tc; (case h=>(exact o_conv rfl (by simp only [InR]; omega)))); (apply tc; (case h=>exact o_move rfl)); (apply tc; (case h=>exact o_callN (fun _=>11) 1 k3 rfl (DLeL.refl _) (PreOk.cons rfl PreOk.nil) rfl RoOk.nil)); (apply tc; (case h=>exact o_build rfl rfl rfl)); (apply tc; (case h=>exact o_alloc rfl)); (apply tc; (case h=>exact o_store rfl rfl rfl rfl rfl rfl rfl)); exact tn)); (case hd=>kernel_rfl); (case hnew=>kernel_rfl))
 refine a_imp (σ' := ⟨[(0,u8s xs),(2,.ref 2 0),(4,.ref 11 0),(5,.ref 5 0)],[(2,some (.blk 51 (recD re0))),(11,some (rdE r3)),(5,some (.blk 51 (recD ⟨v2,v3,clk0,v1,ev0,0⟩)))],[2,5,11]⟩) (Imp.of (fun i=>i) (.cons rfl (DLe.refl _) (.cons rfl (DLe.refl _) (.cons rfl (DLe.refl _) (.cons rfl (DLe.refl _) .nil)))) (.cons rfl (.blk ?_) (.cons rfl (.refl _) (.cons rfl (.blk ?_) .nil))) rfl rfl rfl) ?_
 ·repeat (first | exact DLeL.nil | refine DLeL.cons (DLe.refl _) ?_ | refine DLeL.cons (DLe.nils 1) ?_)
 ·repeat (first | exact DLeL.nil | refine DLeL.cons (DLe.refl _) ?_ | refine DLeL.cons (DLe.nils 1) ?_)
 refine a_seq ?_
 refine a_seq ?_
 (apply a_region; (case ht=>exact .cons (o_move rfl)<|.cons (o_callN (fun _=>11) 0 k4 rfl (DLeL.refl _) (PreOk.cons rfl PreOk.nil) rfl (RoOk.cons rfl RoOk.nil))<|.cons (o_int rfl rfl rfl)<|.nil _); (case hd=>kernel_rfl); (case hnew=>kernel_rfl))
 refine a_cond _ rfl (fun c1=>?_) (fun c1=>?_)
 ·have he : r3.err≠0:=by simpa using c1
  rw [if_pos he]
  refine a_seq ?_
  (apply a_region; (case ht=>exact .cons (o_build rfl rfl rfl)<|.cons (o_store rfl rfl rfl rfl rfl rfl rfl)<|.cons (o_assign rfl)<|.nil _); (case hd=>kernel_rfl); (case hnew=>kernel_rfl))
  refine a_ret ?_
  refine a_post (ResV.r2 (ResOk.cell rfl rfl (.row _ CRow.h (Nat.le_of_ble_eq_true rfl) rfl)) (ResOk.tmp rfl)) (DLe.tup (.cons (DLe.agg ?_) (.cons (DLe.refl _) .nil))) PostOk.nil.spec
  repeat (first | exact DLeL.nil | refine DLeL.cons (DLe.refl _) ?_ | refine DLeL.cons (DLe.nils 1) ?_)
 ·have he : r3.err = 0:=by simpa using c1
  rw [if_neg (by simp [he])]
  refine a_skip ?_
  refine a_seq ?_
  refine a_seq ?_
  (apply a_region; (case ht=>exact .cons (o_fieldAddr rfl)<|.cons (o_load_s rfl rfl rfl)<|.nil _); (case hd=>kernel_rfl); (case hnew=>kernel_rfl))
  refine a_block ?_
  refine a_seq ?_
  (apply a_region; (case ht=>exact .cons (o_int rfl rfl rfl)<|.cons (o_assign rfl)<|.nil _); (case hd=>kernel_rfl); (case hnew=>kernel_rfl))
  refine a_cond _ rfl (fun c2=>?_) (fun c2=>?_)
  ·have h1 : v1 = 1:=by simpa using c2
   subst h1
   rw [if_pos rfl]
   have hb:=byt_drop hx (xs.length - r3.xs.length)
   have kc:=clkRead_c (xs.drop (xs.length - r3.xs.length)) hb (by simp; omega)
   have hml : (List.map (DV.int IntKind.u8) xs).length = xs.length:=by simp
   have hsl:=u8s_dropB xs (xs.length - r3.xs.length)
   refine a_seq ?_
   (apply a_region; (case ht=>((apply tc; (case h=>exact o_move rfl)); (apply tc; (case h=>exact o_move rfl)); (apply tc; (case h=>exact o_len rfl)); (apply tc; (case h=>exact o_move rfl)); (apply tc; (case h=>exact o_callN (fun _=>11) 0 k5 rfl (DLeL.refl _) (PreOk.cons rfl PreOk.nil) rfl (RoOk.cons rfl RoOk.nil))); (apply tc; (case h=>(exact o_sub rfl rfl (by simp only [InR]; omega)))); (apply tc; (case h=>(exact o_slice (xs.length - r3.xs.length) _ rfl (Bd.at rfl (by simp; omega)) Bd.no (by simp) (Nat.le_refl _)))); (apply tc; (case h=>exact o_assign rfl)); exact tn)); (case hd=>kernel_rfl); (case hnew=>kernel_rfl))
   refine a_imp (σ' := ⟨[(0,u8s xs),(2,.ref 2 0),(4,.ref 11 0),(5,.ref 5 0),(6,u8s (xs.drop (xs.length - r3.xs.length)))],[(2,some (.blk 51 (recD re0))),(11,some (rdE r3)),(5,some (.blk 51 (recD ⟨v2,v3,clk0,1,ev0,0⟩)))],[2,5,11]⟩) (Imp.of (fun i=>i) (.cons rfl (DLe.refl _) (.cons rfl (DLe.refl _) (.cons rfl (DLe.refl _) (.cons rfl (DLe.refl _) (.cons rfl (DLe.of_eq ?_) .nil))))) (.cons rfl (.refl _) (.cons rfl (.refl _) (.cons rfl (.refl _) .nil))) rfl rfl rfl) ?_
   ·exact hsl
   have hyl : (xs.drop (xs.length - r3.xs.length)).length≤140737488355328:=by simp; omega
   generalize xs.drop (xs.length - r3.xs.length) = ys at *
   refine a_seq ?_
   cases hc : clkR ys with
   | none=>
    simp only [clkRD,hc] at kc
    (apply a_region; (case ht=>exact .cons (o_move rfl)<|.cons (o_call kc rfl (DLeL.refl _) rfl)<|.cons (o_move rfl)<|.cons (o_extract rfl rfl)<|.cons (o_extract rfl rfl)<|.cons (o_extract rfl rfl)<|.cons (o_alloc rfl)<|.cons (o_store rfl rfl rfl rfl rfl rfl rfl)<|.cons (o_assign rfl)<|.cons (o_assign rfl)<|.nil _); (case hd=>kernel_rfl); (case hnew=>kernel_rfl))
    refine a_seq ?_
    refine a_seq ?_
    (apply a_region; (case ht=>exact .cons (o_move rfl)<|.cons (o_int rfl rfl rfl)<|.nil _); (case hd=>kernel_rfl); (case hnew=>kernel_rfl))
    refine a_cond _ rfl (fun c3=>?_) (fun c3=>?_)
    ·refine a_seq ?_
     (apply a_region; (case ht=>exact .cons (o_build rfl rfl rfl)<|.cons (o_store rfl rfl rfl rfl rfl rfl rfl)<|.cons (o_assign rfl)<|.nil _); (case hd=>kernel_rfl); (case hnew=>kernel_rfl))
     refine a_ret ?_
     refine a_post (ResV.r2 (ResOk.cell rfl rfl (.row _ CRow.h (Nat.le_of_ble_eq_true rfl) rfl)) (ResOk.tmp rfl)) (DLe.tup (.cons (DLe.agg ?_) (.cons (DLe.refl _) .nil))) PostOk.nil.spec
     repeat (first | exact DLeL.nil | refine DLeL.cons (DLe.refl _) ?_ | refine DLeL.cons (DLe.nils 1) ?_)
    ·simp at c3
   | some p=>
    obtain ⟨c,n⟩ := p
    simp only [clkRD,hc] at kc
    have hnl:=clkR_le ys c n hc
    have kn:=newReader_c (ys.drop n) (by simp; omega)
    have hr5 : RdOk ⟨ys.drop n,0⟩ := ⟨byt_drop hb n,by simp; omega⟩
    have ke:=readEvent_c v2 ⟨ys.drop n,0⟩ hr5
    have al:=event_args ⟨ys.drop n,0⟩ hr5 v2
    dsimp only
    generalize Rd.event v2 ⟨ys.drop n,0⟩ = qe at *
    obtain ⟨ev,r5⟩ := qe
    simp only at ke al
    dsimp only
    have kf:=rEnd_c r5
    have kk:=check_c ⟨v2,v3,c,1,ev,0⟩ (by simp only; omega) ⟨b3.1,by simp only; omega⟩
    have hsl2:=u8s_dropB ys n
    (apply a_region; (case ht=>exact .cons (o_move rfl)<|.cons (o_call kc rfl (DLeL.refl _) rfl)<|.cons (o_move rfl)<|.cons (o_extract rfl rfl)<|.cons (o_extract rfl rfl)<|.cons (o_extract rfl rfl)<|.cons (o_alloc rfl)<|.cons (o_store rfl rfl rfl rfl rfl rfl rfl)<|.cons (o_assign rfl)<|.cons (o_assign rfl)<|.nil _); (case hd=>kernel_rfl); (case hnew=>kernel_rfl))
    refine a_seq ?_
    refine a_seq ?_
    (apply a_region; (case ht=>exact .cons (o_move rfl)<|.cons (o_int rfl rfl rfl)<|.nil _); (case hd=>kernel_rfl); (case hnew=>kernel_rfl))
    refine a_cond _ rfl (fun c3=>?_) (fun c3=>?_)
    ·simp at c3
    ·refine a_skip ?_
     refine a_seq ?_
     (apply a_region; (case ht=>exact .cons (o_load_r rfl rfl rfl rfl)<|.cons (o_fieldAddr rfl)<|.cons (o_store rfl rfl rfl rfl rfl rfl rfl)<|.nil _); (case hd=>kernel_rfl); (case hnew=>kernel_rfl))
     refine a_seq ?_
     (apply a_region; (case ht=>((apply tc; (case h=>exact o_move rfl)); (apply tc; (case h=>exact o_move rfl)); (apply tc; (case h=>(exact o_slice n _ rfl (Bd.at rfl rfl) Bd.no (by simp; omega) (Nat.le_refl _)))); (apply tc; (case h=>(exact o_callN (fun _=>49) 1 kn rfl (DLeL.of_eq (by rw [hsl2]; rfl)) PreOk.nil rfl RoOk.nil))); (apply tc; (case h=>exact o_assign rfl)); exact tn)); (case hd=>kernel_rfl); (case hnew=>kernel_rfl))
     (apply a_region; (case ht=>exact .cons (o_move rfl)<|.cons (o_fieldAddr rfl)<|.cons (o_load_s rfl rfl rfl)<|.cons (o_callN (fun _=>49) 1 ke rfl (DLeL.refl _) (PreOk.cons rfl PreOk.nil) rfl RoOk.nil)<|.cons (o_fieldAddr rfl)<|.cons (o_store rfl rfl rfl rfl rfl rfl rfl)<|.nil _); (case hd=>kernel_rfl); (case hnew=>kernel_rfl))
     refine a_imp (σ' := ⟨[(0,u8s xs),(2,.ref 2 0),(4,.ref 49 0),(5,.ref 5 0)],[(2,some (.blk 51 (recD re0))),(49,some (rdE r5)),(5,some (.blk 51 (recD ⟨v2,v3,c,1,ev,0⟩)))],[2,5,49]⟩) (Imp.of (fun i=>i) (.cons rfl (DLe.refl _) (.cons rfl (DLe.refl _) (.cons rfl (DLe.refl _) (.cons rfl (DLe.refl _) .nil)))) (.cons rfl (.refl _) (.cons rfl (.refl _) (.cons rfl (.refl _) .nil))) rfl rfl rfl) ?_
     refine a_seq ?_
     refine a_seq ?_
     (apply a_region; (case ht=>((apply tc; (case h=>exact o_move rfl)); (apply tc; (case h=>exact o_callN (fun _=>49) 0 kf rfl (DLeL.refl _) (PreOk.cons rfl PreOk.nil) rfl (RoOk.cons rfl RoOk.nil))); (apply tc; (case h=>exact o_int rfl rfl rfl)); (apply tc; (case h=>exact o_move rfl)); (apply tc; (case h=>(apply o_guardF rfl rfl; (case hS=>intro hb; exact (Strips.keep Strips.nil)); (case h=>intro hb; exact o_load_r rfl rfl rfl rfl)))); (apply tc; (case h=>(apply o_guardF rfl rfl; (case hS=>intro hb; exact (Strips.strip rfl (nt hb) Strips.nil)); (case h=>intro hb; exact o_call kk rfl (DLeL.refl _) rfl)))); (apply tc; (case h=>(apply o_guardF rfl rfl; (case hS=>intro hb; exact (Strips.strip rfl (nt hb) Strips.nil)); (case h=>intro hb; exact o_int rfl rfl rfl)))); (apply tc; (case h=>exact o_or rfl rfl)); exact tn)); (case hd=>kernel_rfl); (case hnew=>kernel_rfl))
     refine a_cond _ rfl (fun c7=>?_) (fun c7=>?_)
     ·have hf : fin1 r5 ⟨v2,v3,c,1,ev,0⟩ = none:=by
       unfold fin1
       simp only [Bool.or_eq_true,bne_iff_ne] at c7
       rcases c7 with h | h
       ·rw [if_pos h]
       ·rw [if_pos h]; split <;> rfl
      rw [hf]
      refine a_seq ?_
      (apply a_region; (case ht=>exact .cons (o_build rfl rfl rfl)<|.cons (o_store rfl rfl rfl rfl rfl rfl rfl)<|.cons (o_assign rfl)<|.nil _); (case hd=>kernel_rfl); (case hnew=>kernel_rfl))
      refine a_ret ?_
      refine a_post (ResV.r2 (ResOk.cell rfl rfl (.row _ CRow.h (Nat.le_of_ble_eq_true rfl) rfl)) (ResOk.tmp rfl)) (DLe.tup (.cons (DLe.agg ?_) (.cons (DLe.refl _) .nil))) PostOk.nil.spec
      repeat (first | exact DLeL.nil | refine DLeL.cons (DLe.refl _) ?_ | refine DLeL.cons (DLe.nils 1) ?_)
     ·have hf : fin1 r5 ⟨v2,v3,c,1,ev,0⟩ = some ⟨v2,v3,c,1,ev,0⟩ := by
       unfold fin1
       simp only [Bool.or_eq_false_iff,bne_eq_false_iff_eq] at c7
       rw [if_neg (by simp [c7.1]),if_neg (by simp [c7.2])]
      rw [hf]
      refine a_skip ?_
      refine a_seq ?_
      (apply a_region; (case ht=>exact .cons (o_load_r rfl rfl rfl rfl)<|.cons (o_store rfl rfl rfl rfl rfl rfl rfl)<|.cons (o_assign rfl)<|.nil _); (case hd=>kernel_rfl); (case hnew=>kernel_rfl))
      refine a_ret ?_
      refine a_post (ResV.r2 (ResOk.cell rfl rfl (.row _ CRow.h (Nat.le_of_ble_eq_true rfl) rfl)) (ResOk.tmp rfl)) (DLe.refl _) PostOk.nil.spec
  ·have h1 : v1≠1:=by simpa using c2
   rw [if_neg h1]
   refine a_seq ?_
   (apply a_region; (case ht=>exact .cons (o_int rfl rfl rfl)<|.cons (o_assign rfl)<|.nil _); (case hd=>kernel_rfl); (case hnew=>kernel_rfl))
   refine a_cond _ rfl (fun c4=>?_) (fun c4=>?_)
   ·have h2 : v1 = 2:=by simpa using c4
    subst h2
    rw [if_pos rfl]
    have k6:=rUint_c r3 M64 o3 ⟨by decide,by decide⟩
    have b6:=uint_range o3 (m:=M64) (by decide)
    have o6:=o3.uint M64
    generalize r3.uint M64 = q6 at *
    obtain ⟨v6,r6⟩ := q6
    simp only at k6 b6 o6 ⊢
    have kf:=rEnd_c r6
    have kk:=check_c ⟨v2,v3,clk0,2,ev0,v6⟩ (Nat.zero_le _) ⟨b3.1,by simp only; omega⟩
    (apply a_region; (case ht=>exact .cons (o_move rfl)<|.cons (o_callN (fun _=>11) 1 k6 rfl (DLeL.refl _) (PreOk.cons rfl PreOk.nil) rfl RoOk.nil)<|.cons (o_fieldAddr rfl)<|.cons (o_store_s rfl rfl rfl rfl rfl)<|.nil _); (case hd=>kernel_rfl); (case hnew=>kernel_rfl))
    refine a_imp (σ' := ⟨[(0,u8s xs),(2,.ref 2 0),(4,.ref 11 0),(5,.ref 5 0)],[(2,some (.blk 51 (recD re0))),(11,some (rdE r6)),(5,some (.blk 51 (recD ⟨v2,v3,clk0,2,ev0,v6⟩)))],[2,5,11]⟩) (Imp.of (fun i=>i) (.cons rfl (DLe.refl _) (.cons rfl (DLe.refl _) (.cons rfl (DLe.refl _) (.cons rfl (DLe.refl _) .nil)))) (.cons rfl (.refl _) (.cons rfl (.refl _) (.cons rfl (.refl _) .nil))) rfl rfl rfl) ?_
    refine a_seq ?_
    refine a_seq ?_
    (apply a_region; (case ht=>((apply tc; (case h=>exact o_move rfl)); (apply tc; (case h=>exact o_callN (fun _=>11) 0 kf rfl (DLeL.refl _) (PreOk.cons rfl PreOk.nil) rfl (RoOk.cons rfl RoOk.nil))); (apply tc; (case h=>exact o_int rfl rfl rfl)); (apply tc; (case h=>exact o_move rfl)); (apply tc; (case h=>(apply o_guardF rfl rfl; (case hS=>intro hb; exact (Strips.keep Strips.nil)); (case h=>intro hb; exact o_load_r rfl rfl rfl rfl)))); (apply tc; (case h=>(apply o_guardF rfl rfl; (case hS=>intro hb; exact (Strips.strip rfl (nt hb) Strips.nil)); (case h=>intro hb; exact o_call kk rfl (DLeL.refl _) rfl)))); (apply tc; (case h=>(apply o_guardF rfl rfl; (case hS=>intro hb; exact (Strips.strip rfl (nt hb) Strips.nil)); (case h=>intro hb; exact o_int rfl rfl rfl)))); (apply tc; (case h=>exact o_or rfl rfl)); exact tn)); (case hd=>kernel_rfl); (case hnew=>kernel_rfl))
    refine a_cond _ rfl (fun c7=>?_) (fun c7=>?_)
    ·have hf : fin1 r6 ⟨v2,v3,clk0,2,ev0,v6⟩ = none:=by
      unfold fin1
      simp only [Bool.or_eq_true,bne_iff_ne] at c7
      rcases c7 with h | h
      ·rw [if_pos h]
      ·rw [if_pos h]; split <;> rfl
     rw [hf]
     refine a_seq ?_
     (apply a_region; (case ht=>exact .cons (o_build rfl rfl rfl)<|.cons (o_store rfl rfl rfl rfl rfl rfl rfl)<|.cons (o_assign rfl)<|.nil _); (case hd=>kernel_rfl); (case hnew=>kernel_rfl))
     refine a_ret ?_
     refine a_post (ResV.r2 (ResOk.cell rfl rfl (.row _ CRow.h (Nat.le_of_ble_eq_true rfl) rfl)) (ResOk.tmp rfl)) (DLe.tup (.cons (DLe.agg ?_) (.cons (DLe.refl _) .nil))) PostOk.nil.spec
     repeat (first | exact DLeL.nil | refine DLeL.cons (DLe.refl _) ?_ | refine DLeL.cons (DLe.nils 1) ?_)
    ·have hf : fin1 r6 ⟨v2,v3,clk0,2,ev0,v6⟩ = some ⟨v2,v3,clk0,2,ev0,v6⟩ := by
      unfold fin1
      simp only [Bool.or_eq_false_iff,bne_eq_false_iff_eq] at c7
      rw [if_neg (by simp [c7.1]),if_neg (by simp [c7.2])]
     rw [hf]
     refine a_skip ?_
     refine a_seq ?_
     (apply a_region; (case ht=>exact .cons (o_load_r rfl rfl rfl rfl)<|.cons (o_store rfl rfl rfl rfl rfl rfl rfl)<|.cons (o_assign rfl)<|.nil _); (case hd=>kernel_rfl); (case hnew=>kernel_rfl))
     refine a_ret ?_
     refine a_post (ResV.r2 (ResOk.cell rfl rfl (.row _ CRow.h (Nat.le_of_ble_eq_true rfl) rfl)) (ResOk.tmp rfl)) (DLe.refl _) PostOk.nil.spec
   ·have h2 : v1≠2:=by simpa using c4
    rw [if_neg h2]
    have kf:=rEnd_c r3
    have kk:=check_c ⟨v2,v3,clk0,v1,ev0,0⟩ (Nat.zero_le _) ⟨b3.1,by simp only; omega⟩
    refine a_skip ?_
    refine a_seq ?_
    refine a_seq ?_
    (apply a_region; (case ht=>((apply tc; (case h=>exact o_move rfl)); (apply tc; (case h=>exact o_callN (fun _=>11) 0 kf rfl (DLeL.refl _) (PreOk.cons rfl PreOk.nil) rfl (RoOk.cons rfl RoOk.nil))); (apply tc; (case h=>exact o_int rfl rfl rfl)); (apply tc; (case h=>exact o_move rfl)); (apply tc; (case h=>(apply o_guardF rfl rfl; (case hS=>intro hb; exact (Strips.keep Strips.nil)); (case h=>intro hb; exact o_load_r rfl rfl rfl rfl)))); (apply tc; (case h=>(apply o_guardF rfl rfl; (case hS=>intro hb; exact (Strips.strip rfl (nt hb) Strips.nil)); (case h=>intro hb; exact o_call kk rfl (DLeL.refl _) rfl)))); (apply tc; (case h=>(apply o_guardF rfl rfl; (case hS=>intro hb; exact (Strips.strip rfl (nt hb) Strips.nil)); (case h=>intro hb; exact o_int rfl rfl rfl)))); (apply tc; (case h=>exact o_or rfl rfl)); exact tn)); (case hd=>kernel_rfl); (case hnew=>kernel_rfl))
    refine a_cond _ rfl (fun c7=>?_) (fun c7=>?_)
    ·have hf : fin1 r3 ⟨v2,v3,clk0,v1,ev0,0⟩ = none:=by
      unfold fin1
      simp only [Bool.or_eq_true,bne_iff_ne] at c7
      rcases c7 with h | h
      ·rw [if_pos h]
      ·rw [if_pos h]; split <;> rfl
     rw [hf]
     refine a_seq ?_
     (apply a_region; (case ht=>exact .cons (o_build rfl rfl rfl)<|.cons (o_store rfl rfl rfl rfl rfl rfl rfl)<|.cons (o_assign rfl)<|.nil _); (case hd=>kernel_rfl); (case hnew=>kernel_rfl))
     refine a_ret ?_
     refine a_post (ResV.r2 (ResOk.cell rfl rfl (.row _ CRow.h (Nat.le_of_ble_eq_true rfl) rfl)) (ResOk.tmp rfl)) (DLe.tup (.cons (DLe.agg ?_) (.cons (DLe.refl _) .nil))) PostOk.nil.spec
     repeat (first | exact DLeL.nil | refine DLeL.cons (DLe.refl _) ?_ | refine DLeL.cons (DLe.nils 1) ?_)
    ·have hf : fin1 r3 ⟨v2,v3,clk0,v1,ev0,0⟩ = some ⟨v2,v3,clk0,v1,ev0,0⟩ := by
      unfold fin1
      simp only [Bool.or_eq_false_iff,bne_eq_false_iff_eq] at c7
      rw [if_neg (by simp [c7.1]),if_neg (by simp [c7.2])]
     rw [hf]
     refine a_skip ?_
     refine a_seq ?_
     (apply a_region; (case ht=>exact .cons (o_load_r rfl rfl rfl rfl)<|.cons (o_store rfl rfl rfl rfl rfl rfl rfl)<|.cons (o_assign rfl)<|.nil _); (case hd=>kernel_rfl); (case hnew=>kernel_rfl))
     refine a_ret ?_
     refine a_post (ResV.r2 (ResOk.cell rfl rfl (.row _ CRow.h (Nat.le_of_ble_eq_true rfl) rfl)) (ResOk.tmp rfl)) (DLe.refl _) PostOk.nil.spec
theorem decU_of : ∀ (n : Nat) (v : Int) (i : Nat) (acc : Int) (s : List Int),v.toNat≤n→0≤v→i≤9→v * 128 ^ i < 18446744073709551616→(0 < i→0 < v) →
  decU i acc (putU v++s) = some (acc + v * 128 ^ i,i + (putU v).length):=by
 intro n
 induction n with
 | zero=>
  intro v i acc s hn h0 hi hs hp
  have hv : v = 0:=by omega
  subst hv
  have hi0 : i = 0:=by
   rcases Nat.eq_zero_or_pos i with h | h
   ·exact h
   ·have:=hp h; omega
  subst hi0
  rw [putU_small (by omega)]
  simp [decU]
 | succ n ih=>
  intro v i acc s hn h0 hi hs hp
  have h9 : i = 9→v≤1:=by
   intro h; subst h
   have : (128 : Int) ^ 9 = 9223372036854775808:=by decide
   rw [this] at hs; omega
  by_cases hb : 128≤v
  ·rw [putU_big hb,List.cons_append]
   unfold decU
   rw [if_neg (by rintro ⟨h1,_⟩; have:=h9 h1; omega),if_neg (by omega)]
   have e1 : (v % 128 + 128) % 128 = v % 128:=by omega
   have e2 : (128 : Int) ^ (i + 1) = 128 * 128 ^ i:=by rw [Int.pow_succ,Int.mul_comm]
   have e3 : v * 128 ^ i = v % 128 * 128 ^ i + v / 128 * 128 ^ (i + 1):=by
    rw [e2,← Int.mul_assoc,← Int.add_mul]
    congr 1; omega
   have hp0 : (0 : Int) < 128 ^ i:=Int.pow_pos (by omega)
   have hm : 0≤v % 128 * 128 ^ i:=Int.mul_nonneg (by omega) (by omega)
   have hi9 : i < 9:=by
    rcases Nat.lt_or_ge i 9 with h | h
    ·exact h
    ·have:=h9 (by omega); omega
   rw [e1,ih (v / 128) (i + 1) _ s (by omega) (by omega) (by omega) (by omega) (fun _=>by omega)]
   rw [e3,Int.add_assoc,List.length_cons,Nat.add_assoc,Nat.add_comm 1]
  ·rw [putU_small (by omega)]
   simp only [List.cons_append,List.nil_append]
   unfold decU
   rw [if_neg (by rintro ⟨h1,h2⟩; have:=h9 h1; omega),if_pos (by omega),if_neg (by rintro ⟨h1,h2⟩; have:=hp h2; omega),Int.emod_eq_of_lt h0 (by omega)]
   rfl
theorem dec_of {v : Int} (h : U64 v) (s : List Int) : decU 0 0 (putU v++s) = some (v,(putU v).length):=by
 have:=decU_of v.toNat v 0 0 s (Nat.le_refl _) h.1 (by omega) (by simpa using h.2) (by omega)
 simpa using this
theorem uint_put {v m : Int} (h : U64 v) (hm : v≤m) (s : List Int) : (⟨putU v++s,0⟩ : Rd).uint m = (v,⟨s,0⟩):=by
 unfold Rd.uint
 simp only [ne_eq,not_true_eq_false,if_false,dec_of h]
 rw [if_neg (by omega),List.drop_left]
theorem unzig_zig {v : Int} : unzig (zig v) = v:=by
 unfold zig unzig
 split <;> split <;> omega
theorem int_put {v : Int} (h : I64 v) (s : List Int) : (⟨putI v++s,0⟩ : Rd).int = (v,⟨s,0⟩):=by
 unfold Rd.int putI
 simp only [ne_eq,not_true_eq_false,if_false,dec_of (show U64 (zig v) from zig_range h.1 h.2),unzig_zig]
 rw [List.drop_left]
theorem ints_put : ∀ (l : List Int),(∀ x∈l,I64 x)→∀ s : List Int,(⟨l.flatMap putI++s,0⟩ : Rd).ints l.length = (l,⟨s,0⟩)
 | [],_,s=>rfl
 | x :: l,h,s=>by
  simp only [List.flatMap_cons,List.append_assoc,List.length_cons,Rd.ints,int_put (h x (by simp)),ints_put l (fun y hy=>h y (by simp [hy])) s]
theorem event_put {e : Ev} {c : Int} (h : evOk e c = true) (hT : EvT e) (s : List Int) : (⟨evBytes e++s,0⟩ : Rd).event c = (e,⟨s,0⟩):=by
 obtain ⟨rfl,p0,p1,p2,p3,p4,p5,p6⟩ := evOk_ranges h
 have m : M31 = 2147483647:=rfl
 have hu : ∀ {v : Int},0≤v→v≤2147483647→U64 v:=fun a b=>⟨a,by omega⟩
 unfold Rd.event evBytes evNums
 simp only [List.flatMap_cons,List.flatMap_nil,List.append_assoc,List.nil_append,List.append_nil]
 rw [uint_put (hu p0.1 (by omega)) (by omega)]
 simp only
 rw [uint_put (hu (by omega) (by omega)) (by omega)]
 simp only
 rw [uint_put (hu p2.1 (by omega)) (by omega)]
 simp only
 rw [uint_put (hu p3.1 (by omega)) (by omega)]
 simp only
 rw [uint_put (hu p4.1 (by omega)) (by omega)]
 simp only
 rw [uint_put (hu p5.1 (by omega)) (by omega)]
 simp only
 rw [int_put hT.d]
 simp only
 rw [uint_put (hu (by omega) (by omega)) (by omega)]
 simp only [Int.toNat_natCast]
 rw [ints_put _ hT.args]
theorem ents_put : ∀ (l : List Int),(∀ x∈l,U64 x)→∀ s : List Int,ents l.length (l.flatMap putU++s) = some (l,(l.flatMap putU).length)
 | [],_,s=>rfl
 | x :: l,h,s=>by
  simp only [List.flatMap_cons,List.append_assoc,List.length_cons,ents,dec_of (h x (by simp)),List.drop_left,ents_put l (fun y hy=>h y (by simp [hy])) s,List.length_append]
theorem cents_same (c : Nat→Int) : sameTo (clkOf (cents c)) c 16 = true:=by
 rw [sameTo_iff]
 intro i hi
 unfold clkOf cents
 by_cases h : i < clen c
 ·simp [h]
 ·rw [List.getD_eq_getElem?_getD,List.getElem?_eq_none (by simpa using h)]
  exact (clenTo_above c 16 i (by unfold clen at h; omega) hi).symm
theorem clkR_put {c : Nat→Int} (h : ∀ i,U64 (c i)) (s : List Int) : clkR (clkBytes c++s) = some (clkOf (cents c),(clkBytes c).length):=by
 have hl : (cents c).length = clen c:=by simp [cents]
 have hle:=clen_le c
 have hc : clen (clkOf (cents c)) = clen c:=clenTo_congr ((sameTo_iff _ _ _).1 (cents_same c))
 have he:=ents_put (cents c) (fun x hx=>by simp only [cents,List.mem_map] at hx; obtain ⟨i,_,rfl⟩ := hx; exact h i) s
 rw [hl] at he
 unfold clkR clkBytes
 simp only [List.cons_append,Int.toNat_natCast,he,hc,if_true]
 rw [if_neg (by omega),List.length_cons,Nat.add_comm]
theorem fin1_put {x : Re} (h : validB x = true) (s : List Int) : fin1 ⟨s,0⟩ x = if s = [] then some x else none:=by
 unfold fin1 Rd.fin checkN
 rw [h]
 by_cases hs : s = []
 ·simp [hs]
 ·simp [hs]
theorem readRec_put {r : Re} (hv : validB r = true) (hT : ReT r) (s : List Int) : ∃ y,recEq y r = true∧validB y = true∧readRec (recBytes r++s) = if s = [] then some y else none:=by
 have hc:=valid_comp hv
 have hw:=valid_what hv
 have mm : M64 = 18446744073709551615:=rfl
 have hs:=hT.seq
 unfold U64 at hs
 have hb : recBytes r++s = r.what :: (putU r.comp++(putU r.seq++(recTail r++s))):=by
  unfold recBytes recHead
  rw [if_pos hv]; simp
 have hdrop : (recBytes r++s).drop ((recBytes r++s).length - (recTail r++s).length) = recTail r++s:=by
  have e : recBytes r++s = recHead r++(recTail r++s):=by unfold recBytes; rw [if_pos hv]; simp
  rw [e]
  have : (recHead r++(recTail r++s)).length - (recTail r++s).length = (recHead r).length:=by simp
  rw [this,List.drop_left]
 have h1 : (⟨recBytes r++s,0⟩ : Rd).byte = (r.what,⟨putU r.comp++(putU r.seq++(recTail r++s)),0⟩):=by rw [hb]; rfl
 have h2:=uint_put (v:=r.comp) (m:=8) ⟨hc.1,by omega⟩ hc.2 (putU r.seq++(recTail r++s))
 have h3:=uint_put (v:=r.seq) (m:=M64) hT.seq (by omega) (recTail r++s)
 unfold readRec
 simp only [h1,h2,h3,ne_eq,not_true_eq_false,if_false,hdrop]
 by_cases w1 : r.what = 1
 ·have hok : evOk r.ev r.comp = true∧r.count = 0:=by
   have:=hv
   unfold validB okWhat at this
   rw [if_pos w1] at this
   simp only [Bool.and_eq_true,beq_iff_eq] at this
   exact this.1
  have ht : recTail r++s = clkBytes r.clk++(evBytes r.ev++s):=by unfold recTail; rw [if_pos w1]; simp
  have hvy : validB ⟨r.comp,r.seq,clkOf (cents r.clk),1,r.ev,0⟩ = true:=by
   unfold validB okWhat
   simp [hok.1,inB_iff,hc]
  refine ⟨_,?_,hvy,?_⟩
  ·unfold recEq
   simp [evEq_iff,cents_same,w1,hok.2]
  ·rw [if_pos w1,ht,clkR_put hT.clk]
   simp only [List.drop_left,event_put hok.1 hT.ev]
   exact fin1_put hvy s
 ·have hbare:=valid_gap hv w1
  have hba:=hbare
  unfold bareB at hba
  simp only [Bool.and_eq_true,evEq_iff] at hba
  have hcl : sameTo clk0 r.clk 16 = true:=by
   rw [sameTo_iff]; intro i hi; exact ((sameTo_iff _ _ _).1 hba.1 i hi).symm
  have h00 : sameTo clk0 clk0 16 = true:=(sameTo_iff _ _ _).2 fun _ _=>rfl
  rw [if_neg w1]
  by_cases w2 : r.what = 2
  ·have hcn : 0 < r.count∧r.count≤18446744073709551615 - r.seq:=by
    have:=hv
    unfold validB okWhat at this
    rw [if_neg w1,if_pos w2] at this
    simp only [Bool.and_eq_true,decide_eq_true_eq] at this
    exact ⟨this.1.1.2,this.1.2⟩
   have ht : recTail r++s = putU r.count++s:=by unfold recTail; rw [if_neg w1,if_pos w2]
   have hvy : validB ⟨r.comp,r.seq,clk0,2,ev0,r.count⟩ = true:=by
    unfold validB okWhat bareB
    simp [h00,evEq_iff,inB_iff,hc,hcn]
   refine ⟨_,?_,hvy,?_⟩
   ·unfold recEq
    simp [evEq_iff,hcl,w2,hba.2]
   ·rw [if_pos w2,ht,uint_put hT.count (by have:=hT.count.2; omega)]
    exact fin1_put hvy s
  ·have w3 : r.what = 3:=by omega
   have hcn:=valid_count3 hv w1 w2
   have ht : recTail r++s = s:=by unfold recTail; rw [if_neg w1,if_neg w2]; rfl
   have hvy : validB ⟨r.comp,r.seq,clk0,r.what,ev0,0⟩ = true:=by
    unfold validB okWhat bareB
    simp [h00,evEq_iff,inB_iff,hc,w3]
   refine ⟨_,?_,hvy,?_⟩
   ·unfold recEq
    simp [evEq_iff,hcl,hba.2,hcn]
   ·rw [if_neg w2,ht]
    exact fin1_put hvy s
theorem putU_byt {v : Int} (h : 0≤v) : ∀ b∈putU v,Byt b:=putU_byte _ v (Nat.le_refl _) h
theorem putI_byt (v : Int) : ∀ b∈putI v,Byt b:=putU_byt (zig_nonneg v)
theorem flatU_byt {l : List Int} (h : ∀ x∈l,0≤x) : ∀ b∈l.flatMap putU,Byt b:=by
 intro b hb
 obtain ⟨x,hx,hb⟩ := List.mem_flatMap.1 hb
 exact putU_byt (h x hx) b hb
theorem recBytes_byt {r : Re} (hT : ReT r) : ∀ b∈recBytes r,Byt b:=by
 unfold recBytes
 split
 ·rename_i hv
  have hc:=valid_comp hv
  have hw:=hT.what
  intro b hb
  rcases List.mem_append.1 hb with hb | hb
  ·unfold recHead at hb
   rcases List.mem_cons.1 hb with rfl | hb
   ·exact hw
   ·rcases List.mem_append.1 hb with hb | hb
    ·exact putU_byt hc.1 b hb
    ·exact putU_byt hT.seq.1 b hb
  ·unfold recTail at hb
   split at hb
   ·rename_i h1
    obtain ⟨he,_⟩ := valid_entry hv h1
    obtain ⟨_,p0,p1,p2,p3,p4,p5,p6⟩ := evOk_ranges he
    rcases List.mem_append.1 hb with hb | hb
    ·rcases List.mem_cons.1 hb with rfl | hb
     ·have:=clen_le r.clk; exact ⟨by omega,by omega⟩
     ·exact flatU_byt (fun x hx=>by simp only [cents,List.mem_map] at hx; obtain ⟨i,_,rfl⟩ := hx; exact (hT.clk i).1) b hb
    ·unfold evBytes at hb
     rcases List.mem_append.1 hb with hb | hb
     ·rcases List.mem_append.1 hb with hb | hb
      ·rcases List.mem_append.1 hb with hb | hb
       ·exact flatU_byt (by simp only [evNums,List.mem_cons,List.not_mem_nil,or_false]; rintro x (rfl | rfl | rfl | rfl | rfl | rfl) <;> omega) b hb
       ·exact putI_byt _ b hb
      ·exact putU_byt (by omega) b hb
     ·obtain ⟨x,_,hb⟩ := List.mem_flatMap.1 hb
      exact putI_byt x b hb
   ·split at hb
    ·exact putU_byt hT.count.1 b hb
    ·cases hb
 ·intro b hb; cases hb
theorem recBytes_ne {r : Re} (h : validB r = true) : recBytes r≠[]:=by
 unfold recBytes recHead; rw [if_pos h]; simp
theorem flat_len {f : Int→List Int} {k : Nat} : ∀ (l : List Int),(∀ x∈l,(f x).length≤k)→(l.flatMap f).length≤k * l.length
 | [],_=>by simp
 | x :: l,h=>by
  have h1:=h x (by simp)
  have h2:=flat_len l (fun y hy=>h y (by simp [hy]))
  rw [List.flatMap_cons,List.length_append,List.length_cons,Nat.mul_succ]; omega
theorem recBytes_small {r : Re} (hT : ReT r) : (recBytes r).length≤400:=by
 unfold recBytes
 split
 ·rename_i hv
  have hc:=valid_comp hv
  have l1:=putU_ten (v:=r.comp) (by omega)
  have l2:=putU_ten hT.seq.2
  have l3:=putU_ten hT.count.2
  have hh : (recHead r).length≤21:=by unfold recHead; simp; omega
  have ht : (recTail r).length≤300:=by
   unfold recTail
   split
   ·rename_i h1
    obtain ⟨he,_⟩ := valid_entry hv h1
    obtain ⟨_,p0,p1,p2,p3,p4,p5,p6⟩ := evOk_ranges he
    have k1:=clen_le r.clk
    have k2:=entB_len hT.clk (clen r.clk)
    have k3:=flat_len (f:=putU) (k:=10) (evNums r.ev) (by
     simp only [evNums,List.mem_cons,List.not_mem_nil,or_false]
     rintro x (rfl | rfl | rfl | rfl | rfl | rfl) <;> exact putU_ten (by omega))
    have k4:=flat_len (f:=putI) (k:=10) r.ev.args (fun x hx=>putU_ten (zig_range (hT.ev.args x hx).1 (hT.ev.args x hx).2).2)
    have k5 : (putI r.ev.d).length≤10:=putU_ten (zig_range hT.ev.d.1 hT.ev.d.2).2
    have k6:=putU_ten (v:=(r.ev.args.length : Int)) (by omega)
    have k7 : (evNums r.ev).length = 6:=rfl
    rw [clkBytes_eq]
    unfold evBytes
    simp only [List.length_append,List.length_cons]
    omega
   ·split
    ·omega
    ·simp
  rw [List.length_append]; omega
 ·simp
def record_Check (x : RRec) : Option Int:=chk (reFits x = true) (some (checkN (reOf x)))
theorem record_Check_c {x : RRec} {r : Int} (hM : record_Check x = some r) : PCall Tryz.prog 18 [.agg x.cs] (.int .i64 r):=by
 obtain ⟨h,hM⟩ := of_chk hM
 obtain rfl:=Option.some.inj hM
 have:=reFits_T h
 have k:=check_c (reOf x) this.2 this.1.seq
 rw [reOf_D] at k; exact k
def RRec_Bytes (x : RRec) : Option (List Int):=chk (reFits x = true) (some (recBytes (reOf x)))
theorem RRec_Bytes_c {x : RRec} {r : List Int} (hM : RRec_Bytes x = some r) : PCall Tryz.prog 13 [.agg x.cs] (.sl 1 (List.map (DV.int .u8) r)):=by
 obtain ⟨h,hM⟩ := of_chk hM
 obtain rfl:=Option.some.inj hM
 have:=reFits_T h
 have k:=recBytes_c (reOf x) this.2 this.1
 rw [reOf_D] at k; exact k
def ofRe (y : Re) : RRec := ⟨y.comp,y.seq,⟨y.clk⟩,y.what,⟨y.ev.tick,y.ev.comp,y.ev.kind,y.ev.peer,y.ev.n,y.ev.copy,y.ev.handler,y.ev.d,y.ev.args⟩,y.count⟩
def bytOk (xs : List Int) : Bool:=xs.all (okI .u8) && decide (xs.length≤140737488355328)
def record_Read (xs : List Int) : Option (RRec × Int):=chk (bytOk xs = true) (some (match readRec xs with
 | none=>(ofRe re0,6)
 | some y=>(ofRe y,0)))
theorem record_Read_c {xs : List Int} {r : RRec × Int} (hM : record_Read xs = some r) : PCall Tryz.prog 42 [.sl 1 (List.map (DV.int .u8) xs)] (.tup [.agg r.1.cs,.int .i64 r.2]):=by
 obtain ⟨h,hM⟩ := of_chk hM
 obtain rfl:=Option.some.inj hM
 simp only [bytOk,Bool.and_eq_true,List.all_eq_true,okI_iff,InR,decide_eq_true_eq] at h
 have k:=read_c xs (fun b hb=>h.1 b hb) h.2
 cases hr : readRec xs with
 | none=>rw [hr] at k; exact k
 | some y=>rw [hr] at k; exact k
theorem rsl_ints' {F : FMap} {γ : Gam} {α : Type} (k : IntKind) (c : α→Int) : ∀ (l : List α),RsL F γ (l.map fun i=>.int k (c i)) (l.map fun i=>Value.int k (c i))
 | []=>by simp only [List.map_nil,RsL]
 | i :: l=>by
  simp only [List.map_cons,RsL]
  exact ⟨_,_,rfl,rfl,by simp only [Rs],rsl_ints' k c l⟩
def vclock_Of (x0 : List Int) : Option (VClk × Int):=chk (x0.length≤16) (some (⟨clkOf x0⟩,0))
theorem vclock_Of_c {x0 : List Int} {r : VClk × Int} (hM : vclock_Of x0 = some r) : PCall Tryz.prog 52 [.sl 1 (List.map (DV.int .u64) x0)] (.tup [.agg (VClk.cs r.1),.int .i64 r.2]):=by
 obtain ⟨hl,hM⟩ := of_chk hM
 obtain rfl:=Option.some.inj hM
 refine PCall.ofExt fun F w vs hF hv=>?_
 obtain ⟨v,rfl,h1⟩ := one_arg hv
 obtain ⟨A,c,rfl,hok,hat⟩ := sl_ints hF h1
 refine (Of_any A c x0 w hat (fun h=>(hok.1 h).2) hl).mono fun e w' ⟨he,hx⟩=>⟨_,he,hx,?_⟩
 simp only [Rs]
 refine ⟨_,rfl,?_⟩
 simp only [RsT]
 refine ⟨_,_,rfl,?_,_,_,rfl,by simp only [Rs],rfl⟩
 simp only [Rs]
 refine ⟨_,rfl,?_⟩
 rw [clkA_list]
 exact rsl_ints' .u64 (clkOf x0) (List.range 16)
end Go.Proofs.YtifaebmmbpkclaaGreatDoor

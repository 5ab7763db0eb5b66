/- Part 1 of what the claim leans on. -/
import Derived.WalkKit
import Derived.WalkSpells
import Derived.WalkLawsBesides
import Derived.Lib.Hide
import Derived.Maps.AppendAt
import Derived.Deep.AppendLies
import Derived.Deep.MidRow
import Derived.Deep.Draws
import Derived.Deep.DeepMust
import Derived.Deep.DeepFit
import Derived.Deep.LoopGhost
import Derived.Deep.QuietTactic
import Derived.BigQuiet
import Derived.Outline
import Derived.OrdersIn
import Derived.Sort.LoopGhostIn
import Derived.RangeFuncIn
import Derived.ProofKit
import Derived.OpenShut
import Derived.JoinedCond
import Derived.Deep.Slices
import Derived.Lib.LaidTab
import Derived.Laws.StructEq
import Derived.ChangeKeysEq
import Derived.Lib.AppendZerosOnto
import Derived.MapKept
import Derived.WideKeyRuns
import Derived.Laws.BytesArg
import Derived.Lib.ConvBytes
import Derived.Laws.CopyRow
import Derived.Lib.AppendStr
import Derived.Laws.Externs
import Derived.Lib.Builder
import Derived.Lib.UnsafeStr
import Derived.Shelf.Strings.OnBuilder
import Derived.Lib.Overlaps
import Derived.Lib.Walk
import Derived.BigCall
import Derived.BigGuard
import Derived.Shelf.RegionOpenPlain
import Derived.RangeFuncSeq
import Derived.RangeFuncLeaves
import Derived.SevenTiedAt
import Derived.LaidLaws
set_option linter.unusedVariables false
set_option linter.unusedSimpArgs false
set_option maxHeartbeats 1000000
set_option maxRecDepth 100000
namespace Go.Proofs.YtaafmkmdfcgeaaaGreatDoor
section
variable {p:Prop}
theorem ah(h:p:=by omega):p:=h
theorem bB(h:p:=by dsimp only;omega):p:=h
theorem bp(h:p:=by kernel_rfl):p:=h
theorem aV(h:p:=by decide):p:=h
theorem aR(h:p:=by simp):p:=h
theorem uR(h:p:=by simp only[ByteArray.size_append,szc,List.length_cons,List.length_nil];omega):p:=h
theorem fF(h:p:=by dsimp only;decide):p:=h
theorem eH(h:p:=by assumption):p:=h
theorem gx(h:p:=by unfold m64;omega):p:=h
theorem eJ(h:p:=by simp_all):p:=h
theorem dw(h:p:=by cases hb):p:=h
theorem dI(h:p:=by cases h):p:=h
theorem yT(h:p:=by unfold dK;simp only[List.length_singleton];omega):p:=h
theorem iC(h:p:=by simp;omega):p:=h
theorem tX(h:p:=by rw[IntKind.wrap_i64];omega):p:=h
theorem oL(h:p:=by rw[hlen];decide):p:=h
theorem dF(h:p:=by rfl):p:=h
theorem EF(h:p:=by simp only[List.length_append,List.length_singleton];omega):p:=h
theorem qm(h:p:=by unfold kY;omega):p:=h
theorem Gr(h:p:=by dsimp only[Lm]at a;omega):p:=h
theorem Ku(h:p:=by simp only[Rs]at h |-;rw[<-hi id (by simp[DV.ids])];exact h):p:=h
theorem AW(h:p:=by simp only[Rs]at h |-;exact h):p:=h
theorem zG(h:p:=by rw[List.length_take];omega):p:=h
theorem vI(h:p:=by unfold fC;omega):p:=h
theorem Kt(h:p:=by simp only[DV.xT,Rs];rw[hi id (by simp[DV.ids])]):p:=h
theorem yS(h:p:=by simp[cF,look]at h):p:=h
theorem xM(h:p:=by unfold oO;omega):p:=h
theorem Ir(h:p:=by unfold m64;dsimp only;omega):p:=h
theorem ql(h:p:=by simp[h]):p:=h
theorem Nu(h:p:=by simpa only[DV.ids]using hi):p:=h
theorem nV(h:p:=by grind):p:=h
theorem Nt(h:p:=by have:=hr.2;dsimp only at this |-;omega):p:=h
theorem Ye(h:p:=by dsimp only;rw[List.length_append,List.length_singleton];omega):p:=h
theorem DE(h:p:=by simp at hj;omega):p:=h
theorem Nr(h:p:=by unfold rZ at e;simp at e;omega):p:=h
theorem SD(h:p:=by unfold cl;exact al (t':=false) rfl rfl):p:=h
theorem Cn(h:p:=by simp only[Rs]):p:=h
theorem SB(h:p:=by rw[Int.toNat_natCast]at h;exact h.all):p:=h
theorem SA(h:p:=by simp only[List.length_singleton];omega):p:=h
theorem Nq(h:p:=by unfold fC;split <;> omega):p:=h
theorem Iq(h:p:=by simp only[DV.xT,Rs]):p:=h
theorem DD(h:p:=by simpa using hb):p:=h
theorem adO(h:p:=by unfold cl;exact OI (m:={ m with cG:=s }) (by dsimp only;omega)):p:=h
theorem EE(h:p:=by simp at h;omega):p:=h
theorem Np(h:p:=by rw[List.length_set];omega):p:=h
theorem DB(h:p:=by simpa using h):p:=h
theorem adN(h:p:=by rw[hS,List.length_drop,List.length_take,Array.length_toList,BW];omega):p:=h
theorem Gq(h:p:=by cases sh;omega):p:=h
theorem Ip(h:p:=by have:=hs.1;omega):p:=h
theorem adM(h:p:=by simp only[AS.app,List.singleton_append];rw[eK,if_pos rfl]):p:=h
theorem Yd(h:p:=by unfold cl;exact dD (aL (aj rfl))):p:=h
theorem Ks(h:p:=by unfold maxLen;omega):p:=h
theorem Cm(h:p:=by rw[e];rfl):p:=h
theorem Sz(h:p:=by simp[fA]at hb;omega):p:=h
theorem ajt(h:p:=by unfold cl;exact Fq h (t:=1) (by omega) (by dsimp only[Lm]at a;omega) (by dsimp only[Lm]at a;omega)):p:=h
theorem ajs(h:p:=by simp only[Rs]at h |-;obtain⟨cs,rfl,h⟩:=h;exact⟨cs,rfl,Ec ds _ (by simpa only[DV.ids]using hi) h⟩):p:=h
theorem Nn(h:p:=by dsimp only[mkC];omega):p:=h
theorem Yc(h:p:=by first|exact hAs|exact hAs.trans BW):p:=h
theorem AV(h:p:=by simp at h):p:=h
theorem adL(h:p:=by simp only[szc,List.length_cons,List.length_nil];omega):p:=h
theorem Io(h:p:=by split <;> omega):p:=h
theorem adK(h:p:=by rw[<-q6,List.take_take,Nat.min_eq_left (by omega)]):p:=h
theorem adJ(h:p:=by cases A <;> simp[Op.equalIn,run_underlying hT.GP]):p:=h
theorem ajr(h:p:=by simp only[Rs,DV.ZJ]at hd |-;obtain⟨cs,rfl,hd⟩:=hd;exact⟨cs,rfl,Yn hF h ds _ hd⟩):p:=h
theorem ajq(h:p:=by rw[hg]at oV;injection oV with oV;subst oV;exact⟨b,cs,e1,e2,hl.anj q1 q2 (by exact q3)⟩):p:=h
theorem ajp(h:p:=by simp only[Rs,DV.sb]at hd |-;obtain⟨cs,rfl,hd⟩:=hd;exact⟨cs,rfl,afb hF h ds _ hd⟩):p:=h
theorem Sy(h:p:=by simp[getObj,Sem.run,hb]):p:=h
theorem Sx(h:p:=by simp only[Rs];simp_all):p:=h
theorem Yb(h:p:=by dsimp only;rw[JX];omega):p:=h
theorem Ya(h:p:=by rw[List.length_append];omega):p:=h
theorem Sw(h:p:=by simp[Region.wanted,hg]):p:=h
theorem Gp(h:p:=by simp[hx]):p:=h
theorem ajo(h:p:=by unfold cl;exact Fq h (t:=3) (by omega) (by omega) (by dsimp only[Lm]at a;omega)):p:=h
theorem adI(h:p:=by unfold cl;exact ih hs (by omega) (by omega)):p:=h
theorem adH(h:p:=by unfold cl;exact ih hz (by omega) (by omega)):p:=h
theorem XZ(h:p:=by simp[Act.eval,Act.put];rfl):p:=h
theorem ajn(h:p:=by simp only[Rs]at h |-;obtain⟨cs,rfl,h⟩:=h;exact⟨cs,rfl,tQ.mono hF hg ds _ h⟩):p:=h
theorem ajm(h:p:=by simp only[AS.app,List.singleton_append];rw[eK,if_neg hxt,gK];exact h):p:=h
theorem ED(h:p:=by simp at e):p:=h
theorem Kr(h:p:=by rw[h];simp):p:=h
theorem XY(h:p:=by simp[List.getElem?_map,k1]):p:=h
theorem adG(h:p:=by unfold cl;exact al (t':=true) rfl rfl):p:=h
theorem ajl(h:p:=by rw[List.getElem?_append_left];exact hv;exact(List.getElem?_eq_some_iff.1 hv).1):p:=h
theorem Sv(h:p:=by unfold m64;decide):p:=h
theorem ajk(h:p:=by simp[execOp,resolve,invoke,builtin,Builtin.len_,run_underlying hu,e1,Gz,goInt,hl]):p:=h
theorem adF(h:p:=by simp only[Nat.min_def];split <;> omega):p:=h
theorem XX(h:p:=by simp[Act.eval,Act.put]):p:=h
theorem XW(h:p:=by unfold m64;simp;omega):p:=h
theorem XV(h:p:=by rw[<-Array.toList_map]):p:=h
theorem XU(h:p:=by simp[FW,Fence.wide]at h):p:=h
theorem adE(h:p:=by simp[fA]at hb;exact hb.symm):p:=h
theorem Su(h:p:=by unfold m64;simp):p:=h
theorem Sr(h:p:=by simp at hb;omega):p:=h
theorem adC(h:p:=by dsimp only;rw[OV];omega):p:=h
theorem ajj(h:p:=by simp only[Bool.or_eq_true,decide_eq_true_eq,beq_iff_eq]at hb;omega):p:=h
theorem Sq(h:p:=by simpa using hx):p:=h
theorem XT(h:p:=by unfold cl;exact e2):p:=h
theorem adB(h:p:=by simp[execOp,e,Ri];rfl):p:=h
theorem aji(h:p:=by have:cs.length<=4000:=(by rw[afs];exact hE.cl);omega):p:=h
theorem VW(h:p:=by rw[ht,List.length_take];omega):p:=h
theorem VV(h:p:=by rw[<-List.drop_drop,e1];rfl):p:=h
theorem VU(h:p:=by have:=so.dk;dsimp only;omega):p:=h
theorem VT(h:p:=by rw[List.length_set];exact s1):p:=h
theorem VS(h:p:=by rw[List.map_map];exact k2):p:=h
theorem PE(h:p:=by rw[hn];exact ht):p:=h
theorem PD(h:p:=by unfold inB;omega):p:=h
theorem PC(h:p:=by cases sh <;> omega):p:=h
theorem aeO(h:p:=by rw[NB.pre _ (by omega),hr3.pre _ (by omega)];exact hx):p:=h
theorem VR(h:p:=by dsimp only at gl |-;omega):p:=h
theorem VQ(h:p:=by rw[fW];simp[hj2]):p:=h
theorem aeN(h:p:=by rw[List.length_append,List.length_singleton];omega):p:=h
theorem aeM(h:p:=by simp[execOp,e,Instr.storeAt,Instr.sureAddr,kp];rfl):p:=h
theorem VP(h:p:=by rw[Nat.succ_mul];omega):p:=h
theorem VO(h:p:=by rw[hs.size,hn];exact ht0):p:=h
theorem aeL(h:p:=by rw[<-BW]at hv;exact List.mem_of_mem_take hv):p:=h
theorem aeK(h:p:=by rw[<-Tc];exact List.mem_map.2 ⟨u,hu,rfl⟩):p:=h
theorem aeJ(h:p:=by have:(0:Int)<j:=of_decide_eq_true h;omega):p:=h
theorem PB(h:p:=by rw[hL];omega):p:=h
theorem aeI(h:p:=by dsimp only;rw[hwi,wrap_i64 (by omega) (by omega)]):p:=h
theorem aeH(h:p:=by rw[hV,List.length_take,Array.length_toList];omega):p:=h
theorem VN(h:p:=by rw[GA];exact wM.pos):p:=h
theorem VM(h:p:=by rw[so.nv];exact hA.2):p:=h
theorem VL(h:p:=by simp[h1,Nat.succ_mul]):p:=h
theorem PA(h:p:=by simpa using r1):p:=h
theorem VK(h:p:=by subst e;exact aj rfl):p:=h
theorem aeG(h:p:=by rw[List.length_take,Array.length_toList];omega):p:=h
theorem aeF(h:p:=by rw[hS]at hv;exact List.mem_of_mem_drop hv):p:=h
theorem Pz(h:p:=by simpa using hj):p:=h
theorem VJ(h:p:=by rw[De];omega):p:=h
theorem aeE(h:p:=by rw[List.length_replicate,Int.toNat_natCast]):p:=h
theorem aeD(h:p:=by rw[fW];exact List.getElem?_eq_getElem h):p:=h
theorem aeC(h:p:=by rw[wrap_i64 (by omega) (by omega)];omega):p:=h
theorem aeB(h:p:=by simp[execOp,e,Instr.loadAt,Instr.sureAddr,r1]):p:=h
theorem aeA(h:p:=by simp only[DV.xT,Rs];exact uu _ _ _):p:=h
theorem aey(h:p:=by unfold mj;split;decide;split <;> decide):p:=h
theorem aex(h:p:=by rw[IntKind.wrap_i64,IntKind.wrap_i64];omega):p:=h
theorem VI(h:p:=by simp[fA,e]):p:=h
theorem aew(h:p:=by simp[execOp,k1,k2,eqGuard,binOp,Op.shift,hb]):p:=h
theorem Hy(h:p:=by cases hq):p:=h
theorem Py(h:p:=by simp[dj.up]):p:=h
theorem aev(h:p:=by unfold fS;rw[if_neg (by omega)];omega):p:=h
theorem aeu(h:p:=by funext i;unfold vp;cases γ i <;> rfl):p:=h
theorem VH(h:p:=by rw[JX];omega):p:=h
theorem aet(h:p:=by rw[<-Tc];exact Dy F γ _ aov):p:=h
theorem Px(h:p:=by simpa using e):p:=h
theorem aes(h:p:=by have:=hs.ev hx;simpa only[Rs]using this):p:=h
theorem aer(h:p:=by have:=hW.g0;rw[hCr]at this;exact this):p:=h
theorem VG(h:p:=by rw[d1];exact r1):p:=h
theorem VF(h:p:=by rw[e]at h;cases h):p:=h
theorem aeq(h:p:=by rw[wrap_u8 (by omega) (by omega)];omega):p:=h
theorem aep(h:p:=by rw[Int.toNat_natCast]at h;exact h):p:=h
theorem aeo(h:p:=by rw[ajE];unfold dK;simp;omega):p:=h
theorem aen(h:p:=by rw[yE PV];exact abt hg):p:=h
theorem aem(h:p:=by rw[wrap_i64 (by omega) (by omega)];rfl):p:=h
theorem VE(h:p:=by have:=h.1;omega):p:=h
theorem ael(h:p:=by rw[hm]at r2;exact Option.some.inj r2):p:=h
theorem aek(h:p:=by rw[run_findKey_eq w hM.wide];exact f1):p:=h
theorem aej(h:p:=by unfold cl;exact OI (by omega)):p:=h
theorem aei(h:p:=by unfold fq;rw[if_neg (by omega)]):p:=h
theorem Pw(h:p:=by rw[h];rfl):p:=h
theorem Pv(h:p:=by simp[hi]):p:=h
theorem Pu(h:p:=by simp[hm]):p:=h
theorem aeh(h:p:=by rw[<-BW,List.length_take];omega):p:=h
theorem aeg(h:p:=by unfold rZ;rw[if_pos (by omega)]):p:=h
theorem VD(h:p:=by cases h <;> omega):p:=h
theorem VB(h:p:=by congr 4;omega):p:=h
theorem aef(h:p:=by have:=s4.ws.f0;rwa [hFR]at this):p:=h
theorem aee(h:p:=by rw[List.length_set];exact so.nt):p:=h
theorem aed(h:p:=by rw[NB.pre _ (by omega)];exact hx):p:=h
theorem aec(h:p:=by rw[t1]at IP;simpa using IP):p:=h
theorem VA(h:p:=by simp[Ii]at h):p:=h
theorem Vz(h:p:=by simpa using ih):p:=h
theorem Vy(h:p:=by simpa using r2):p:=h
theorem aeb(h:p:=by have:=hb.symm;simp at this;omega):p:=h
theorem aea(h:p:=by rw[List.length_set];exact hs):p:=h
theorem ad9(h:p:=by unfold fC;dsimp only;omega):p:=h
theorem Vx(h:p:=by decide +kernel):p:=h
theorem Vw(h:p:=by rw[k1];simp):p:=h
theorem ad8(h:p:=by show(0:Int)<=(q:Int);omega):p:=h
theorem ad7(h:p:=by simp[Value.cells,Value.oneCell']):p:=h
theorem ad6(h:p:=by simp only[DV.sb];exact h _ v hd):p:=h
theorem ad5(h:p:=by simp only[fZ]at h |-;exact h):p:=h
theorem ad4(h:p:=by simp only[tQ]at h |-;exact h):p:=h
theorem Vv(h:p:=by simpa using hp):p:=h
theorem ad3(h:p:=by rw[List.length_append,h.1];rfl):p:=h
theorem ad2(h:p:=by rw[<-hs.params];exact w1):p:=h
theorem ad1(h:p:=by unfold fq;split <;> decide):p:=h
theorem ad0(h:p:=by rw[List.length_map];omega):p:=h
theorem adZ(h:p:=by rw[hs,List.length_take];omega):p:=h
theorem adY(h:p:=by rw[<-List.drop_drop,e2];rfl):p:=h
theorem adX(h:p:=by rw[<-hs.flags];exact w1):p:=h
theorem Vu(h:p:=by simp[execOp,e]):p:=h
theorem adW(h:p:=by simpa [fA]using s1):p:=h
theorem adV(h:p:=by unfold maxLen at hG2;exact hG2):p:=h
theorem adU(h:p:=by dsimp only;rw[hz];omega):p:=h
theorem adT(h:p:=by rw[<-hs.ints];exact hi):p:=h
theorem adS(h:p:=by simp[sizeOf,typeInfo,hi,DJ]):p:=h
theorem adR(h:p:=by have:=hr.2;dsimp only;omega):p:=h
theorem Pt(h:p:=by simp[h1]):p:=h
theorem adQ(h:p:=by unfold jn at hM;exact hM):p:=h
theorem adP(h:p:=by unfold maxLen at q4;exact q4):p:=h
end
open Go.RowKit
def Ext(w w':World):Prop:=Below w.heap.size w w'
theorem Ext.below{a b:World}(h:Ext a b):Below a.heap.size a b:=h
def At(w:World)(A:Option Addr)(vs:List Value):Prop:=vs≠[]->∃b o,A=some ⟨b,o,none⟩∧w.rangeAt b o vs
theorem At.elim{w:World}{A:Option Addr}{vs:List Value}(h:At w A vs)(hn:vs≠[]):∃b o,A=some ⟨b,o,none⟩∧w.rangeAt b o vs:=h hn
theorem At.mk{w:World}{A:Option Addr}{vs:List Value}(h:vs≠[]->∃b o,A=some ⟨b,o,none⟩∧w.rangeAt b o vs):At w A vs:=h
theorem At.nil(w:World)(A:Option Addr):At w A []:=λh=>absurd rfl h
theorem rangeAt.take{w:World}{b o:Nat}{vs:List Value}(h:w.rangeAt b o vs)(k:Nat):w.rangeAt b o (vs.take k):=λj v hv=>by
 rw[List.getElem?_take]at hv
 split at hv
 .exact h _ v hv
 .cases hv
theorem At.take{w:World}{A:Option Addr}{vs:List Value}(h:At w A vs)(k:Nat):At w A (vs.take k):=λhn=>by
 have h0:vs≠[]:=by rintro rfl;simp at hn
 obtain⟨b,o,rfl,hr⟩:=h h0;exact⟨b,o,rfl,rangeAt.take hr k⟩
theorem At.cell{w:World}{A:Option Addr}{vs:List Value}(h:At w A vs){j:Nat}{v:Value}(hv:vs[j]? = some v):∃b o,A=some ⟨b,o,none⟩∧w.cell? ⟨b,o+j,none⟩=some v:=by
 have hn:vs≠[]:=by rintro rfl;simp at hv
 obtain⟨b,o,rfl,hr⟩:=h hn;exact⟨b,o,rfl,hr j v hv⟩
theorem At.add{w:World}{ad:Addr}{vs:List Value}(h:At w (some ad) vs):∀j u,vs[j]? = some u->w.cell? (ad.add j)=some u:=λj u hu=>by
 obtain⟨b,o,e,hc⟩:=h.cell hu;injection e with e
 subst e;rw[Addr.add_mid];exact hc
theorem abx{w:World}{base:Nat}{e:TypeId}{size:Nat}{A:Option Addr}{n c:Nat}{vs:List Value}(h:w.ownsRow base e size (.slice A n c) n vs):At w A vs:=λhn=>by
 have h0:0<n:=by
  rcases Nat.eq_zero_or_pos n with h0|h0
  .subst h0
   have:=h.1;simp at this;exact absurd this hn
  .exact h0
 obtain⟨g,cap,hv,_,_⟩:=h.form h0;have hA:A=some ⟨g,0,none⟩:=by injection hv
 subst hA;refine⟨g,0,rfl,λj v hv=>?_⟩;have:=h.cells (g:=g) rfl j v hv;rw[Addr.add_mid]at this;exact this
theorem FQ{w:World}{base:Nat}{e:TypeId}{size:Nat}{v:Value}{n:Nat}{vs:List Value}(h:w.ownsRow base e size v n vs):∃A c,v = .slice A n c:=by
 rcases h.2 with⟨rfl,rfl⟩|⟨g,cap,cur,rfl,_⟩
 .exact⟨_,_,rfl⟩
 .exact⟨_,_,rfl⟩
structure El(P:Program)(t e:TypeId)(z:Value)(size bytes:Nat):Prop where
 under:P.underlying t=some (.slice e)
 info:∃i,P.info? e=some i∧i.zero=some z∧i.size=size∧i.bytes=bytes
 Eo:z.cells.size=size
 pos:0<size
section
variable {P:Program} (w:World)
theorem WQ{t e:TypeId}{z:Value}{size bytes:Nat}(E:El P t e z size bytes)(ty:TypeId)(base:Nat)
  (v:Value) (n:Nat) (xs:List Value) (DK:w.ownsRow base e size v n xs)
  (A:Option Addr) (m c:Nat) (news:List Value) (hl:news.length=m*size) (KH:At w A news) (h1:∀u∈news,u.oneCell'=true)
  (alr:(n+m)*bytes<=140737488355328) (h63:n+m<=140737488355328) (aow:base<=w.heap.size) :
  ∃A' c' w',(Builtin.append_ #[t,t] ty #[v,.slice A m c]).run P w = .ok (.slice A' (n+m) c') w'∧w'.ownsRow base e size (.slice A' (n+m) c') (n+m) (xs++news)∧w.grownBy w' v.ownBlock ∧
   ((Value.slice A' (n+m) c').ownBlock=v.ownBlock∨(Value.slice A' (n+m) c').ownBlock=some w.heap.size):=by
 obtain⟨i,hi,hz,yl,hby⟩:=E.info;rcases A with _|ad
 .have hn:news = []:=by
   rcases List.eq_nil_or_concat news with h|⟨l,x,h⟩
   .exact h
   .obtain⟨b,o,h2,_⟩:=KH Kr
    cases h2
  subst hn
  have hm:m=0:=by
   have:=E.pos;rcases Nat.eq_zero_or_pos m with h|h
   .exact h
   .have h3:=Nat.mul_pos h E.pos
    simp at hl;omega
  subst hm;obtain⟨A',c',rfl⟩:=FQ DK;refine⟨A',c',w,?_,by simpa using DK,World.grownBy.refl w _,.inl rfl⟩;rcases DK.2 with⟨h,rfl⟩|⟨g,cap,cur,h,_,_,hnc,_⟩
  .injection h with hA _ hc
   subst hA hc;simp[Builtin.append_,run_underlying E.under,sizeOf,typeInfo,hi,Builtin.lenOf,Builtin.firstCells]
  .injection h with hA _ hc
   subst hA hc;simp[Builtin.append_,run_underlying E.under,sizeOf,typeInfo,hi,Builtin.lenOf,Builtin.firstCells,hnc,storeCells]
 .obtain⟨v',w',kp,h2,h3,_,h5⟩:=run_append_own_at (P:=P) w base t ty e i z size bytes E.under hi hz yl hby E.Eo E.pos v n xs DK ad m c news hl KH.add h1 Ks alr aow
  obtain⟨A',c',rfl⟩:=FQ h2;exact⟨A',c',w',kp,h2,h3,h5⟩
end
section
variable {P:Program}
end
section
variable {P:Program}
end
theorem OK(w:World)(base:Nat)(e:TypeId)(size:Nat):w.ownsRow base e size (.slice none 0 0) 0 []:=World.ownsRow_nil w base e size
attribute [irreducible] At
def lay(cur:Array Value)(o:Nat)(cs:List Value):Array Value:=(cur.toList.take o++cs++cur.toList.drop (o+cs.length)).toArray
theorem acI{cur:Array Value}{o:Nat}{cs:List Value}(h:o+cs.length<=cur.size):(lay cur o cs).size=cur.size:=by
 simp[lay];omega
section
variable {P:Program}
end
attribute [irreducible] lay
end Go.Proofs.YtaafmkmdfcgeaaaGreatDoor
namespace Go.Proofs.YtaafmkmdfcgeaaaGreatDoor
def Ie:List (Nat×Array Value):=[(2,#[.int .u8 0,.int .u8 1,.int .u8 28,.int .u8 2,.int .u8 29,.int .u8 14,.int .u8 24,.int .u8 3,.int .u8 30,.int .u8 22,.int .u8 20,.int .u8 15,.int .u8 25,.int .u8 17,.int .u8 4,.int .u8 8,.int .u8 31,.int .u8 27,.int .u8 13,.int .u8 23,.int .u8 21,.int .u8 19,.int .u8 16,.int .u8 7,.int .u8 26,.int .u8 12,.int .u8 18,.int .u8 6,.int .u8 11,.int .u8 5,.int .u8 10,.int .u8 9]),(3,#[.int .u8 0,.int .u8 1,.int .u8 56,.int .u8 2,.int .u8 57,.int .u8 49,.int .u8 28,.int .u8 3,.int .u8 61,.int .u8 58,.int .u8 42,.int .u8 50,.int .u8 38,.int .u8 29,.int .u8 17,.int .u8 4,.int .u8 62,.int .u8 47,.int .u8 59,.int .u8 36,.int .u8 45,.int .u8 43,.int .u8 51,.int .u8 22,.int .u8 53,.int .u8 39,.int .u8 33,.int .u8 30,.int .u8 24,.int .u8 18,.int .u8 12,.int .u8 5,.int .u8 63,.int .u8 55,.int .u8 48,.int .u8 27,.int .u8 60,.int .u8 41,.int .u8 37,.int .u8 16,.int .u8 46,.int .u8 35,.int .u8 44,.int .u8 21,.int .u8 52,.int .u8 32,.int .u8 23,.int .u8 11,.int .u8 54,.int .u8 26,.int .u8 40,.int .u8 15,.int .u8 34,.int .u8 20,.int .u8 31,.int .u8 10,.int .u8 25,.int .u8 14,.int .u8 19,.int .u8 9,.int .u8 13,.int .u8 8,.int .u8 7,.int .u8 6]),(0,#[.int .u64 1,.int .u64 10,.int .u64 100,.int .u64 1000,.int .u64 10000,.int .u64 100000,.int .u64 1000000,.int .u64 10000000,.int .u64 100000000,.int .u64 1000000000,.int .u64 10000000000,.int .u64 100000000000,.int .u64 1000000000000,.int .u64 10000000000000,.int .u64 100000000000000,.int .u64 1000000000000000,.int .u64 10000000000000000,.int .u64 100000000000000000,.int .u64 1000000000000000000,.int .u64 10000000000000000000]),(6,#[.int .u32 1116352408,.int .u32 1899447441,.int .u32 3049323471,.int .u32 3921009573,.int .u32 961987163,.int .u32 1508970993,.int .u32 2453635748,.int .u32 2870763221,.int .u32 3624381080,.int .u32 310598401,.int .u32 607225278,.int .u32 1426881987,.int .u32 1925078388,.int .u32 2162078206,.int .u32 2614888103,.int .u32 3248222580,.int .u32 3835390401,.int .u32 4022224774,.int .u32 264347078,.int .u32 604807628,.int .u32 770255983,.int .u32 1249150122,.int .u32 1555081692,.int .u32 1996064986,.int .u32 2554220882,.int .u32 2821834349,.int .u32 2952996808,.int .u32 3210313671,.int .u32 3336571891,.int .u32 3584528711,.int .u32 113926993,.int .u32 338241895,.int .u32 666307205,.int .u32 773529912,.int .u32 1294757372,.int .u32 1396182291,.int .u32 1695183700,.int .u32 1986661051,.int .u32 2177026350,.int .u32 2456956037,.int .u32 2730485921,.int .u32 2820302411,.int .u32 3259730800,.int .u32 3345764771,.int .u32 3516065817,.int .u32 3600352804,.int .u32 4094571909,.int .u32 275423344,.int .u32 430227734,.int .u32 506948616,.int .u32 659060556,.int .u32 883997877,.int .u32 958139571,.int .u32 1322822218,.int .u32 1537002063,.int .u32 1747873779,.int .u32 1955562222,.int .u32 2024104815,.int .u32 2227730452,.int .u32 2361852424,.int .u32 2428436474,.int .u32 2756734187,.int .u32 3204031479,.int .u32 3329325298]),(10,#[.string ⟨#[97,102,116,101,114]⟩,.string ⟨#[97,108,119,97,121,115]⟩,.string ⟨#[97,110,100]⟩,.string ⟨#[97,114,114,105,118,101,115]⟩,.string ⟨#[98,111,111,108]⟩,.string ⟨#[99,111,109,112,111,110,101,110,116]⟩,.string ⟨#[99,111,117,110,116]⟩,.string ⟨#[100,101,108,101,116,101]⟩,.string ⟨#[100,111]⟩,.string ⟨#[101,108,115,101]⟩,.string ⟨#[101,120,105,115,116,115]⟩,.string ⟨#[102,97,108,115,101]⟩,.string ⟨#[102,101,116,99,104]⟩,.string ⟨#[102,108,97,103]⟩,.string ⟨#[102,108,101,101,116]⟩,.string ⟨#[102,111,114,97,108,108]⟩,.string ⟨#[104,97,115]⟩,.string ⟨#[105,102]⟩,.string ⟨#[105,109,112,108,105,101,115]⟩,.string ⟨#[105,110]⟩,.string ⟨#[105,110,116]⟩,.string ⟨#[108,97,116,101,110,99,121]⟩,.string ⟨#[108,105,110,107]⟩,.string ⟨#[110,111,116]⟩,.string ⟨#[110,111,119]⟩,.string ⟨#[111,110]⟩,.string ⟨#[111,110,99,101]⟩,.string ⟨#[111,114]⟩,.string ⟨#[112,114,101,118,105,111,117,115]⟩,.string ⟨#[115,101,110,100]⟩,.string ⟨#[115,105,110,99,101]⟩,.string ⟨#[115,105,122,101]⟩,.string ⟨#[115,116,111,112]⟩,.string ⟨#[115,116,111,114,101]⟩,.string ⟨#[116,97,98,108,101]⟩,.string ⟨#[116,114,117,101]⟩,.string ⟨#[118,97,114]⟩,.string ⟨#[118,101,114,115,105,111,110]⟩,.string ⟨#[119,104,105,108,101]⟩]),(8,#[.string ⟨#[46,46]⟩,.string ⟨#[61,61]⟩,.string ⟨#[33,61]⟩,.string ⟨#[60,61]⟩,.string ⟨#[62,61]⟩,.string ⟨#[45,62]⟩,.string ⟨#[123]⟩,.string ⟨#[125]⟩,.string ⟨#[40]⟩,.string ⟨#[41]⟩,.string ⟨#[91]⟩,.string ⟨#[93]⟩,.string ⟨#[44]⟩,.string ⟨#[59]⟩,.string ⟨#[58]⟩,.string ⟨#[46]⟩,.string ⟨#[61]⟩,.string ⟨#[60]⟩,.string ⟨#[62]⟩,.string ⟨#[43]⟩,.string ⟨#[45]⟩,.string ⟨#[42]⟩,.string ⟨#[47]⟩,.string ⟨#[37]⟩,.string ⟨#[95]⟩]),(11,#[.int .i64 0,.bool false,.int .i64 0,.string ByteArray.empty,.int .i64 0,.bool false,.int .i64 7,.string ByteArray.empty,.int .i64 0,.bool false,.int .i64 7,.string ⟨#[116,114,117,101]⟩,.int .i64 0,.bool false,.int .i64 7,.string ⟨#[102,97,108,115,101]⟩,.int .i64 0,.bool false,.int .i64 7,.string ⟨#[110,111,119]⟩,.int .i64 0,.bool true,.int .i64 7,.string ByteArray.empty,.int .i64 1,.bool true,.int .i64 7,.string ByteArray.empty,.int .i64 1,.bool true,.int .i64 7,.string ⟨#[104,97,115,32]⟩,.int .i64 0,.bool true,.int .i64 7,.string ⟨#[115,105,122,101,32]⟩,.int .i64 1,.bool false,.int .i64 6,.string ⟨#[45]⟩,.int .i64 1,.bool false,.int .i64 6,.string ⟨#[110,111,116,32]⟩,.int .i64 2,.bool false,.int .i64 5,.string ⟨#[32,42,32]⟩,.int .i64 2,.bool false,.int .i64 5,.string ⟨#[32,47,32]⟩,.int .i64 2,.bool false,.int .i64 5,.string ⟨#[32,37,32]⟩,.int .i64 2,.bool false,.int .i64 4,.string ⟨#[32,43,32]⟩,.int .i64 2,.bool false,.int .i64 4,.string ⟨#[32,45,32]⟩,.int .i64 2,.bool false,.int .i64 3,.string ⟨#[32,61,61,32]⟩,.int .i64 2,.bool false,.int .i64 3,.string ⟨#[32,33,61,32]⟩,.int .i64 2,.bool false,.int .i64 3,.string ⟨#[32,60,32]⟩,.int .i64 2,.bool false,.int .i64 3,.string ⟨#[32,60,61,32]⟩,.int .i64 2,.bool false,.int .i64 3,.string ⟨#[32,62,32]⟩,.int .i64 2,.bool false,.int .i64 3,.string ⟨#[32,62,61,32]⟩,.int .i64 2,.bool false,.int .i64 2,.string ⟨#[32,97,110,100,32]⟩,.int .i64 2,.bool false,.int .i64 1,.string ⟨#[32,111,114,32]⟩]),(9,#[.bool false,.bool false,.int .i64 0,.int .i64 0,.bool false,.bool false,.bool true,.bool false,.int .i64 1,.int .i64 1,.bool false,.bool false,.bool true,.bool false,.int .i64 2,.int .i64 2,.bool false,.bool false,.bool true,.bool false,.int .i64 1,.int .i64 1,.bool false,.bool false,.bool false,.bool false,.int .i64 1,.int .i64 1,.bool true,.bool true,.bool false,.bool false,.int .i64 1,.int .i64 1,.bool true,.bool false,.bool true,.bool true,.int .i64 0,.int .i64 4,.bool false,.bool false,.bool false,.bool true,.int .i64 1,.int .i64 5,.bool false,.bool false,.bool false,.bool false,.int .i64 2,.int .i64 2,.bool false,.bool true,.bool true,.bool false,.int .i64 1,.int .i64 1,.bool false,.bool true,.bool false,.bool false,.int .i64 0,.int .i64 0,.bool false,.bool false]),(7,#[.string ByteArray.empty,.string ByteArray.empty,.int .i64 0,.int .i64 0,.string ⟨#[99,111,110,115,116]⟩,.string ⟨#[78]⟩,.int .i64 0,.int .i64 1,.string ⟨#[118,97,114]⟩,.string ⟨#[65]⟩,.int .i64 0,.int .i64 1,.string ⟨#[112,97,114,97,109]⟩,.string ⟨#[65]⟩,.int .i64 0,.int .i64 1,.string ⟨#[102,108,97,103]⟩,.string ⟨#[65]⟩,.int .i64 0,.int .i64 1,.string ⟨#[110,111,119]⟩,.string ByteArray.empty,.int .i64 0,.int .i64 1,.string ⟨#[103,101,116]⟩,.string ⟨#[65]⟩,.int .i64 1,.int .i64 1,.string ⟨#[104,97,115]⟩,.string ⟨#[65]⟩,.int .i64 1,.int .i64 1,.string ⟨#[115,105,122,101]⟩,.string ⟨#[65]⟩,.int .i64 0,.int .i64 1,.string ⟨#[110,101,103]⟩,.string ByteArray.empty,.int .i64 1,.int .i64 1,.string ⟨#[110,111,116]⟩,.string ByteArray.empty,.int .i64 1,.int .i64 1,.string ⟨#[109,117,108]⟩,.string ByteArray.empty,.int .i64 2,.int .i64 1,.string ⟨#[100,105,118]⟩,.string ByteArray.empty,.int .i64 2,.int .i64 1,.string ⟨#[109,111,100]⟩,.string ByteArray.empty,.int .i64 2,.int .i64 1,.string ⟨#[97,100,100]⟩,.string ByteArray.empty,.int .i64 2,.int .i64 1,.string ⟨#[115,117,98]⟩,.string ByteArray.empty,.int .i64 2,.int .i64 1,.string ⟨#[101,113]⟩,.string ByteArray.empty,.int .i64 2,.int .i64 1,.string ⟨#[110,101]⟩,.string ByteArray.empty,.int .i64 2,.int .i64 1,.string ⟨#[108,116]⟩,.string ByteArray.empty,.int .i64 2,.int .i64 1,.string ⟨#[108,101]⟩,.string ByteArray.empty,.int .i64 2,.int .i64 1,.string ⟨#[103,116]⟩,.string ByteArray.empty,.int .i64 2,.int .i64 1,.string ⟨#[103,101]⟩,.string ByteArray.empty,.int .i64 2,.int .i64 1,.string ⟨#[97,110,100]⟩,.string ByteArray.empty,.int .i64 2,.int .i64 1,.string ⟨#[111,114]⟩,.string ByteArray.empty,.int .i64 2,.int .i64 1,.string ⟨#[115,101,116,118,97,114]⟩,.string ⟨#[65]⟩,.int .i64 1,.int .i64 0,.string ⟨#[112,117,116]⟩,.string ⟨#[65]⟩,.int .i64 2,.int .i64 0,.string ⟨#[100,101,108,101,116,101]⟩,.string ⟨#[65]⟩,.int .i64 1,.int .i64 0,.string ⟨#[106,117,109,112]⟩,.string ⟨#[65]⟩,.int .i64 0,.int .i64 0,.string ⟨#[98,114,97,110,99,104]⟩,.string ⟨#[65]⟩,.int .i64 1,.int .i64 0,.string ⟨#[99,111,115,116]⟩,.string ByteArray.empty,.int .i64 0,.int .i64 0,.string ⟨#[115,101,110,100]⟩,.string ⟨#[65,66,78]⟩,.int .i64 0,.int .i64 0,.string ⟨#[97,102,116,101,114]⟩,.string ⟨#[66,78]⟩,.int .i64 1,.int .i64 0,.string ⟨#[115,116,111,114,101]⟩,.string ⟨#[66]⟩,.int .i64 2,.int .i64 0,.string ⟨#[102,101,116,99,104]⟩,.string ⟨#[65,66]⟩,.int .i64 1,.int .i64 0,.string ⟨#[115,116,111,112]⟩,.string ByteArray.empty,.int .i64 0,.int .i64 0])]
end Go.Proofs.YtaafmkmdfcgeaaaGreatDoor
/-! ### part A -/
/-
 My engine,part A: abstract data,how values and worlds hold them,states,and how a world's step keeps them. Over any program.
-/
namespace Go.Proofs.YtaafmkmdfcgeaaaGreatDoor
open Go.RowKit
inductive DV where
 |int (k:IntKind) (n:Int)
 |bool (b:Bool)
 |str (s:ByteArray)
 |val (v:Value)
 |cu
 |agg (ds:List DV)
 |gh (ds:List DV)
 |sl (sz:Nat) (eC:List DV)
 |iv (ds:List DV)
 |ref (id off:Nat)
 |row (id:Nat)
 |rp (id i sz o:Nat)
 |Nw (id off n:Nat)
 |FD (b:Bool) (d:DV)
 |CG (f:FuncId) (ds:List DV)
 |fs (sz:Nat) (eC:List DV)
 |sp (id i sz o:Nat)
 |rv (id lo n sz:Nat)
 |np (id off:Nat)
abbrev dj:=Nat->Option (Array Value)
abbrev eD:=Nat->Option Value
def eD.no:eD:=λ_=>none
def aoi(A:Option Addr)(n c:Nat):Prop:=(A=none->n=0∧c=0)∧n<=c∧c<=9223372036854775807
mutual
def Rs(F:dj)(γ:eD):DV->Value->Prop
 |.int k n,v=>v = .int k n
 |.bool b,v=>v = .bool b
 |.str s,v=>v = .string s
 |.val x,v=>v=x
 |.cu,v=>v = .slice none 0 0
 |.agg ds,v=>∃cs,v = .agg cs∧fZ F γ ds cs.toList
 |.gh ds,v=>∃cs,v = .tuple cs∧tQ F γ ds cs.toList
 |.sl sz eC,v=>∃A c,v = .slice A eC.length c∧aoi A eC.length c ∧(eC≠[]->∃b o cs vs rest,A=some ⟨b,o,none⟩∧F b=some cs∧cs.toList.drop o=vs++rest∧rm F sz eC vs)
 |.iv ds,v=>∃b o cs vs rest,v = .pointer (some ⟨b,o,none⟩)∧F b=some cs∧cs.toList.drop o=vs++rest∧fZ F eD.no ds vs
 |.ref id off,v=>∃b,γ id=some (.pointer (some ⟨b,0,none⟩))∧v = .pointer (some ⟨b,off,none⟩)
 |.row id,v=>γ id=some v
 |.rp id i sz o,v=>∃b n c,γ id=some (.slice (some ⟨b,0,none⟩) n c)∧v = .pointer (some ⟨b,i*sz+o,none⟩)
 |.Nw id off n,v=>∃b c,γ id=some (.pointer (some ⟨b,0,none⟩))∧v = .slice (some ⟨b,off,none⟩) n c∧n<=c
 |.FD g d,v=>(g=true->Rs F γ d v)∧(g=false->v=undef)
 |.CG f ds,v=>∃cs,v = .func (.func f) #[] cs∧tQ F γ ds cs.toList
 |.sp id i sz o,v=>∃b off n c,γ id=some (.slice (some ⟨b,off,none⟩) n c)∧v = .pointer (some ⟨b,off+i*sz+o,none⟩)
 |.rv id lo n sz,v=>∃A k c,γ id=some (.slice A k c)∧v = .slice (if c-lo=0 then A else A.map (·.add (lo*sz))) n (c-lo)∧lo+n<=c
 |.np id off,v=>v = .pointer none∨∃b,γ id=some (.pointer (some ⟨b,0,none⟩))∧v = .pointer (some ⟨b,off,none⟩)
 |.fs sz eC,v=>∃A,v = .slice A eC.length eC.length∧aoi A eC.length eC.length ∧(eC≠[]->∃b o cs vs rest,A=some ⟨b,o,none⟩∧F b=some cs∧cs.toList.drop o=vs++rest∧rm F sz eC vs)
def fZ(F:dj)(γ:eD):List DV->List Value->Prop
 |[],vs=>vs = []
 |d::ds,vs=>∃v rest,vs=v::rest∧v.oneCell'=true∧Rs F γ d v∧fZ F γ ds rest
def tQ(F:dj)(γ:eD):List DV->List Value->Prop
 |[],vs=>vs = []
 |d::ds,vs=>∃v rest,vs=v::rest∧Rs F γ d v∧tQ F γ ds rest
def rm(F:dj)(sz:Nat):List DV->List Value->Prop
 |[],vs=>vs = []
 |d::ds,vs=>∃v rest,vs=v.cells.toList++rest∧v.cells.size=sz∧(∀u∈v.cells.toList,u.oneCell'=true)∧Rs F eD.no d v∧rm F sz ds rest
end
def lJ(F F':dj):Prop:=∀b cs,F b=some cs->F' b=some cs
def nW(γ γ':eD):Prop:=∀i g,γ i=some g->γ' i=some g
theorem lJ.refl(F:dj):lJ F F:=λ_ _ h=>h
theorem lJ.trans{a b c:dj}(h:lJ a b)(k:lJ b c):lJ a c:=λ_ _ x=>k _ _ (h _ _ x)
theorem nW.refl(γ:eD):nW γ γ:=λ_ _ h=>h
theorem nW.trans{a b c:eD}(h:nW a b)(k:nW b c):nW a c:=λ_ _ x=>k _ _ (h _ _ x)
theorem nW.no(γ:eD):nW eD.no γ:=λ_ _ h=>dI
mutual
theorem Rs.mono{F F':dj}{γ γ':eD}(hF:lJ F F')(hg:nW γ γ'):∀(d:DV) (v:Value),Rs F γ d v->Rs F' γ' d v
 |.int k n,v,h=>AW
 |.bool b,v,h=>AW
 |.str s,v,h=>AW
 |.val x,v,h=>AW
 |.cu,v,h=>AW
 |.agg ds,v,h=>by simp only[Rs]at h |-;obtain⟨cs,rfl,h⟩:=h;exact⟨cs,rfl,fZ.mono hF hg ds _ h⟩
 |.gh ds,v,h=>ajn
 |.sl sz eC,v,h=>by
  simp only[Rs]at h |-;obtain⟨A,c,rfl,hs,h⟩:=h;refine⟨A,c,rfl,hs,λnq=>?_⟩;obtain⟨b,o,cs,vs,rest,h1,h2,h3,h4⟩:=h nq;exact⟨b,o,cs,vs,rest,h1,hF _ _ h2,h3,rm.mono hF eC _ h4⟩
 |.iv ds,v,h=>by
  simp only[Rs]at h |-;obtain⟨b,o,cs,vs,rest,h1,h2,h3,h4⟩:=h;exact⟨b,o,cs,vs,rest,h1,hF _ _ h2,h3,fZ.mono hF (nW.refl _) ds _ h4⟩
 |.ref id off,v,h=>by simp only[Rs]at h |-;obtain⟨b,h1,h2⟩:=h;exact⟨b,hg _ _ h1,h2⟩
 |.row id,v,h=>by simp only[Rs]at h |-;exact hg _ _ h
 |.rp id i sz o,v,h=>by simp only[Rs]at h |-;obtain⟨b,n,c,h1,h2⟩:=h;exact⟨b,n,c,hg _ _ h1,h2⟩
 |.Nw id off n,v,h=>by simp only[Rs]at h |-;obtain⟨b,c,h1,h2⟩:=h;exact⟨b,c,hg _ _ h1,h2⟩
 |.FD g d,v,h=>by simp only[Rs]at h |-;exact⟨λe=>Rs.mono hF hg d v (h.1 e),h.2⟩
 |.CG f ds,v,h=>ajn
 |.sp id i sz o,v,h=>by simp only[Rs]at h |-;obtain⟨b,off,n,c,h1,h2⟩:=h;exact⟨b,off,n,c,hg _ _ h1,h2⟩
 |.rv id lo n sz,v,h=>by simp only[Rs]at h |-;obtain⟨A,k,c,h1,h2⟩:=h;exact⟨A,k,c,hg _ _ h1,h2⟩
 |.np id off,v,h=>by simp only[Rs]at h |-;rcases h with h|⟨b,h1,h2⟩;exact .inl h;exact .inr ⟨b,hg _ _ h1,h2⟩
 |.fs sz eC,v,h=>by
  simp only[Rs]at h |-;obtain⟨A,rfl,hs,h⟩:=h;refine⟨A,rfl,hs,λnq=>?_⟩;obtain⟨b,o,cs,vs,rest,h1,h2,h3,h4⟩:=h nq;exact⟨b,o,cs,vs,rest,h1,hF _ _ h2,h3,rm.mono hF eC _ h4⟩
theorem fZ.mono{F F':dj}{γ γ':eD}(hF:lJ F F')(hg:nW γ γ'):∀(ds:List DV) (vs:List Value),fZ F γ ds vs->fZ F' γ' ds vs
 |[],vs,h=>ad5
 |d::ds,vs,h=>by
  simp only[fZ]at h |-;obtain⟨v,rest,h1,h2,h3,h4⟩:=h;exact⟨v,rest,h1,h2,Rs.mono hF hg d v h3,fZ.mono hF hg ds _ h4⟩
theorem tQ.mono{F F':dj}{γ γ':eD}(hF:lJ F F')(hg:nW γ γ'):∀(ds:List DV) (vs:List Value),tQ F γ ds vs->tQ F' γ' ds vs
 |[],vs,h=>ad4
 |d::ds,vs,h=>by
  simp only[tQ]at h |-;obtain⟨v,rest,h1,h3,h4⟩:=h;exact⟨v,rest,h1,Rs.mono hF hg d v h3,tQ.mono hF hg ds _ h4⟩
theorem rm.mono{F F':dj}(hF:lJ F F'){sz:Nat}:∀(ds:List DV) (vs:List Value),rm F sz ds vs->rm F' sz ds vs
 |[],vs,h=>by simp only[rm]at h |-;exact h
 |d::ds,vs,h=>by
  simp only[rm]at h |-;obtain⟨v,rest,h1,h2,h3,h4,h5⟩:=h;exact⟨v,rest,h1,h2,h3,Rs.mono hF (nW.refl _) d v h4,rm.mono hF ds _ h5⟩
end
def DV.one:DV->Bool
 |.agg _ | .gh _ | .FD _ _=>false
 |.val x=>x.oneCell'
 |_=>true
theorem Rs.one{F:dj}{γ:eD}{d:DV}{v:Value}(h:Rs F γ d v)(hw:∀id g,γ id=some g->g.oneCell'=true)(ho:d.one=true):v.oneCell'=true:=by
 cases d <;> simp only[Rs,DV.one]at h ho <;> try (cases ho)
 .rw[h];rfl
 .rw[h];rfl
 .rw[h];rfl
 .simp_all
 .rw[h];rfl
 .obtain⟨A,c,rfl,_⟩:=h;rfl
 .obtain⟨b,o,cs,vs,rest,rfl,_⟩:=h;rfl
 .obtain⟨b,_,rfl⟩:=h;rfl
 .grind
 .obtain⟨b,n,c,_,rfl⟩:=h;rfl
 .obtain⟨b,c,_,rfl,_⟩:=h;rfl
 .obtain⟨cs,rfl,_⟩:=h;rfl
 .obtain⟨A,rfl,_⟩:=h;rfl
 .obtain⟨b,off,n,c,_,rfl⟩:=h;rfl
 .obtain⟨A,k,c,_,rfl,_⟩:=h;rfl
 .rcases h with rfl|⟨b,_,rfl⟩ <;> rfl
def DV.cs:DV->List DV
 |.agg ds=>ds
 |d=>[d]
theorem wW{v:Value}(h:v.oneCell'=true):v.cells = #[v]:=by
 cases v <;> first|rfl|(simp[Value.oneCell']at h)
theorem fZ.len{F:dj}{γ:eD}:∀{ds:List DV} {vs:List Value},fZ F γ ds vs->vs.length=ds.length
 |[],vs,h=>Pw
 |d::ds,vs,h=>by
  obtain⟨v,rest,rfl,_,_,h⟩:=h;simp[fZ.len h]
theorem fZ.get{F:dj}{γ:eD}:∀{ds:List DV} {vs:List Value} {i:Nat} {d:DV},fZ F γ ds vs->ds[i]? = some d->∃v,vs[i]? = some v∧v.oneCell'=true∧Rs F γ d v
 |[],vs,i,d,h,hi=>by simp at hi
 |d0::ds,vs,0,d,h,hi=>by
  obtain⟨v,rest,rfl,h1,h2,h⟩:=h
  simp_all
 |d0::ds,vs,i+1,d,h,hi=>by
  obtain⟨v,rest,rfl,h1,h2,h⟩:=h;simpa using fZ.get h eJ
theorem EN{F:dj}{γ:eD}:∀{ds:List DV} {vs:List Value},vs.length=ds.length->(∀(i:Nat) (d:DV),ds[i]? = some d->∃v,vs[i]? = some v∧v.oneCell'=true∧Rs F γ d v)->fZ F γ ds vs
 |[],vs,hl,_=>by simp only[fZ];simp_all
 |d::ds,[],hl,_=>by simp at hl
 |d::ds,v::vs,hl,h=>by
  obtain⟨v',h1,h2,h3⟩:=h 0 d rfl;simp at h1;subst h1;exact⟨v,vs,rfl,h2,h3,EN eJ (λi d hi=>by simpa using h (i+1) d eJ)⟩
theorem fZ.one{F:dj}{γ:eD}{ds:List DV}{vs:List Value}(h:fZ F γ ds vs):∀u∈vs,u.oneCell'=true:=by
 intro u hu;obtain⟨i,hi⟩:=List.mem_iff_getElem?.1 hu
 have my:i<ds.length:=by
  rw[<-h.len]
  grind
 obtain⟨v,h1,h2,_⟩:=h.get (List.getElem?_eq_getElem my)
 simp_all
theorem fZ.take{F:dj}{γ:eD}{ds:List DV}{vs:List Value}(h:fZ F γ ds vs)(n:Nat):fZ F γ (ds.take n) (vs.take n) :=
 EN (by simp[h.len]) (λi d hi=>by
  rw[List.getElem?_take]at hi |-
  split at hi
  .rename_i my;simpa [my]using h.get hi
  grind)
theorem fZ.drop{F:dj}{γ:eD}{ds:List DV}{vs:List Value}(h:fZ F γ ds vs)(n:Nat):fZ F γ (ds.drop n) (vs.drop n) :=
 EN (by simp[h.len]) (λi d hi=>by
  rw[List.getElem?_drop]at hi |-;exact h.get hi)
theorem fZ.append{F:dj}{γ:eD}{ds es:List DV}{vs us:List Value}(h:fZ F γ ds vs)(k:fZ F γ es us):fZ F γ (ds++es) (vs++us) :=
 EN (by simp[h.len,k.len]) (λi d hi=>by
  rw[List.getElem?_append]at hi |-;rw[h.len]
  split at hi
  .rename_i my;rw[if_pos my];exact h.get hi
  .rename_i my;rw[if_neg my];exact k.get hi)
theorem Js{F:dj}{γ:eD}{d:DV}{v:Value}(h:Rs F γ d v)(ho:v.oneCell'=true):fZ F γ [d] [v]:=by
 exact⟨v,[],rfl,ho,h,rfl⟩
theorem DV.Pm{d:DV}(h:d.one=true):d.cs = [d]:=by cases d <;> first|rfl|(simp[DV.one]at h)
def HD(γ:eD):Prop:=∀id g,γ id=some g->g.oneCell'=true
theorem HD.no:HD eD.no:=λ_ _ h=>dI
def DV.flat:DV->Bool
 |.agg _=>true
 |d=>d.one
theorem CV{F:dj}{γ:eD}{d:DV}{v:Value}(h:Rs F γ d v)(hw:HD γ)(hd:d.flat=true):fZ F γ d.cs v.cells.toList:=by
 by_cases ho:d.one=true
 .have:=h.one hw ho
  rw[DV.Pm ho,wW this];exact Js h this
 .cases d with
  |agg ds=>
   obtain⟨cs,rfl,h⟩:=h;exact h
  |_=>exact absurd hd ho
theorem rm.len{F:dj}{sz:Nat}:∀{ds:List DV} {vs:List Value},rm F sz ds vs->vs.length=ds.length*sz
 |[],vs,h=>Kr
 |d::ds,vs,h=>by
  obtain⟨v,rest,rfl,h1,_,_,h⟩:=h;rw[List.length_append,rm.len h,List.length_cons,Array.length_toList,h1,Nat.succ_mul];omega
theorem rm.get{F:dj}{sz:Nat}:∀{ds:List DV} {vs:List Value} {i:Nat} {d:DV},rm F sz ds vs->ds[i]? = some d ->
  ∃v:Value,(vs.drop (i*sz)).take sz=v.cells.toList∧v.cells.size=sz∧(∀u∈v.cells.toList,u.oneCell'=true)∧Rs F eD.no d v
 |[],vs,i,d,h,hi=>by simp at hi
 |d0::ds,vs,0,d,h,hi=>by
  obtain⟨v,rest,rfl,h1,h2,h3,h⟩:=h;simp at hi;subst hi;refine⟨v,?_,h1,h2,h3⟩
  simp_all
 |d0::ds,vs,i+1,d,h,hi=>by
  obtain⟨v,rest,rfl,h1,h2,h3,h⟩:=h;obtain⟨v',k1,k2⟩:=rm.get h (i:=i) (d:=d) eJ;refine⟨v',?_,k2⟩
  have:(v.cells.toList++rest).drop ((i+1)*sz)=rest.drop (i*sz):=by
   rw[List.drop_append,List.drop_of_length_le VL];simp[h1,Nat.succ_mul]
  simp_all
theorem rm.append{F:dj}{sz:Nat}:∀{ds es:List DV} {vs us:List Value},rm F sz ds vs->rm F sz es us->rm F sz (ds++es) (vs++us)
 |[],es,vs,us,h,k=>by rw[h];exact k
 |d::ds,es,vs,us,h,k=>by
  obtain⟨v,rest,rfl,h1,h2,h3,h⟩:=h;exact⟨v,rest++us,aR,h1,h2,h3,rm.append h k⟩
theorem abw{F:dj}{sz:Nat}{d:DV}{v:Value}(h1:v.cells.size=sz)(h2:∀u∈v.cells.toList,u.oneCell'=true)(h:Rs F eD.no d v):rm F sz [d] v.cells.toList:=by
 exact⟨v,[],aR,h1,h2,h,rfl⟩
theorem rm.drop{F:dj}{sz:Nat}:∀{ds:List DV} {vs:List Value} (n:Nat),rm F sz ds vs->rm F sz (ds.drop n) (vs.drop (n*sz))
 |ds,vs,0,h=>nV
 |[],vs,n+1,h=>by rw[h];simp[rm]
 |d::ds,vs,n+1,h=>by
  obtain⟨v,rest,rfl,h1,h2,h3,h⟩:=h
  have:(v.cells.toList++rest).drop ((n+1)*sz)=rest.drop (n*sz):=by
   rw[List.drop_append,List.drop_of_length_le VL];simp[h1,Nat.succ_mul]
  rw[this];exact rm.drop n h
theorem rm.take{F:dj}{sz:Nat}:∀{ds:List DV} {vs:List Value} (n:Nat),rm F sz ds vs->rm F sz (ds.take n) (vs.take (n*sz))
 |ds,vs,0,h=>by simp[rm]
 |[],vs,n+1,h=>by rw[h];simp[rm]
 |d::ds,vs,n+1,h=>by
  obtain⟨v,rest,rfl,h1,h2,h3,h⟩:=h
  have:(v.cells.toList++rest).take ((n+1)*sz)=v.cells.toList++rest.take (n*sz):=by
   rw[List.take_append,List.take_of_length_le VL];simp[h1,Nat.succ_mul]
  rw[this];exact⟨v,_,rfl,h1,h2,h3,rm.take n h⟩
theorem rm.one{F:dj}{sz:Nat}:∀{ds:List DV} {vs:List Value},rm F sz ds vs->∀u∈vs,u.oneCell'=true
 |[],vs,h=>Kr
 |d::ds,vs,h=>by
  obtain⟨v,rest,rfl,h1,h2,h3,h⟩:=h;intro u hu;rcases List.mem_append.1 hu with hu|hu
  .grind
  .exact rm.one h u hu
theorem rm.set{F:dj}{sz:Nat}{ds:List DV}{vs:List Value}(h:rm F sz ds vs){i:Nat}(hi:i<ds.length){d:DV}{v:Value}(h1:v.cells.size=sz)(h2:∀u∈v.cells.toList,u.oneCell'=true)(hd:Rs F eD.no d v) :
  rm F sz (ds.set i d) (vs.take (i*sz)++v.cells.toList++vs.drop ((i+1)*sz)):=by
 have e:ds.set i d=ds.take i++[d]++ds.drop (i+1):=by
  rw[List.set_eq_take_append_cons_drop,if_pos hi];simp
 rw[e];exact((h.take i).append (abw h1 h2 hd)).append (h.drop (i+1))
end Go.Proofs.YtaafmkmdfcgeaaaGreatDoor
/-! ### part B -/
/-
 My engine,part B: states,what a world must hold for them,and how the steps of a world keep them.
-/
namespace Go.Proofs.YtaafmkmdfcgeaaaGreatDoor
open Go.RowKit
inductive HE where
 |bJ (T:TypeId) (ds:List DV)
 |row (E:TypeId) (sz:Nat) (eC:List DV)
 |obj (o:Obj)
 |mp (l:List (DV×DV))
 |TE (E:TypeId) (sz:Nat) (eC:List DV)
 |it (DL n:Nat) (seen:List Nat)
def GM(F:dj):List (DV×DV)->List MapEntry->Prop
 |[],es=>es = []
 |x::l,es=>∃e r,es=e::r∧Rs F eD.no x.1 e.key∧Rs F eD.no x.2 e.val∧GM F l r
theorem GM.mono{F F':dj}(hF:lJ F F'):∀{l:List (DV×DV)} {es:List MapEntry},GM F l es->GM F' l es
 |[],es,h=>h
 |x::l,es,h=>by
  obtain⟨e,r,h1,h2,h3,h4⟩:=h;exact⟨e,r,h1,Rs.mono hF (nW.refl _) _ _ h2,Rs.mono hF (nW.refl _) _ _ h3,GM.mono hF h4⟩
def yW(es:Array MapEntry)(ck:Nat):Prop:=ck=es.size∧∀(i:Nat) (e:MapEntry),es[i]? = some e->e.born=i
def fA:Value->Option Nat
 |.pointer (some a)=>some a.block
 |.slice (some a) _ _=>some a.block
 |.map (some b)=>some b
 |_=>none
def Gy(F:dj)(γ:eD)(w:World):HE->Value->Prop
 |.bJ T ds,g=>∃b cs,g = .pointer (some ⟨b,0,none⟩)∧w.heap[b]? = some (.cells cs T (0,0))∧fZ F γ ds cs.toList
 |.row E sz eC,g=>∃vs,w.ownsRow 0 E sz g eC.length vs∧rm F sz eC vs
 |.obj o,g=>∃b,g = .pointer (some ⟨b,0,none⟩)∧w.heap[b]? = some o
 |.TE E sz eC,g=>(g = .slice none 0 0∧eC = [])∨∃b off c cur,g = .slice (some ⟨b,off,none⟩) eC.length c∧w.heap[b]? = some (.cells cur E (0,0))∧eC.length<=c∧c<=maxLen∧off+c*sz<=cur.size∧rm F sz eC ((cur.toList.drop off).take (eC.length*sz))
 |.mp l,g=>∃b es ck,g = .map (some b)∧w.heap[b]? = some (.map es ck)∧GM F l es.toList∧yW es ck
 |.it DL n seen,g=>∃b bm,g = .pointer (some ⟨b,0,none⟩)∧γ DL=some (.map (some bm))∧w.heap[b]? = some (.mapIter (some bm) n seen.toArray n)
theorem Gy.mono{F F':dj}{γ γ':eD}{w:World}{e:HE}{g:Value}(hF:lJ F F')(hg:nW γ γ')(h:Gy F γ w e g):Gy F' γ' w e g:=by
 cases e with
 |bJ T ds=>obtain⟨b,cs,h1,h2,h3⟩:=h;exact⟨b,cs,h1,h2,h3.mono hF hg⟩
 |row E sz eC=>obtain⟨vs,h1,h2⟩:=h;exact⟨vs,h1,h2.mono hF⟩
 |obj o=>exact h
 |mp l=>obtain⟨b,es,ck,h1,h2,h3,h4⟩:=h;exact⟨b,es,ck,h1,h2,h3.mono hF,h4⟩
 |TE E sz eC=>
  rcases h with h|⟨b,off,c,cur,h1,h2,h3,h4,h5,h6⟩
  .exact .inl h
  .exact .inr ⟨b,off,c,cur,h1,h2,h3,h4,h5,h6.mono hF⟩
 |it DL n seen=>obtain⟨b,bm,h1,h2,h3⟩:=h;exact⟨b,bm,h1,hg _ _ h2,h3⟩
theorem yE{w:World}{base:Nat}{E:TypeId}{sz:Nat}{g:Value}{n:Nat}{vs:List Value}(h:w.ownsRow base E sz g n vs):fA g=g.ownBlock:=by
 rcases h.2 with⟨rfl,_⟩|⟨b,cap,cur,rfl,_⟩ <;> rfl
theorem Gy.lt{F:dj}{γ:eD}{w:World}{e:HE}{g:Value}(h:Gy F γ w e g):∀b,fA g=some b->b<w.heap.size:=by
 intro b hb;cases e with
 |bJ T ds=>
  obtain⟨b',cs,rfl,h2,h3⟩:=h;simp[fA]at hb;grind
 |row E sz eC=>
  obtain⟨vs,h1,h2⟩:=h;rw[yE h1]at hb;exact(h1.lt b hb).2
 |obj o=>
  obtain⟨b',rfl,h2⟩:=h;simp[fA]at hb;grind
 |mp l=>
  obtain⟨b',es,ck,rfl,h2,h3⟩:=h;simp[fA]at hb;grind
 |TE E sz eC=>
  rcases h with⟨rfl,_⟩|⟨b',off,c,cur,rfl,h2,_⟩
  .simp[fA]at hb
  .simp[fA]at hb;grind
 |it DL n seen=>
  obtain⟨b',bm,rfl,h2,h3⟩:=h;simp[fA]at hb;grind
theorem Gy.one{F:dj}{γ:eD}{w:World}{e:HE}{g:Value}(h:Gy F γ w e g):g.oneCell'=true:=by
 cases e with
 |bJ T ds=>obtain⟨b',cs,rfl,h2,h3⟩:=h;rfl
 |row E sz eC=>
  obtain⟨vs,h1,h2⟩:=h;rcases h1.2 with⟨rfl,_⟩|⟨b,cap,cur,rfl,_⟩ <;> rfl
 |obj o=>obtain⟨b',rfl,h2⟩:=h;rfl
 |mp l=>obtain⟨b',es,ck,rfl,h2,h3⟩:=h;rfl
 |TE E sz eC=>rcases h with⟨rfl,_⟩|⟨b',off,c,cur,rfl,_⟩ <;> rfl
 |it DL n seen=>obtain⟨b',bm,rfl,_⟩:=h;rfl
theorem Gy.kept{F:dj}{γ:eD}{w w':World}{e:HE}{g:Value}(h:Gy F γ w e g)(hk:∀b,fA g=some b->w'.heap[b]? = w.heap[b]?):Gy F γ w' e g:=by
 cases e with
 |bJ T ds=>
  obtain⟨b',cs,rfl,h2,h3⟩:=h;exact⟨b',cs,rfl,(hk b' rfl).trans h2,h3⟩
 |row E sz eC=>
  obtain⟨vs,h1,h2⟩:=h;refine⟨vs,⟨h1.1,?_⟩,h2⟩;rcases h1.2 with h|⟨b,cap,cur,rfl,r1,r2,r3⟩
  .grind
  .exact .inr ⟨b,cap,cur,rfl,r1,(hk b rfl).trans r2,r3⟩
 |obj o=>
  obtain⟨b',rfl,h2⟩:=h;exact⟨b',rfl,(hk b' rfl).trans h2⟩
 |mp l=>
  obtain⟨b',es,ck,rfl,h2,h3⟩:=h;exact⟨b',es,ck,rfl,(hk b' rfl).trans h2,h3⟩
 |TE E sz eC=>
  rcases h with h|⟨b',off,c,cur,rfl,h2,h3⟩
  .exact .inl h
  .exact .inr ⟨b',off,c,cur,rfl,(hk b' rfl).trans h2,h3⟩
 |it DL n seen=>
  obtain⟨b',bm,rfl,h2,h3⟩:=h;exact⟨b',bm,rfl,h2,(hk b' rfl).trans h3⟩
def look{α:Type}:List (Nat×α)->Nat->Option α
 |[],_=>none
 |(k,x)::r,n=>match Nat.beq k n with
  |true=>some x
  |false=>look r n
abbrev eW:=List (Nat×Option HE)
def cF(h:eW)(id:Nat):Option HE:=match look h id with
 |some (some e)=>some e
 |_=>none
theorem eK{α:Type}(k:Nat)(x:α)(r:List (Nat×α))(n:Nat):look ((k,x)::r) n=if k=n then some x else look r n:=by
 by_cases h:k=n
 .subst h;simp[look]
 .have:Nat.beq k n=false:=by rw[Bool.eq_false_iff];simp_all
  rw[look,if_neg h,this]
theorem cH(k:Nat)(x:Option HE)(r:eW)(n:Nat):cF ((k,x)::r) n=if k=n then x else cF r n:=by
 unfold cF;rw[eK]
 by_cases h:k=n
 .simp[h];cases x <;> rfl
 grind
def Tbs(F:dj):Prop:=∀g cs,look Ie g=some cs->F g=some cs
theorem Tbs.mono{F F':dj}(h:Tbs F)(hF:lJ F F'):Tbs F':=λg cs hb=>hF g _ (h g cs hb)
theorem akI{g:Nat}{cs:Array Value}(h:look Ie g=some cs):∀v∈cs.toList,v.oneCell'=true:=by
 have key:Ie.all (λp=>p.2.toList.all Value.oneCell')=true:=dF
 have go:∀l:List (Nat×Array Value),l.all (λp=>p.2.toList.all Value.oneCell')=true->look l g=some cs->∀v∈cs.toList,v.oneCell'=true:=by
  intro l
  induction l with
  |nil=>intro _ h;cases h
  |cons p l ih=>
   intro ha hl;simp only[List.all_cons,Bool.and_eq_true]at ha;rw[show look (p::l) g=if p.1=g then some p.2 else look l g from eK p.1 p.2 l g]at hl
   split at hl
   .injection hl with hl;subst hl
    exact List.all_eq_true.1 ha.1
   .exact ih ha.2 hl
 exact go _ key h
structure Ctx where
 w0:World
 T:Nat->Prop
 F0:dj
 n:Nat
 G0:eD
 ro:Option Nat
 defs:List Deferred
def FW(r:Option Nat):Fence:={ Fence.wide with round:=r }
theorem ah6{P:Program}{r:Option Nat}{n:Nat}{f:FuncId}{args:Array Value}{w:World}{R:Ending->World->Prop}(h:Calls P f args w R):CallsIn (FW r) n P f args w R:=by
 cases r with
 |none=>exact callsIn_wide.2 h
 |some l=>exact(callsIn_wide (n:=n)).2 h
theorem wO{P:Program}{r:Option Nat}{o:Oper}{a:Act}{w w':World}{K:Act->World->Prop}{Q:Exit->Act->World->Prop}{f:FuncId}{args:Array Value}(hd:∀c,o.op≠.defer c)(h:(execOp a.eval o).run P w = .ok (.enter f args) w')
  (k:Calls P f args w' λe w''=>∃v,e = .returned v∧K (a.put o.dst v) w''):o.wpIn (FW r) 0 P a w K Q:=by
 refine⟨λ_ _=>trivial,?_⟩;rw[Oper.semAt_eq _ _ _ hd,h];refine⟨λh=>XU,ah6 (k.mono ?_)⟩
 simp_all
theorem ju{P:Program}{r:Option Nat}{o:Oper}{a:Act}{w w':World}{K:Act->World->Prop}{Q:Exit->Act->World->Prop}{v:Value}(h:(execOp a.eval o).run P w = .ok (.value v) w')
  (k:K (a.put o.dst v) w'):o.wpIn (FW r) 0 P a w K Q:=by
 refine⟨λ_ _=>trivial,?_⟩
 by_cases hd:∃c,o.op = .defer c
 .obtain⟨c,hc⟩:=hd
  simp only[execOp,hc]at h;cases hr:(resolve a.eval c o.type).run P w with
  |ok d w1=>simp_all
  |halt x w1=>simp_all
 .rw[Oper.semAt_eq _ _ _ (λc hc=>hd ⟨c,hc⟩),h]
  exact k
theorem NU{P:Program}{r:Option Nat}{o:Oper}{a:Act}{w w':World}{K:Act->World->Prop}{Q:Exit->Act->World->Prop}(h:(execOp a.eval o).run P w = .ok .skip w')
  (k:K (a.put o.dst undef) w'):o.wpIn (FW r) 0 P a w K Q:=by
 refine⟨λ_ _=>trivial,?_⟩
 by_cases hd:∃c,o.op = .defer c
 .obtain⟨c,hc⟩:=hd
  simp only[execOp,hc]at h;cases hr:(resolve a.eval c o.type).run P w with
  |ok d w1=>simp_all
  |halt x w1=>simp_all
 .rw[Oper.semAt_eq _ _ _ (λc hc=>hd ⟨c,hc⟩),h]
  exact k
structure WS(C:Ctx)(F:dj)(γ:eD)(h:eW)(used:List Nat)(w:World):Prop where
 si:∀id e,cF h id=some e->∃g,γ id=some g∧Gy F γ w e g
 own:∀id e g b,cF h id=some e->γ id=some g->fA g=some b->F b=none∧(C.T b∨C.w0.heap.size<=b)
 apart:∀id uS e e' g g' b,cF h id=some e->cF h uS=some e'->γ id=some g->γ uS=some g'->fA g=some b->fA g'=some b->id=uS
 fs:∀b cs,F b=some cs->∃t fz,w.heap[b]? = some (.cells cs t fz)
 f0:lJ C.F0 F
 rj:∀b cs,F b=some cs->C.F0 b=some cs∨C.T b∨C.w0.heap.size<=b
 os:w.os=C.w0.os
 tape:w.tape=C.w0.tape
 output:w.output=C.w0.output
 size:C.w0.heap.size<=w.heap.size
 qh:∀b,b<C.w0.heap.size->¬C.T b->w.heap[b]? = C.w0.heap[b]?
 us:∀id g,γ id=some g->id∈used
 gone:HD γ
 g0:nW C.G0 γ
 gk:∀id g,C.G0 id=some g->9000<=id
 kn:Tbs C.F0
structure uF(w w':World)(t:Option Nat):Prop where
 os:w'.os=w.os
 tape:w'.tape=w.tape
 output:w'.output=w.output
 size:w.heap.size<=w'.heap.size
 block:∀k,k<w.heap.size->some k≠t->w'.heap[k]? = w.heap[k]?
theorem abt{w w':World}{t:Option Nat}(h:w.grownBy w' t):uF w w' t:=⟨h.os,h.tape,h.output,h.size,h.block⟩
theorem uF.refl(w:World):uF w w none:=⟨rfl,rfl,rfl,Nat.le_refl _,λ_ _ _=>rfl⟩
theorem uF.drew(w:World):uF w w.drew none:=⟨rfl,rfl,rfl,Nat.le_refl _,λ_ _ _=>rfl⟩
theorem uF.alloc(w:World)(o:Obj):uF w (w.alloc o) none:=⟨rfl,rfl,rfl,aR,λk hk _=>Below.heap_alloc _ _ _ hk⟩
theorem uF.any{w w':World}{t:Option Nat}(h:uF w w' none):uF w w' t:=⟨h.os,h.tape,h.output,h.size,λk hk _=>h.block k hk aR⟩
theorem uF.trans{a b c:World}{t:Option Nat}(h:uF a b t)(k:uF b c t):uF a c t :=
 ⟨k.os.trans h.os,k.tape.trans h.tape,k.output.trans h.output,Nat.le_trans h.size k.size,λi hi ht=>(k.block i (Nat.lt_of_lt_of_le hi h.size) ht).trans (h.block i hi ht)⟩
section
variable {C:Ctx} {F:dj} {γ:eD} {h:eW} {used:List Nat} {w w':World}
theorem WS.flt(H:WS C F γ h used w){b:Nat}{cs:Array Value}(hb:F b=some cs):b<w.heap.size:=by
 obtain⟨t,fz,h1⟩:=H.fs b cs hb
 grind
theorem WS.quiet(H:WS C F γ h used w)(S:uF w w' none):WS C F γ h used w' where
 si:=λid e hi=>by
  obtain⟨g,h1,h2⟩:=H.si id e hi;exact⟨g,h1,h2.kept λb hb=>S.block b (h2.lt b hb) aR⟩
 own:=H.own
 apart:=H.apart
 fs:=λb cs hb=>by
  obtain⟨t,fz,h1⟩:=H.fs b cs hb;exact⟨t,fz,(S.block b (H.flt hb) aR).trans h1⟩
 f0:=H.f0
 rj:=H.rj
 os:=S.os.trans H.os
 tape:=S.tape.trans H.tape
 output:=S.output.trans H.output
 size:=Nat.le_trans H.size S.size
 qh:=λb hb ht=>(S.block b (Nat.lt_of_lt_of_le hb H.size) aR).trans (H.qh b hb ht)
 us:=H.us
 gone:=H.gone
 g0:=H.g0
 gk:=H.gk
 kn:=H.kn
theorem WS.forget(H:WS C F γ h used w)(id0:Nat):WS C F γ ((id0,none)::h) used w where
 si:=λid e hi=>by
  rw[cH]at hi
  split at hi
  .cases hi
  .exact H.si id e hi
 own:=λid e g b hi=>by
  rw[cH]at hi
  split at hi
  .cases hi
  .exact H.own id e g b hi
 apart:=λid uS e e' g g' b hi EH=>by
  rw[cH]at hi EH
  split at hi
  .cases hi
  .split at EH
   .cases EH
   .exact H.apart id uS e e' g g' b hi EH
 fs:=H.fs
 f0:=H.f0
 rj:=H.rj
 os:=H.os
 tape:=H.tape
 output:=H.output
 size:=H.size
 qh:=H.qh
 us:=H.us
 gone:=H.gone
 g0:=H.g0
 gk:=H.gk
 kn:=H.kn
theorem WS.GQ(H:WS C F γ h used w){id0:Nat}{e0:HE}{g0:Value}(h0:cF h id0=some e0)(hg:γ id0=some g0)(S:uF w w' (fA g0)):WS C F γ ((id0,none)::h) used w' where
 si:=λid e hi=>by
  rw[cH]at hi
  split at hi
  .cases hi
  .rename_i nq
   obtain⟨g,h1,h2⟩:=H.si id e hi;refine⟨g,h1,h2.kept λb hb=>S.block b (h2.lt b hb) (λhs=>nq ?_)⟩;exact H.apart id0 id e0 e g0 g b h0 hi hg h1 hs.symm hb
 own:=(H.forget id0).own
 apart:=(H.forget id0).apart
 fs:=λb cs hb=>by
  obtain⟨t,fz,h1⟩:=H.fs b cs hb;refine⟨t,fz,(S.block b (H.flt hb) (λhs=>?_)).trans h1⟩;have:=(H.own id0 e0 g0 b h0 hg hs.symm).1;rw[this]at hb;cases hb
 f0:=H.f0
 rj:=H.rj
 os:=S.os.trans H.os
 tape:=S.tape.trans H.tape
 output:=S.output.trans H.output
 size:=Nat.le_trans H.size S.size
 qh:=λb hb ht=>by
  refine(S.block b (Nat.lt_of_lt_of_le hb H.size) (λhs=>?_)).trans (H.qh b hb ht);rcases(H.own id0 e0 g0 b h0 hg hs.symm).2 with h|h
  .exact ht h
  .omega
 us:=H.us
 gone:=H.gone
 g0:=H.g0
 gk:=H.gk
 kn:=H.kn
theorem WS.put(H:WS C F γ h used w){id0:Nat}{e0:HE}{g0:Value}(hg:γ id0=some g0)(he:Gy F γ w e0 g0)
  (hb:∀b,fA g0=some b->F b=none∧(C.T b∨C.w0.heap.size<=b)∧∀id e g,id≠id0->cF h id=some e->γ id=some g->fA g≠some b):WS C F γ ((id0,some e0)::h) used w where
 si:=λid e hi=>by
  rw[cH]at hi
  split at hi
  .rename_i e1;subst e1;injection hi with hi;subst hi;exact⟨g0,hg,he⟩
  .exact H.si id e hi
 own:=λid e g b hi oV je=>by
  rw[cH]at hi
  split at hi
  .rename_i e1;subst e1
   rw[hg]at oV;injection oV with oV;subst oV
   exact⟨(hb b je).1,(hb b je).2.1⟩
  .exact H.own id e g b hi oV je
 apart:=λid uS e e' g g' b hi EH k k' kb kb'=>by
  rw[cH]at hi EH
  split at hi
  .rename_i e1;subst e1
   split at EH
   .assumption
   .rename_i nq
    rw[hg]at k;injection k with k;subst k
    exact absurd kb' ((hb b kb).2.2 uS e' g' (λe=>nq e.symm) EH k')
  .rename_i nq
   split at EH
   .rename_i e1;subst e1
    rw[hg]at k';injection k' with k';subst k'
    exact absurd kb ((hb b kb').2.2 id e g (λe=>nq e.symm) hi k)
   .exact H.apart id uS e e' g g' b hi EH k k' kb kb'
 fs:=H.fs
 f0:=H.f0
 rj:=H.rj
 os:=H.os
 tape:=H.tape
 output:=H.output
 size:=H.size
 qh:=H.qh
 us:=H.us
 gone:=H.gone
 g0:=H.g0
 gk:=H.gk
 kn:=H.kn
def eD.up(γ:eD)(id:Nat)(g:Value):eD:=λi=>if i=id then some g else γ i
theorem pF{γ:eD}{id:Nat}(g:Value)(h:γ id=none):nW γ (γ.up id g):=λi g' hi=>by
 unfold eD.up
 split
 all_goals simp_all
theorem WS.fresh(H:WS C F γ h used w){id:Nat}(hi:id ∉ used):γ id=none:=by
 cases hg:γ id with
 |none=>rfl
 |some g=>exact absurd (H.us id g hg) hi
theorem WS.name(H:WS C F γ h used w){id:Nat}(hi:id ∉ used)(g:Value)(ho:g.oneCell'=true):WS C F (γ.up id g) h (id::used) w:=by
 have hf:=H.fresh hi;have hle:=pF g hf
 have back:∀i e g',cF h i=some e->(γ.up id g) i=some g'->γ i=some g':=λi e g' hh oV=>by
  obtain⟨g1,h1,_⟩:=H.si i e hh;have:=hle _ _ h1
  simp_all
 exact {
  si:=λi e hh=>by obtain⟨g1,h1,h2⟩:=H.si i e hh;exact⟨g1,hle _ _ h1,h2.mono (lJ.refl _) hle⟩
  own:=λi e g' b hh oV hb=>H.own i e g' b hh (back i e g' hh oV) hb
  apart:=λi i' e e' g1 g2 b h1 h2 k1 k2=>H.apart i i' e e' g1 g2 b h1 h2 (back _ _ _ h1 k1) (back _ _ _ h2 k2)
  fs:=H.fs,f0:=H.f0,rj:=H.rj,os:=H.os,tape:=H.tape,output:=H.output,size:=H.size,qh:=H.qh
  us:=λi g' hi=>by
   unfold eD.up at hi
   split at hi
   .simp_all
   .exact List.mem_cons_of_mem _ (H.us i g' hi)
  gone:=λi g' hi=>by
   unfold eD.up at hi
   split at hi
   .simp_all
   .exact H.gone i g' hi
  g0:=H.g0.trans hle
  gk:=H.gk,kn:=H.kn }
theorem uu(γ:eD)(id:Nat)(g:Value):γ.up id g id=some g:=by simp[eD.up]
theorem WS.add(H:WS C F γ h used w){id:Nat}(hi:id ∉ used){e0:HE}{g:Value}(he:Gy F γ w e0 g)
  (hb:∀b,fA g=some b->F b=none∧(C.T b∨C.w0.heap.size<=b)∧∀uS e' g',cF h uS=some e'->γ uS=some g'->fA g'≠some b) :
  WS C F (γ.up id g) ((id,some e0)::h) (id::used) w:=by
 have hf:=H.fresh hi;have hle:=pF g hf;refine(H.name hi g he.one).put (uu γ id g) (he.mono (lJ.refl _) hle) (λb je=>⟨(hb b je).1,(hb b je).2.1,λuS e' g' nq hh oV=>?_⟩);refine(hb b je).2.2 uS e' g' hh ?_;unfold eD.up at oV
 simp_all
theorem WS.Ah(H:WS C F γ h used w){id:Nat}(hi:id ∉ used)(o:Obj){e0:HE}{g:Value}(hg:∀b,fA g=some b->b=w.heap.size)(he:Gy F γ (w.alloc o) e0 g) :
  WS C F (γ.up id g) ((id,some e0)::h) (id::used) (w.alloc o):=by
 have H':=H.quiet (uF.alloc w o);refine H'.add hi he (λb hb=>?_);obtain rfl:=hg b hb;refine⟨?_,.inr H.size,λuS e' g' hh oV je=>?_⟩
 .cases hF:F w.heap.size with
  |none=>rfl
  |some cs=>exact absurd (H.flt hF) (Nat.lt_irrefl _)
 .obtain⟨g1,h1,h2⟩:=H.si uS e' hh
  rw[oV]at h1;injection h1 with h1;subst h1
  exact absurd (h2.lt _ je) (Nat.lt_irrefl _)
def dj.up(F:dj)(b:Nat)(cs:Array Value):dj:=λi=>if i=b then some cs else F i
theorem GO{F:dj}{b:Nat}(cs:Array Value)(h:F b=none):lJ F (F.up b cs):=λi g' hi=>by
 unfold dj.up
 split
 all_goals simp_all
theorem WS.data(H:WS C F γ h used w){b:Nat}{cs:Array Value}{t:TypeId}{fz:Nat×Nat}(hb:w.heap[b]? = some (.cells cs t fz))(hF:F b=none)(hT:C.T b∨C.w0.heap.size<=b)
  (hn:∀id e g,cF h id=some e->γ id=some g->fA g≠some b):WS C (F.up b cs) γ h used w:=by
 have hle:=GO cs hF
 exact {
  si:=λi e hh=>by obtain⟨g1,h1,h2⟩:=H.si i e hh;exact⟨g1,h1,h2.mono hle (nW.refl _)⟩
  own:=λi e g' b' hh oV je=>by
   refine⟨?_,(H.own i e g' b' hh oV je).2⟩;unfold dj.up
   split
   .rename_i e1;subst e1;exact absurd je (hn i e g' hh oV)
   .exact(H.own i e g' b' hh oV je).1
  apart:=H.apart
  fs:=λb' cs' h'=>by
   unfold dj.up at h'
   split at h'
   .simp_all
   .exact H.fs b' cs' h'
  f0:=H.f0.trans hle
  rj:=λb' cs' h'=>by
   unfold dj.up at h'
   split at h'
   .simp_all
   .exact H.rj b' cs' h'
  os:=H.os,tape:=H.tape,output:=H.output,size:=H.size,qh:=H.qh,us:=H.us,gone:=H.gone,g0:=H.g0,gk:=H.gk,kn:=H.kn }
theorem WS.freeze(H:WS C F γ h used w){id:Nat}{E:TypeId}{sz:Nat}{eC:List DV}{g:Value}(hi:cF h id=some (.row E sz eC))(hg:γ id=some g) :
  ∃F',lJ F F'∧WS C F' γ ((id,none)::h) used w∧Rs F' γ (.sl sz eC) g:=by
 obtain⟨g',oV,vs,ho,hE⟩:=H.si id _ hi;rw[hg]at oV;injection oV with oV;subst oV
 have Td:eC.length=0->eC = []:=List.eq_nil_of_length_eq_zero;rcases ho.2 with⟨rfl,hx⟩|⟨b,cap,cur,rfl,_,hh,hnc,r⟩
 .refine⟨F,lJ.refl _,H.forget id,?_⟩
  have:eC = []:=Td hx;subst this;exact⟨none,0,rfl,⟨λ_=>⟨rfl,rfl⟩,Nat.le_refl _,aV⟩,λh=>absurd rfl h⟩
 .have Jk:=H.own id _ _ b hi hg rfl
  refine⟨F.up b cur,GO _ Jk.1,?_,?_⟩
  .refine(H.forget id).data hh Jk.1 Jk.2 (λuS e' g' tg oV je=>?_)
   rw[cH]at tg
   split at tg
   .cases tg
   .rename_i nq;exact nq (H.apart id uS _ e' _ g' b hi tg hg oV rfl je)
  .refine⟨some ⟨b,0,none⟩,cap,rfl,⟨(λh=>dI),hnc,by have:=r.1;exact this⟩,λ_=>⟨b,0,cur,vs,cur.toList.drop (eC.length*sz),rfl,Py,?_,hE.mono (GO _ Jk.1)⟩⟩
   rw[List.drop_zero,<-r.2.2,List.take_append_drop]
end
end Go.Proofs.YtaafmkmdfcgeaaaGreatDoor
/-! ### part C -/
/-
 My engine,part C: states with their slots,the rule of one operation,regions in whatever order,code.
-/
namespace Go.Proofs.YtaafmkmdfcgeaaaGreatDoor
open Go.RowKit
structure AS where
 env:List (Nat×DV)
 heap:eW
 used:List Nat
structure An where
 env:List (Nat×DV)
 heap:eW
 new:List Nat
def AS.app(σ:AS)(E:An):AS:=⟨E.env++σ.env,E.heap++σ.heap,E.new++σ.used⟩
structure Sat(C:Ctx)(F:dj)(γ:eD)(σ:AS)(a:Act)(w:World):Prop where
 env:∀t d,look σ.env t=some d->t<C.n∧Rs F γ d (a.tmps.getD t undef)
 ws:WS C F γ σ.heap σ.used w
 size:a.tmps.size=C.n
 defers:a.defers=C.defs
theorem gK{α:Type}:∀(l r:List (Nat×α)) (n:Nat),look (l++r) n=(look l n).or (look r n)
 |[],r,n=>dF
 |(k,x)::l,r,n=>by
  rw[List.cons_append,eK,eK]
  by_cases h:k=n
  .simp[h]
  .simp[h,gK l r n]
theorem WS.congr{C:Ctx}{F:dj}{γ:eD}{h h':eW}{u u':List Nat}{w:World}(H:WS C F γ h u w)(hh:∀id e,cF h' id=some e->cF h id=some e)(hu:∀x∈u,x∈u'):WS C F γ h' u' w where
 si:=λid e hi=>H.si id e (hh id e hi)
 own:=λid e g b hi=>H.own id e g b (hh id e hi)
 apart:=λid uS e e' g g' b hi EH=>H.apart id uS e e' g g' b (hh _ _ hi) (hh _ _ EH)
 fs:=H.fs
 f0:=H.f0
 rj:=H.rj
 os:=H.os
 tape:=H.tape
 output:=H.output
 size:=H.size
 qh:=H.qh
 us:=λid g hi=>hu _ (H.us id g hi)
 gone:=H.gone
 g0:=H.g0
 gk:=H.gk
 kn:=H.kn
theorem Sat.congr{C:Ctx}{F:dj}{γ:eD}{σ σ':AS}{a:Act}{w:World}(H:Sat C F γ σ a w)(he:∀t d,look σ'.env t=some d->look σ.env t=some d)(hh:∀id e,cF σ'.heap id=some e->cF σ.heap id=some e)(hu:∀x∈σ.used,x∈σ'.used):Sat C F γ σ' a w :=
 ⟨λt d ht=>H.env t d (he t d ht),H.ws.congr hh hu,H.size,H.defers⟩
def oE:Value->DV
 |.int k n=>.int k n
 |.bool b=>.bool b
 |.string s=>.str s
 |.slice none 0 0=>.cu
 |v=>.val v
theorem uE(F:dj)(γ:eD)(v:Value):Rs F γ (oE v) v:=by
 unfold oE
 split <;> simp only[Rs]
def ev(e:List (Nat×DV)):Operand->Option DV
 |.tmp t=>look e t
 |.const v=>some (oE v)
 |.func f=>some (.val (.func (.func f) #[] #[]))
 |.global g=>match look Ie g with
  |some cs=>some (.iv (cs.toList.map oE))
  |none=>none
def tm:Operand->List Nat
 |.tmp t=>[t]
 |_=>[]
theorem Sat.ev{C:Ctx}{F:dj}{γ:eD}{σ:AS}{a:Act}{w:World}(H:Sat C F γ σ a w){x:Operand}{d:DV}(h:ev σ.env x=some d):Rs F γ d (a.eval x):=by
 cases x with
 |tmp t=>exact(H.env t d h).2
 |const v=>injection h with h;subst h;exact uE _ _ _
 |func f=>injection h with h;subst h;rfl
 |global g=>
  simp only[Proofs.YtaafmkmdfcgeaaaGreatDoor.ev]at h
  split at h
  .rename_i cs hg
   injection h with h;subst h
   refine⟨g,0,cs,cs.toList,[],rfl,H.ws.f0 _ _ (H.ws.kn g cs hg),aR,?_⟩;refine EN aR (λi d hd=>?_);rw[List.getElem?_map]at hd;cases hv:cs.toList[i]? with
   |none=>simp_all
   |some v=>
    rw[hv]at hd;simp only[Option.map_some,Option.some.injEq]at hd;subst hd;exact⟨v,rfl,akI hg v (List.mem_of_getElem? hv),uE _ _ _⟩
  .cases h
def dH(P:Program)(ops:Array Oper)(o:Oper)(rt rh:List Nat)(σ:AS)(E:An):Prop :=∀(C:Ctx) (F:dj) (γ:eD) (σ':AS) (a:Act) (w:World),(∀t∈rt,look σ'.env t=look σ.env t)->(∀id∈rh,cF σ'.heap id=cF σ.heap id)->(∀id∈E.new,id ∉ σ'.used) ->(∀d,o.dst=some d->d<C.n)->Sat C F γ σ' a w ->∀(K:Act->World->Prop) (Q:Exit->Act->World->Prop),(∀F' γ' a' w',lJ F F'->Sat C F' γ' (σ'.app E) a' w'->K a' w') ->if Region.wanted o (yielded ops a.tmps)then o.wpIn (FW C.ro) 0 P a w K Q else K (a.put o.dst undef) w
structure Keys where
 rt:List Nat
 rh:List Nat
 wt:List Nat
 wh:List Nat
inductive Trace(P:Program)(ops:Array Oper):List Oper->AS->AS->List (Keys×An)->Prop
 |nil (σ:AS):Trace P ops [] σ σ []
 |cons {o:Oper} {rest:List Oper} {σ σ':AS} {rt rh:List Nat} {E:An} {ks:List (Keys×An)} (h:dH P ops o rt rh σ E) (t:Trace P ops rest (σ.app E) σ' ks):Trace P ops (o::rest) σ σ' ((⟨rt,rh,E.env.map (·.1),E.heap.map (·.1)⟩,E)::ks)
theorem tn{P:Program}{ops:Array Oper}{σ:AS}:Trace P ops [] σ σ []:=.nil σ
theorem tc{P:Program}{ops:Array Oper}{o:Oper}{rest:List Oper}{σ σ':AS}{rt rh:List Nat}{E:An}{ks:List (Keys×An)}(h:dH P ops o rt rh σ E)(t:Trace P ops rest (σ.app E) σ' ks):Trace P ops (o::rest) σ σ' ((⟨rt,rh,E.env.map (·.1),E.heap.map (·.1)⟩,E)::ks):=.cons h t
theorem Trace.seq{P:Program}{ops:Array Oper}{C:Ctx}{Q:Exit->Act->World->Prop}:∀(l:List Oper) (i:Nat) (σ σ':AS) (ks:List (Keys×An)),Trace P ops l σ σ' ks->(∀j o,l[j]? = some o->ops[i+j]? = some o) ->
  (∀o∈l,∀d,o.dst=some d->d<C.n)->(∀k∈ks,∀id∈k.2.new,id ∉ σ.used)->(ks.Pairwise λa b=>∀id∈b.2.new,id ∉ a.2.new) ->
  ∀(F:dj) (γ:eD) (a:Act) (w:World),Sat C F γ σ a w->(∀F' γ' a' w',Sat C F' γ' σ' a' w'->Q .normal a' w')->wpOpsIn (FW C.ro) 0 P ops Q ((List.range l.length).map (i + ·)) a w:=by
 intro l
 induction l with
 |nil=>
  intro i σ σ' ks ht _ _ _ _ F γ a w hs hq;cases ht;exact hq F γ a w hs
 |cons o rest ih=>
  intro i σ σ' ks ht hops hn mz hpw F γ a w hs hq;cases ht with
  |cons h t=>
   rename_i rt rh E ks
   have e:(List.range (o::rest).length).map (i + ·)=i::(List.range rest.length).map (i+1 + ·):=by
    rw[List.length_cons,List.range_succ_eq_map,List.map_cons,List.map_map]
    congr 1
    apply List.map_congr_left;simp only[Function.comp];omega
   rw[e,wpOpsIn_cons];unfold wpOpIn;have ho:ops[i]? = some o:=by simpa using hops 0 o rfl
   rw[ho];have hE:∀id∈E.new,id ∉ σ.used:=mz _ (List.mem_cons_self ..);have aox:=List.pairwise_cons.1 hpw;have key:=h C F γ σ a w (λ_ _=>rfl) (λ_ _=>rfl) hE (λd hd=>hn o (List.mem_cons_self ..) d hd) hs (wpOpsIn (FW C.ro) 0 P ops Q ((List.range rest.length).map (i+1 + ·))) Q (λF' γ' a' w' _ jI=>?_)
   .simp only
    split
    .simp_all
    .rename_i hw;rw[if_neg hw]at key;exact⟨λ_ _=>trivial,key⟩
   .refine ih (i+1) (σ.app E) σ' ks t (λj o' hj=>?_) (λo' Jk=>hn o' (List.mem_cons_of_mem _ Jk)) (λk hk id hid hm=>?_) aox.2 F' γ' a' w' jI hq
    .have:=hops (j+1) o' Pz
     rw[<-this];congr 1;omega
    .rcases List.mem_append.1 hm with hm|hm
     .exact aox.1 k hk id hid hm
     .exact mz k (List.mem_cons_of_mem _ hk) id hid hm
end Go.Proofs.YtaafmkmdfcgeaaaGreatDoor
/-! ### part D -/
/-
 My engine,part D: a region that draws its order ends in the state that the text's order gives.
-/
namespace Go.Proofs.YtaafmkmdfcgeaaaGreatDoor
open Go.RowKit
def mr{α:Type}:List (Nat×α)->List (List (Nat×α))->(Nat->Bool)->Nat->List (Nat×α)
 |b,[],_,_=>b
 |b,e::es,D,i=>mr (if D i=true then e++b else b) es D (i+1)
theorem AK{α:Type}:∀{l:List (Nat×α)} {t:Nat},t ∉ l.map (·.1)->look l t=none
 |[],_,_=>rfl
 |(k,x)::l,t,h=>by
  simp only[List.map_cons,List.mem_cons,not_or]at h;rw[eK,if_neg (λe=>h.1 e.symm)];exact AK h.2
theorem uH{α:Type}:∀{l:List (Nat×α)} {t:Nat},t∈l.map (·.1)->∃x,look l t=some x
 |[],_,h=>dI
 |(k,x)::l,t,h=>by
  rw[eK]
  by_cases e:k=t
  .simp_all
  .simp only[List.map_cons,List.mem_cons]at h
   rcases h with h|h
   .omega
   .rw[if_neg e];exact uH h
theorem qF{α:Type}(t:Nat):∀(es:List (List (Nat×α))) (b b':List (Nat×α)) (D D':Nat->Bool) (i:Nat),look b t=look b' t ->
  (∀j e,es[j]? = some e->t∈e.map (·.1)->D (i+j)=D' (i+j))->look (mr b es D i) t=look (mr b' es D' i) t
 |[],b,b',D,D',i,hb,_=>hb
 |e::es,b,b',D,D',i,hb,h=>by
  refine qF t es _ _ D D' (i+1) ?_ (λj e' hj ht=>?_)
  .by_cases ht:t∈e.map (·.1)
   .have:=h 0 e rfl ht
    simp only[Nat.add_zero]at this;rw[this]
    split
    .rw[gK,gK,hb]
    omega
   .have hn:=AK ht
    split <;> split <;> simp[gK,hn,hb]
  .have:=h (j+1) e' eJ ht
   rwa [Nat.add_right_comm,Nat.add_assoc]at *
theorem Bw{α:Type}(t:Nat):∀(es:List (List (Nat×α))) (b:List (Nat×α)) (D:Nat->Bool) (i k:Nat) (e:List (Nat×α)),es[k]? = some e->t∈e.map (·.1)->D (i+k)=true ->
  (∀j e',k<j->es[j]? = some e'->t∈e'.map (·.1)->D (i+j)=false)->look (mr b es D i) t=look e t
 |[],b,D,i,k,e,hk,_,_,_=>by simp at hk
 |e0::es,b,D,i,0,e,hk,ht,hd,h=>by
  simp only[List.getElem?_cons_zero,Option.some.injEq]at hk;subst hk;obtain⟨x,hx⟩:=uH ht;unfold mr;simp only[Nat.add_zero]at hd;rw[if_pos hd]
  have:look (mr (e0++b) es D (i+1)) t=look (mr (e0++b) es (λ_=>false) (i+1)) t:=by
   refine qF t es _ _ _ _ _ rfl (λj e' hj PW=>?_);have:=h (j+1) e' ah eJ PW
   rwa [show i+(j+1)=i+1+j by omega]at this
  rw[this]
  have hno:∀(es:List (List (Nat×α))) (b:List (Nat×α)) (i:Nat),mr b es (λ_=>false) i=b:=by
   intro es
   induction es with
   |nil=>intros;rfl
   |cons e es ih=>unfold mr;simp[ih]
  rw[hno,gK,hx];rfl
 |e0::es,b,D,i,k+1,e,hk,ht,hd,h=>by
  refine Bw t es _ D (i+1) k e eJ ht (by rwa [show i+1+k=i+(k+1) by omega]) (λj e' hj he PW=>?_);have:=h (j+1) e' ah eJ PW
  rwa [show i+(j+1)=i+1+j by omega]at this
def over(σ:AS)(es:List An)(D:Nat->Bool):AS where
 env:=mr σ.env (es.map (·.env)) D 0
 heap:=mr σ.heap (es.map (·.heap)) D 0
 used:=σ.used++((List.range es.length).filter D).flatMap (λi=>((es[i]?).map (·.new)).getD [])
theorem AJ{σ:AS}{es:List An}{D:Nat->Bool}{x:Nat}:x∈(over σ es D).used↔x∈σ.used∨∃i E,D i=true∧es[i]? = some E∧x∈E.new:=by
 simp only[over,List.mem_append,List.mem_flatMap,List.mem_filter,List.mem_range]
 constructor
 .rintro(h|⟨i,⟨hi,hd⟩,hx⟩)
  .grind
  .exact .inr ⟨i,es[i],hd,List.getElem?_eq_getElem hi,eJ⟩
 .all_goals grind
theorem Trace.at{P:Program}{ops:Array Oper}:∀{l:List Oper} {σ σ':AS} {ks:List (Keys×An)},Trace P ops l σ σ' ks->ks.length=l.length ∧
  (∀i o,l[i]? = some o->∃K E σi,ks[i]? = some (K,E)∧K.wt=E.env.map (·.1)∧K.wh=E.heap.map (·.1)∧dH P ops o K.rt K.rh σi E ∧
   (∀t,look σi.env t=look (mr σ.env (ks.map (·.2.env)) (λj=>decide (j<i)) 0) t)∧(∀t,look σi.heap t=look (mr σ.heap (ks.map (·.2.heap)) (λj=>decide (j<i)) 0) t)) ∧
  (∀t,look σ'.env t=look (mr σ.env (ks.map (·.2.env)) (λ_=>true) 0) t)∧(∀t,look σ'.heap t=look (mr σ.heap (ks.map (·.2.heap)) (λ_=>true) 0) t) ∧
  (∀x,x∈σ'.used↔x∈σ.used∨∃k∈ks,x∈k.2.new):=by
 intro l
 induction l with
 |nil=>
  intro σ σ' ks h;cases h;exact⟨rfl,λi o h=>AV,λ_=>rfl,λ_=>rfl,aR⟩
 |cons o rest ih=>
  intro σ σ' ks h;cases h with
  |cons h t=>
   obtain⟨h1,h2,h3,h4,h5⟩:=ih t
   have shift:∀{α:Type} (es:List (List (Nat×α))) (b:List (Nat×α)) (D D':Nat->Bool) (i:Nat),(∀j,D (i+1+j)=D' (i+j))->mr b es D (i+1)=mr b es D' i:=by
    intro α es
    induction es with
    |nil=>intros;rfl
    |cons e es ih=>
     intro b D D' i hd;unfold mr;have:=hd 0;simp only[Nat.add_zero]at this;rw[this];exact ih _ _ _ _ (λj=>by have:=hd (j+1);rwa [show i+1+(j+1)=i+1+1+j by omega,show i+(j+1)=i+1+j by omega]at this)
   have none:∀{α:Type} (es:List (List (Nat×α))) (b:List (Nat×α)) (D:Nat->Bool) (i:Nat),(∀j,D (i+j)=false)->mr b es D i=b:=by
    intro α es
    induction es with
    |nil=>intros;rfl
    |cons e es ih=>
     intro b D i hd;unfold mr;have:=hd 0;simp only[Nat.add_zero]at this;rw[this];exact ih _ _ _ (λj=>by have:=hd (j+1);rwa [show i+(j+1)=i+1+j by omega]at this)
   refine⟨Pt,λi o' hi=>?_,?_,?_,?_⟩
   .cases i with
    |zero=>
     simp only[List.getElem?_cons_zero,Option.some.injEq]at hi;subst hi;refine⟨_,_,σ,rfl,rfl,rfl,h,λt=>?_,λt=>?_⟩
     .rw[none _ _ _ _ (λj=>aR)]
     simp_all
    |succ i=>
     obtain⟨K,E',σi,k1,k2,k3,k4,k5,k6⟩:=h2 i o' (by simpa using hi);refine⟨K,E',σi,by simpa using k1,k2,k3,k4,λt=>?_,λt=>?_⟩
     .rw[k5 t,List.map_cons]
      conv=>rhs;unfold mr
      rw[if_pos aR,shift _ _ _ (λj=>decide (j<i)) 0 (λj=>iC)]
      rfl
     .rw[k6 t,List.map_cons]
      conv=>rhs;unfold mr
      rw[if_pos aR,shift _ _ _ (λj=>decide (j<i)) 0 (λj=>iC)]
      rfl
   .intro t
    rw[h3 t,List.map_cons]
    conv=>rhs;unfold mr
    rw[if_pos rfl,shift _ _ _ (λ_=>true) 0 (λj=>rfl)]
    rfl
   .intro t
    rw[h4 t,List.map_cons]
    conv=>rhs;unfold mr
    rw[if_pos rfl,shift _ _ _ (λ_=>true) 0 (λj=>rfl)]
    rfl
   .intro x
    rw[h5 x];simp only[AS.app,List.mem_append,List.mem_cons]
    constructor
    .rintro((h|h)|⟨k,hk,hx⟩)
     .exact .inr ⟨_,.inl rfl,h⟩
     .exact .inl h
     .exact .inr ⟨k,.inr hk,hx⟩
    .rintro(h|⟨k,rfl|hk,hx⟩)
     .exact .inl (.inr h)
     .exact .inl (.inl hx)
     .exact .inr ⟨k,hk,hx⟩
end Go.Proofs.YtaafmkmdfcgeaaaGreatDoor
/-! ### part E -/
/-
 My engine,part E: the region that draws its order; code.
-/
namespace Go.Proofs.YtaafmkmdfcgeaaaGreatDoor
open Go.RowKit
def SF(ops:Array Oper):Nat->List Nat
 |0=>[]
 |n+1=>let r:=SF ops n
  r++[((ops[n]?).map λo=>o.after.toList.foldl (λs e=>bif Region.binds .any e then s ||| 2^e.on ||| (r[e.on]?).getD 0 else s) 0).getD 0]
theorem Gu(ops:Array Oper)(n:Nat):(SF ops n).length=n:=by
 induction n with
 |zero=>rfl
 |succ n ih=>simp[SF,ih]
theorem ML{D:Nat->Bool}(f:Nat->Nat):∀(l:List Edge) (s:Nat),(∀i,s.testBit i=true->D i=true)->(∀e∈l,Region.binds .any e=true->D e.on=true∧∀i,(f e.on).testBit i=true->D i=true) ->
  ∀i,(l.foldl (λs e=>bif Region.binds .any e then s ||| 2^e.on ||| f e.on else s) s).testBit i=true->D i=true
 |[],s,hs,_,i,h=>hs i h
 |e::l,s,hs,hl,i,h=>by
  refine ML f l _ (λj hj=>?_) (λe' he'=>hl e' (List.mem_cons_of_mem _ he')) i h;dsimp only at hj;cases hb:Region.binds .any e
  .simp_all
  .rw[hb]at hj
   simp only[cond_true,Nat.testBit_or,Bool.or_eq_true]at hj;obtain⟨k1,k2⟩:=hl e (List.mem_cons_self ..) hb;rcases hj with(hj|hj) | hj
   .grind
   .rw[Nat.testBit_two_pow]at hj;simp_all
   simp_all
def afa(ops:Array Oper)(D:Nat->Bool):Prop:=∀i o,D i=true->ops[i]? = some o->∀e∈o.after,Region.binds .any e=true->D e.on=true
theorem Nx{ops:Array Oper}{D:Nat->Bool}(h:afa ops D):∀(n j:Nat),D j=true->∀i,(((SF ops n)[j]?).getD 0).testBit i=true->D i=true:=by
 intro n
 induction n with
 |zero=>intro j _ i hi;simp[SF]at hi
 |succ n ih=>
  intro j hj i hi;simp only[SF]at hi
  by_cases my:j<n
  .rw[List.getElem?_append_left (by rw[Gu];exact my)]at hi
   grind
  .by_cases he:j=n
   .subst he
    rw[List.getElem?_append_right (by rw[Gu];simp),Gu,Nat.sub_self]at hi;cases ho:ops[j]? with
    |none=>simp_all
    |some o=>
     rw[ho]at hi
     exact ML (D:=D) (λk=>((SF ops j)[k]?).getD 0) o.after.toList 0 aR (λe hm hb=>by
      have:=h j o hj ho e eJ hb;exact⟨this,ih e.on this⟩) i hi
   .rw[List.getElem?_eq_none (by simp[Gu];omega)]at hi
    simp at hi
def meets(a b:List Nat):Bool:=a.any λx=>b.any λy=>Nat.beq x y
theorem yG{a b:List Nat}{x:Nat}(ha:x∈a)(hb:x∈b):meets a b=true:=by
 unfold meets;rw[List.any_eq_true];exact⟨x,ha,List.any_eq_true.2 ⟨x,hb,aR⟩⟩
def Im(a b:Keys):Bool:=meets a.wt (b.rt++b.wt)||meets a.rt b.wt||meets a.wh (b.rh++b.wh)||meets a.rh b.wh
def FP(bs:List Nat):List Keys->Nat->Bool
 |[],_=>true
 |k::ks,i=>(ks.zipIdx (i+1)).all (λ(k',j)=>!Im k k'||((bs[j]?).getD 0).testBit i)&&FP bs ks (i+1)
theorem FO(bs:List Nat):∀(ks:List Keys) (i0:Nat),FP bs ks i0=true->∀i j k k',i<j->ks[i]? = some k->ks[j]? = some k'->Im k k'=true->((bs[i0+j]?).getD 0).testBit (i0+i)=true
 |[],i0,h,i,j,k,k',DM,hk,Cs,hc=>by simp at hk
 |k0::ks,i0,h,0,j,k,k',DM,hk,Cs,hc=>by
  simp only[FP,Bool.and_eq_true,List.all_eq_true]at h;simp only[List.getElem?_cons_zero,Option.some.injEq]at hk;subst hk;obtain⟨j,rfl⟩:∃j',j=j'+1:=⟨j-1,ah⟩
  have hm:(k',i0+1+j)∈ks.zipIdx (i0+1):=by
   rw[List.mk_mem_zipIdx_iff_le_and_getElem?_sub]
   simp_all
  have:=h.1 _ hm;simp only[hc]at this;rw[Nat.add_zero,show i0+(j+1)=i0+1+j by omega];exact this
 |k0::ks,i0,h,i+1,j,k,k',DM,hk,Cs,hc=>by
  simp only[FP,Bool.and_eq_true]at h;obtain⟨j,rfl⟩:∃j',j=j'+1:=⟨j-1,ah⟩;have:=FO bs ks (i0+1) h.2 i j k k' ah eJ eJ hc;rw[show i0+(j+1)=i0+1+j by omega,show i0+(i+1)=i0+1+i by omega];exact this
def XC(ops:Array Oper):Bool:=ops.toList.zipIdx.all λ(o,i)=>o.after.toList.all λe=>!Region.binds .any e||Nat.blt e.on i
def kX(used:List Nat):List (List Nat)->Bool
 |[]=>true
 |n::ns=>n.all (λx=>!(used.any λy=>Nat.beq x y))&&kX (n++used) ns
theorem zt:∀(ns:List (List Nat)) (used:List Nat),kX used ns=true->(∀n∈ns,∀x∈n,x ∉ used)∧ns.Pairwise λa b=>∀x∈b,x ∉ a
 |[],used,h=>aR
 |n::ns,used,h=>by
  simp only[kX,Bool.and_eq_true,List.all_eq_true]at h;obtain⟨h1,h2⟩:=zt ns (n++used) h.2
  have h0:∀x∈n,x ∉ used:=λx hx hm=>by
   have:=h.1 x hx;simp only[Bool.not_eq_true',Bool.eq_false_iff]at this
   simp_all
  refine⟨λm hm x hx=>?_,List.pairwise_cons.2 ⟨λm hm x hx hn=>h1 m hm x hx (List.mem_append_left _ hn),h2⟩⟩;rcases List.mem_cons.1 hm with rfl|hm
  .grind
  .exact λhu=>h1 m hm x hx (List.mem_append_right _ hu)
def Ae(ops:Array Oper)(ks:List Keys):Bool:=XC ops&&FP (SF ops ops.size) ks 0
def kx(i0:Nat)(K0:Keys)(j:Nat)(X:Keys×An):Keys:=if j=i0 then⟨K0.rt,[],K0.wt,K0.wh⟩ else X.1
theorem dH.same{P:Program}{ops:Array Oper}{o:Oper}{rt rh:List Nat}{σ σ1:AS}{E:An}(h:dH P ops o rt rh σ E)(h1:∀t∈rt,look σ1.env t=look σ.env t)(h2:∀id∈rh,look σ1.heap id=look σ.heap id):dH P ops o rt rh σ1 E :=
 λC F γ σ' a w g1 g2 g3 g4 hs=>h C F γ σ' a w (λt ht=>(g1 t ht).trans (h1 t ht)) (λid hid=>(g2 id hid).trans (by unfold cF;simp_all)) g3 g4 hs
section
variable {P:Program} {ops:Array Oper} {C:Ctx} {σ σ':AS} {ks:List (Keys×An)}
theorem MW(ht:Trace P ops ops.toList σ σ' ks){i0 j0:Nat}{K0 Kj:Keys}{E0 Ej:An}(hsp:∀X,ks[i0]? = some X->X=(K0,E0)∧ks[j0]? = some (Kj,Ej)∧i0<j0)(hd:Ae ops ((ks.map (·.1)).set i0 ⟨K0.rt,[],K0.wt,K0.wh⟩)=true)(hwr:∀id∈K0.rh,∀(j:Nat) k,ks[j]? = some k->id∈k.1.wh->j=j0)(hwj:∀id∈K0.rh,id∈Kj.wh)
  (halt:∀o σ1,ops[i0]? = some o->(∀t∈K0.rt,look σ1.env t=look (mr σ.env (ks.map (·.2.env)) (λj=>decide (j<i0)) 0) t)->(∀id∈K0.rh,look σ1.heap id=look Ej.heap id)->dH P ops o K0.rt K0.rh σ1 E0) (mz:kX σ.used (ks.map (·.2.new))=true) (hn:∀o∈ops.toList,∀d,o.dst=some d->d<C.n)
  {Q:Exit->Act->World->Prop} (hq:∀F' γ' a' w',Sat C F' γ' σ' a' w'->Q .normal a' w') :
  ∀(fuel:Nat) (L:Array Bool) (F:dj) (γ:eD) (a:Act) (w:World),L.size=ops.size->afa ops (λi=>L.getD i false)->(List.range ops.size).countP (λi=>!L.getD i false)<=fuel ->
   Sat C F γ (over σ (ks.map (·.2)) (λi=>L.getD i false)) a w->wpAnyIn (FW C.ro) 0 P .any ops Q fuel L a w:=by
 obtain⟨t1,t2,t3,t4,t5⟩:=ht.at;obtain⟨n1,n2⟩:=zt _ _ mz;simp only[Ae,Bool.and_eq_true]at hd;have hp:=FO _ _ _ hd.2
 have ajF:∀i o,ops[i]? = some o->∀e∈o.after,Region.binds .any e=true->e.on<i:=by
  intro i o ho e he hb;have h:=hd.1;simp only[XC,List.all_eq_true]at h
  have hm:(o,i)∈ops.toList.zipIdx:=by
   rw[List.mem_zipIdx_iff_getElem?];simpa using ho
  have:=h _ hm e (by simpa using he);simp only[hb,Bool.not_true,Bool.false_or]at this;exact Nat.blt_eq ▸ this
 -- all listed: the end
 have fin:∀(L:Array Bool) (F:dj) (γ:eD) (a:Act) (w:World),L.size=ops.size->Region.ready .any ops L = []->afa ops (λi=>L.getD i false)->Sat C F γ (over σ (ks.map (·.2)) (λi=>L.getD i false)) a w->Q .normal a w:=by
  intro L F γ a w hL hr hsh hs
  have all:∀i,i<ops.size->L.getD i false=true:=by
   intro i
   induction i using Nat.strongRecOn with
   |_ i ih=>
    intro hi;rcases hb:L.getD i false with _|_
    .exfalso
     have hm:i∈Region.ready .any ops L:=by
      rw[mem_ready];refine⟨?_,ops[i],Array.getElem?_eq_getElem hi,λe he hbd=>?_⟩
      .have hiL:i<L.size:=by omega
       simpa [Array.getD,hiL]using hb
      .exact ih e.on (ajF i _ (Array.getElem?_eq_getElem hi) e he hbd) (Nat.lt_trans (ajF i _ (Array.getElem?_eq_getElem hi) e he hbd) hi)
     rw[hr]at hm;cases hm
    .rfl
  refine hq F γ a w (hs.congr (λt d h=>?_) (λid e h=>?_) (λx hx=>?_))
  .rw[t3 t]at h
   rw[<-h];simp only[over,List.map_map];refine qF t _ _ _ _ _ 0 rfl (λj e hj _=>?_)
   have IP:j<ks.length:=by
    rcases Nat.lt_or_ge j ks.length with h|h
    .exact h
    .rw[List.getElem?_eq_none DB]at hj;cases hj
   rw[Nat.zero_add];exact all j aec
  .unfold cF at h |-
   rw[t4 id]at h
   have:look (over σ (ks.map (·.2)) (λi=>L.getD i false)).heap id=look (mr σ.heap (ks.map (·.2.heap)) (λ_=>true) 0) id:=by
    simp only[over,List.map_map];refine qF id _ _ _ _ _ 0 rfl (λj e hj _=>?_)
    have IP:j<ks.length:=by
     rcases Nat.lt_or_ge j ks.length with h|h
     .exact h
     .rw[List.getElem?_eq_none DB]at hj;cases hj
    rw[Nat.zero_add];exact all j aec
   rw[this];exact h
  .rw[t5 x]
   rcases AJ.1 hx with h|⟨i,E,_,he,hx⟩
   .exact .inl h
   .rw[List.getElem?_map]at he
    cases hk:ks[i]? with
    |none=>rw[hk]at he;cases he
    |some k=>rw[hk]at he;injection he with he;subst he;exact .inr ⟨k,List.mem_of_getElem? hk,hx⟩
 intro fuel
 induction fuel with
 |zero=>
  intro L F γ a w hL hsh hc hs
  have hr:Region.ready .any ops L = []:=by
   rw[List.eq_nil_iff_forall_not_mem];intro i hi;rw[mem_ready]at hi;obtain⟨h1,o,ho,_⟩:=hi;have my:i<ops.size:=(Array.getElem?_eq_some_iff.1 ho).1;have hz:(List.range ops.size).countP (λi=>!L.getD i false)=0:=ah;rw[List.countP_eq_zero]at hz;have:=hz i (List.mem_range.2 my);have hiL:i<L.size:=ah;simp[Array.getD,hiL]at this h1;rw[this]at h1;cases h1
  exact⟨hr,fin L F γ a w hL hr hsh hs⟩
 |succ fuel ih=>
  intro L F γ a w hL hsh hc hs;refine⟨λhr=>fin L F γ a w hL hr hsh hs,λi hi=>?_⟩;rw[mem_ready]at hi;obtain⟨hun,o,ho,aiC⟩:=hi;have my:i<ops.size:=(Array.getElem?_eq_some_iff.1 ho).1;have hiL:i<L.size:=ah;have hDi:L.getD i false=false:=by simpa [Array.getD,hiL]using hun
  have hol:ops.toList[i]? = some o:=by simpa using ho
  obtain⟨K,E,σi,k1,k2,k3,k4,k5,k6⟩:=t2 i o hol
  have hks:∀(j:Nat) X,ks[j]? = some X->((ks.map (·.1)).set i0 ⟨K0.rt,[],K0.wt,K0.wh⟩)[j]? = some (kx i0 K0 j X):=by
   intro j X hX;unfold kx;rw[List.getElem?_set];have hl:j<ks.length:=(List.getElem?_eq_some_iff.1 hX).1
   by_cases hji:i0=j
   .rw[if_pos hji,if_pos hji.symm,if_pos ad0]
   .rw[if_neg hji,if_neg (λh=>hji h.symm),List.getElem?_map,hX];rfl
  have ajH:=hks i (K,E) k1
  have hrt:∀(j:Nat) (X:Keys×An),ks[j]? = some X->(kx i0 K0 j X).rt=X.1.rt∧(kx i0 K0 j X).wt=X.1.wt∧(kx i0 K0 j X).wh=X.1.wh∧(j≠i0->(kx i0 K0 j X).rh=X.1.rh):=by
   intro j X hX;unfold kx
   by_cases hji:j=i0
   .subst hji
    obtain⟨rfl,_⟩:=hsp _ hX;simp
   .simp[hji]
  have c2:=hrt i (K,E) k1
  have Te:∀{j:Nat} {X:Keys×An},ks[j]? = some X->∃K' E',X=(K',E')∧K'.wt=E'.env.map (·.1)∧K'.wh=E'.heap.map (·.1):=by
   intro j X hX
   have IP:j<ops.toList.length:=by
    rw[<-t1];rcases Nat.lt_or_ge j ks.length with h|h
    .exact h
    .rw[List.getElem?_eq_none h]at hX;cases hX
   obtain⟨K',E',_,q1,q2,q3,_⟩:=t2 j _ (List.getElem?_eq_getElem IP);rw[hX]at q1;injection q1 with q1
   exact⟨K',E',q1,q2,q3⟩
  -- whoever clashes with i: earlier ones are done,later ones are not
  have early:∀j X,j<i->ks[j]? = some X->Im (kx i0 K0 j X) (kx i0 K0 i (K,E))=true->L.getD j false=true:=by
   intro j X hj hX Em;have:=hp j i _ _ hj (hks j X hX) ajH Em;simp only[Nat.zero_add]at this
   have avh:afa ops (λx=>L.getD x false||decide (x=i)):=by
    intro x o' hx Jk e he hb;simp only[Bool.or_eq_true,decide_eq_true_eq]at hx |-;rcases hx with hx|rfl
    .exact .inl (hsh x o' hx Jk e he hb)
    .rw[ho]at Jk;injection Jk with Jk;subst Jk
     exact .inl (aiC e he hb)
   have:=Nx avh ops.size i aR j this;simp only[Bool.or_eq_true,decide_eq_true_eq]at this;rcases this with h|h
   .exact h
   .omega
  have late:∀j X,i<j->ks[j]? = some X->Im (kx i0 K0 i (K,E)) (kx i0 K0 j X)=true->L.getD j false=false:=by
   intro j X hj hX Em;have:=hp i j _ _ hj ajH (hks j X hX) Em;simp only[Nat.zero_add]at this;rcases hb:L.getD j false with _|_
   .rfl
   .have:=Nx hsh ops.size j hb i this
    rw[hDi]at this;cases this
  have afv:∀t,t∈K.rt∨t∈K.wt->∀j e,(ks.map (·.2.env))[j]? = some e->t∈e.map (·.1)->L.getD j false=decide (j<i):=by
   intro t ht j e hj he;rw[List.getElem?_map]at hj;cases hX:ks[j]? with
   |none=>rw[hX]at hj;cases hj
   |some X=>
    rw[hX]at hj;injection hj with hj;subst hj
    obtain⟨K',E',rfl,q2,q3⟩:=Te hX;rcases Nat.lt_trichotomy j i with Wi|rfl|hgt
    .rw[decide_eq_true Wi]
     refine early j _ Wi hX ?_;have c1:=hrt j _ hX;unfold Im;simp only[c1.1,c1.2.1,c1.2.2.1,c2.1,c2.2.1,c2.2.2.1,q2];have:meets (E'.env.map (·.1)) (K.rt++K.wt)=true:=yG he (List.mem_append.2 ht);simp[this]
    .rw[hDi];simp
    .have hnd:decide (j<i)=false:=by simp;omega
     rw[hnd];refine late j _ hgt hX ?_;have c1:=hrt j _ hX;unfold Im;simp only[c1.1,c1.2.1,c1.2.2.1,c2.1,c2.2.1,c2.2.2.1,q2];rcases ht with ht|ht
     .have:meets K.rt (E'.env.map (·.1))=true:=yG ht he
      simp[this]
     .have:meets K.wt (K'.rt++E'.env.map (·.1))=true:=yG ht (List.mem_append_right _ he)
      simp[this]
  have afw:∀t,(t∈K.rh∧i≠i0)∨t∈K.wh->∀j e,(ks.map (·.2.heap))[j]? = some e->t∈e.map (·.1)->L.getD j false=decide (j<i):=by
   intro t ht j e hj he;rw[List.getElem?_map]at hj;cases hX:ks[j]? with
   |none=>rw[hX]at hj;cases hj
   |some X=>
    rw[hX]at hj;injection hj with hj;subst hj
    obtain⟨K',E',rfl,q2,q3⟩:=Te hX;rcases Nat.lt_trichotomy j i with Wi|rfl|hgt
    .rw[decide_eq_true Wi]
     refine early j _ Wi hX ?_;have c1:=hrt j _ hX;unfold Im;simp only[c1.1,c1.2.1,c1.2.2.1,c2.1,c2.2.1,c2.2.2.1,q3];rcases ht with⟨ht,nq⟩ | ht
     .have:meets (E'.heap.map (·.1)) (K.rh++K.wh)=true:=yG he (List.mem_append_left _ ht)
      simp[this,c2.2.2.2 nq]
     .have:meets (E'.heap.map (·.1)) ((kx i0 K0 i (K,E)).rh++K.wh)=true:=yG he (List.mem_append_right _ ht)
      simp[this]
    .rw[hDi];simp
    .have hnd:decide (j<i)=false:=by simp;omega
     rw[hnd];refine late j _ hgt hX ?_;have c1:=hrt j _ hX;unfold Im;simp only[c1.1,c1.2.1,c1.2.2.1,c2.1,c2.2.1,c2.2.2.1,q3];rcases ht with⟨ht,nq⟩ | ht
     .have:meets K.rh (E'.heap.map (·.1))=true:=yG ht he
      simp[this,c2.2.2.2 nq]
     .have:meets K.wh ((kx i0 K0 j (K',E')).rh++E'.heap.map (·.1))=true:=yG ht (List.mem_append_right _ he)
      simp[this]
  have alu:∀t,t∈K.rt∨t∈K.wt->look (over σ (ks.map (·.2)) (λi=>L.getD i false)).env t=look σi.env t:=by
   intro t ht;rw[k5 t];simp only[over,List.map_map];exact qF t _ _ _ _ _ 0 rfl (λj e hj he=>by simpa using afv t ht j e hj he)
  have aoA:∀t,(t∈K.rh∧i≠i0)∨t∈K.wh->look (over σ (ks.map (·.2)) (λi=>L.getD i false)).heap t=look σi.heap t:=by
   intro t ht;rw[k6 t];simp only[over,List.map_map];exact qF t _ _ _ _ _ 0 rfl (λj e hj he=>by simpa using afw t ht j e hj he)
  have hEn:∀id∈E.new,id ∉ (over σ (ks.map (·.2)) (λi=>L.getD i false)).used:=by
   intro id hid hm;rcases AJ.1 hm with h|⟨j,E',hj,he,hx⟩
   .exact n1 E.new (List.mem_map.2 ⟨(K,E),List.mem_of_getElem? k1,rfl⟩) id hid h
   .have nq:j≠i:=by rintro rfl;rw[hDi]at hj;cases hj
    rw[List.getElem?_map]at he;cases hX:ks[j]? with
    |none=>rw[hX]at he;cases he
    |some X=>
     rw[hX]at he;injection he with he;subst he
     have g1:(ks.map (·.2.new))[j]? = some X.2.new:=by simp[List.getElem?_map,hX]
     have g2:(ks.map (·.2.new))[i]? = some E.new:=XY;have pw:=List.pairwise_iff_getElem.1 n2;obtain⟨l1,e1⟩:=List.getElem?_eq_some_iff.1 g1;obtain⟨l2,e2⟩:=List.getElem?_eq_some_iff.1 g2;rcases Nat.lt_or_gt_of_ne nq with h|h
     .have:=pw j i l1 l2 h
      rw[e1,e2]at this;exact this id hid hx
     .have:=pw i j l2 l1 h
      rw[e1,e2]at this;exact this id hx hid
  have kOp:dH P ops o K.rt K.rh (over σ (ks.map (·.2)) (λi=>L.getD i false)) E:=by
   by_cases hii:i=i0
   .subst hii
    obtain⟨hsk,hkj,DM⟩:=hsp _ k1;injection hsk with LP EI;subst LP;subst EI
    by_cases hjd:L.getD j0 false=true
    .refine halt o _ ho (λt ht=>(alu t (.inl ht)).trans (k5 t)) (λid hid=>?_)
     simp only[over,List.map_map];have avi:(ks.map (λk=>k.2.heap))[j0]? = some Ej.heap:=by rw[List.getElem?_map,hkj];rfl
     obtain⟨K',E',q1,q2,q3⟩:=Te hkj;injection q1 with q1 q1';subst q1;subst q1'
     exact Bw id _ _ _ 0 j0 _ avi (by rw[<-q3];exact hwj id hid) (by rw[Nat.zero_add];exact hjd) (λj e hjj hj he=>by
      rw[List.getElem?_map]at hj;cases hX:ks[j]? with
      |none=>rw[hX]at hj;cases hj
      |some X=>
       rw[hX]at hj;injection hj with hj;subst hj
       obtain⟨K2,E2,rfl,p2,p3⟩:=Te hX;have:=hwr id hid j _ hX (by rw[p3];exact he)
       omega)
    .refine dH.same k4 (λt ht=>alu t (.inl ht)) (λid hid=>?_)
     rw[k6 id];simp only[over,List.map_map];refine qF id _ _ _ _ _ 0 rfl (λj e hj he=>?_);rw[List.getElem?_map]at hj;cases hX:ks[j]? with
     |none=>rw[hX]at hj;cases hj
     |some X=>
      rw[hX]at hj;injection hj with hj;subst hj
      obtain⟨K2,E2,rfl,p2,p3⟩:=Te hX;have hjj:=hwr id hid j _ hX (by rw[p3];exact he);subst hjj;rw[Nat.zero_add];have:decide (j<i)=false:=iC;rw[this];simpa using hjd
   .exact dH.same k4 (λt ht=>alu t (.inl ht)) (λid hid=>aoA id (.inl ⟨hid,hii⟩))
  have key:=kOp C F γ (over σ (ks.map (·.2)) (λi=>L.getD i false)) a w (λt ht=>rfl) (λid hid=>rfl) hEn (λd hd=>hn o (by simpa using Array.mem_of_getElem? ho) d hd) hs
   (wpAnyIn (FW C.ro) 0 P .any ops Q fuel (L.setIfInBounds i true)) Q (λF' γ' a' w' _ jI=>?_)
  .unfold wpOpIn
   rw[ho];simp only
   split
   .rename_i hw;rw[if_pos hw]at key;exact key
   .rename_i hw;rw[if_neg hw]at key;exact⟨λ_ _=>trivial,key⟩
  .have GB:∀j,(L.setIfInBounds i true).getD j false=if j=i then true else L.getD j false:=by
    intro j
    by_cases h:j=i
    .subst h;simp[Array.getD,hiL]
    .have h':i≠j:=λe=>h e.symm
     by_cases hj:j<L.size
     .simp[Array.getD,hj,h,Array.getElem_setIfInBounds,h']
     .simp[Array.getD,hj,h]
   have hf:(λj=>(L.setIfInBounds i true).getD j false)=λj=>if j=i then true else L.getD j false:=funext GB
   refine ih _ F' γ' a' w' (by simpa using hL) ?_ ?_ (jI.congr (λt d h=>?_) (λid e h=>?_) (λx hx=>?_))
   .rw[hf]
    intro x o' hx Jk e he hb;simp only at hx |-
    by_cases hxi:x=i
    .subst hxi
     rw[ho]at Jk;injection Jk with Jk;subst Jk
     split
     .rfl
     .exact aiC e he hb
    .rw[if_neg hxi]at hx
     split
     .rfl
     .exact hsh x o' hx Jk e he hb
   .have e1:(List.range ops.size).countP (λj=>!(L.setIfInBounds i true).getD j false)+1<=(List.range ops.size).countP (λj=>!L.getD j false):=by
     have gen:∀(l:List Nat),l.Nodup->i∈l->l.countP (λj=>!(L.setIfInBounds i true).getD j false)+1<=l.countP (λj=>!L.getD j false):=by
      intro l
      induction l with
      |nil=>intro _ h;cases h
      |cons x l ihl=>
       intro hnd hm;have aoB:=List.nodup_cons.1 hnd;rw[List.countP_cons,List.countP_cons]
       by_cases hx:x=i
       .subst hx
        have same:l.countP (λj=>!(L.setIfInBounds x true).getD j false)=l.countP (λj=>!L.getD j false):=by
         apply List.countP_congr;intro j hj;have:j≠x:=λe=>aoB.1 (e ▸ hj)
         rw[GB,if_neg this]
        rw[same,GB,if_pos rfl,hDi];simp
       .have QH:i∈l:=by
         rcases List.mem_cons.1 hm with h|h
         .exact absurd h.symm hx
         .exact h
        have:=ihl aoB.2 QH;rw[GB,if_neg hx];omega
     exact gen _ List.nodup_range (List.mem_range.2 my)
    omega
   . -- slots
    rw[hf]at h;simp only[AS.app];rw[<-h];simp only[over,List.map_map];rw[gK]
    by_cases ht:t∈E.env.map (·.1)
    .obtain⟨x,hx⟩:=uH ht
     have:=Bw t (ks.map (·.2.env)) σ.env (λj=>if j=i then true else L.getD j false) 0 i E.env XY ht aR (λj e' hj he hte=>by
      have:=afv t (.inr (k2 ▸ ht)) j e' he hte;rw[Nat.zero_add,if_neg ah,this];simp;omega)
     rw[hx];exact Eq.trans rfl (this.trans hx).symm
    .rw[AK ht]
     refine qF t _ _ _ _ _ 0 rfl (λj e' he hte=>?_)
     have nq:j≠i:=by
      rintro rfl;rw[List.getElem?_map,k1]at he;injection he with he;subst he
      exact ht hte
     rw[Nat.zero_add,if_neg nq]
   .unfold cF at h |-
    rw[hf]at h
    have:look (E.heap++(over σ (ks.map (·.2)) (λi=>L.getD i false)).heap) id=look (over σ (ks.map (·.2)) (λj=>if j=i then true else L.getD j false)).heap id:=by
     simp only[over,List.map_map];rw[gK]
     by_cases ht:id∈E.heap.map (·.1)
     .obtain⟨x,hx⟩:=uH ht
      have:=Bw id (ks.map (·.2.heap)) σ.heap (λj=>if j=i then true else L.getD j false) 0 i E.heap XY ht aR (λj e' hj he hte=>by
       have:=afw id (.inr (k3 ▸ ht)) j e' he hte;rw[Nat.zero_add,if_neg ah,this];simp;omega)
      rw[hx];exact Eq.trans rfl (this.trans hx).symm
     .rw[AK ht]
      refine qF id _ _ _ _ _ 0 rfl (λj e' he hte=>?_)
      have nq:j≠i:=by
       rintro rfl;rw[List.getElem?_map,k1]at he;injection he with he;subst he
       exact ht hte
      rw[Nat.zero_add,if_neg nq]
    simp only[AS.app];rw[this];exact h
   .rw[hf,AJ]
    rcases List.mem_append.1 hx with hx|hx
    .exact .inr ⟨i,E,aR,XY,hx⟩
    .rcases AJ.1 hx with h|⟨j,E',hj,he,hx⟩
     .exact .inl h
     .exact .inr ⟨j,E',by by_cases hji:j=i <;> simp[hji,hj],he,hx⟩
theorem ade(ht:Trace P ops ops.toList σ σ' ks)(hd:Ae ops (ks.map (·.1))=true)(mz:kX σ.used (ks.map (·.2.new))=true)(hn:∀o∈ops.toList,∀d,o.dst=some d->d<C.n)
  {Q:Exit->Act->World->Prop} (hq:∀F' γ' a' w',Sat C F' γ' σ' a' w'->Q .normal a' w') :
  ∀(fuel:Nat) (L:Array Bool) (F:dj) (γ:eD) (a:Act) (w:World),L.size=ops.size->afa ops (λi=>L.getD i false)->(List.range ops.size).countP (λi=>!L.getD i false)<=fuel ->
   Sat C F γ (over σ (ks.map (·.2)) (λi=>L.getD i false)) a w->wpAnyIn (FW C.ro) 0 P .any ops Q fuel L a w :=
 MW (i0:=ks.length) (j0:=0) (K0:=⟨[],[],[],[]⟩) (Kj:=⟨[],[],[],[]⟩) (E0:=⟨[],[],[]⟩) (Ej:=⟨[],[],[]⟩) ht (λX h=>AV) (by rw[List.set_eq_of_length_le aR];exact hd) (λ_ h=>AV) (λ_ h=>AV) (λo _ h=>by have:=ht.at.1;simp_all) mz hn hq
end
end Go.Proofs.YtaafmkmdfcgeaaaGreatDoor
/-! ### part F -/
/-
 My engine,part F: code,calls,names.
-/
namespace Go.Proofs.YtaafmkmdfcgeaaaGreatDoor
open Go.RowKit
def gL(P:Program)(n:Nat)(c:Code)(Q:Exit->AS->Prop)(σ:AS):Prop :=∀(C:Ctx) (F:dj) (γ:eD) (a:Act) (w:World),C.n=n->Sat C F γ σ a w->c.wpIn (FW C.ro) 0 P (λe a' w'=>∃F' γ' σ',Sat C F' γ' σ' a' w'∧Q e σ') a w
def jP(σ σ':AS):Prop:=∀(C:Ctx) (F:dj) (γ:eD) (a:Act) (w:World),Sat C F γ σ a w->∃F' γ',Sat C F' γ' σ' a w
theorem jP.refl(σ:AS):jP σ σ:=λC F γ a w h=>⟨F,γ,h⟩
theorem jP.trans{a b c:AS}(h:jP a b)(k:jP b c):jP a c:=λC F γ x w s=>by
 obtain⟨F1,γ1,h1⟩:=h C F γ x w s;exact k C F1 γ1 x w h1
section
variable {P:Program} {n:Nat} {Q:Exit->AS->Prop} {σ:AS}
theorem DG{c:Code}{Q':Exit->AS->Prop}(h:gL P n c Q σ)(hq:∀e σ,Q e σ->Q' e σ):gL P n c Q' σ:=λC F γ a w hn hs=>
 wpIn_mono (h C F γ a w hn hs) λe a' w' ⟨F',γ',σ',h1,h2⟩=>⟨F',γ',σ',h1,hq e σ' h2⟩
theorem sy{c:Code}{σ':AS}(hi:jP σ σ')(h:gL P n c Q σ'):gL P n c Q σ:=λC F γ a w hn hs=>by
 obtain⟨F1,γ1,h1⟩:=hi C F γ a w hs;exact h C F1 γ1 a w hn h1
theorem sW(h:Q .normal σ):gL P n .skip Q σ:=λC F γ a w hn hs=>wpIn_skip ⟨F,γ,σ,hs,h⟩
theorem sX(h:Q .ret σ):gL P n .ret Q σ:=λC F γ a w hn hs=>wpIn_ret ⟨F,γ,σ,hs,h⟩
theorem HA{id:Nat}(h:Q (.exit id) σ):gL P n (.exit id) Q σ:=λC F γ a w hn hs=>wpIn_exit ⟨F,γ,σ,hs,h⟩
def afd(P:Program)(n:Nat)(y:Code)(Q:Exit->AS->Prop):Exit->AS->Prop
 |.normal,σ=>gL P n y Q σ
 |e,σ=>Q e σ
theorem fK{x y:Code}(h:gL P n x (afd P n y Q) σ):gL P n (.seq x y) Q σ:=λC F γ a w hn hs=>
 wpIn_seq (wpIn_mono (h C F γ a w hn hs) λe a' w' ⟨F',γ',σ',h1,h2⟩=>by
  cases e with
  |normal=>exact h2 C F' γ' a' w' hn h1
  |exit id=>exact⟨F',γ',σ',h1,h2⟩
  |goto l=>exact⟨F',γ',σ',h1,h2⟩
  |ret=>exact⟨F',γ',σ',h1,h2⟩
  |panic c=>exact⟨F',γ',σ',h1,h2⟩
  |outgrown=>exact⟨F',γ',σ',h1,h2⟩)
theorem qc{c:Operand}{x y:Code}(b:Bool)(hc:ev σ.env c=some (.bool b))(ht:b=true->gL P n x Q σ)(hf:b=false->gL P n y Q σ):gL P n (.cond c x y) Q σ:=λC F γ a w hn hs=>by
 have:=hs.ev hc;exact wpIn_cond_split this (λe=>ht e C F γ a w hn hs) (λe=>hf e C F γ a w hn hs)
def BU(id:Nat)(Q:Exit->AS->Prop):Exit->AS->Prop
 |.exit uS,σ=>bif Nat.beq uS id then Q .normal σ else Q (.exit uS) σ
 |e,σ=>Q e σ
theorem vM{id:Nat}{c:Code}(h:gL P n c (BU id Q) σ):gL P n (.block id c) Q σ:=λC F γ a w hn hs=>
 wpIn_block (wpIn_mono (h C F γ a w hn hs) λe a' w' ⟨F',γ',σ',h1,h2⟩=>by
  cases e with
  |exit uS=>
   simp only[BU]at h2;simp only[Exit.inBlock]
   by_cases hid:uS=id
   .simp at h2;grind
   .have:Nat.beq uS id=false:=by rw[Bool.eq_false_iff];simp_all
    rw[this]at h2;rw[if_neg hid];exact⟨F',γ',σ',h1,h2⟩
  |normal=>exact⟨F',γ',σ',h1,h2⟩
  |goto l=>exact⟨F',γ',σ',h1,h2⟩
  |ret=>exact⟨F',γ',σ',h1,h2⟩
  |panic c=>exact⟨F',γ',σ',h1,h2⟩
  |outgrown=>exact⟨F',γ',σ',h1,h2⟩)
def ajy{α:Type}(S:α->AS)(I:α->Prop)(μ:α->Nat)(x:α)(Q:Exit->AS->Prop):Exit->AS->Prop
 |.normal,σ=>∃x',I x'∧μ x'<μ x∧jP σ (S x')
 |e,σ=>Q e σ
theorem Kz{c:Code}{α:Type}(S:α->AS)(I:α->Prop)(μ:α->Nat)(x0:α)(h0:jP σ (S x0))(hI:I x0)(round:∀x,I x->gL P n c (ajy S I μ x Q) (S x)):gL P n (.loop c) Q σ:=λC F γ a w hn hs=>by
 obtain⟨F1,γ1,h1⟩:=h0 C F γ a w hs;refine wpIn_loop_ghost (λk a w=>∃x F γ,I x∧μ x=k∧Sat C F γ (S x) a w) (μ x0) ⟨x0,F1,γ1,hI,rfl,h1⟩ ?_;rintro k a w ⟨x,F,γ,hx,rfl,hs⟩;refine wpIn_mono (round x hx C F γ a w hn hs) λe a' w' ⟨F',γ',σ',h1,h2⟩=>?_
 cases e with
 |normal=>
  obtain⟨x',i1,i2,i3⟩:=h2;obtain⟨F2,γ2,h3⟩:=i3 C F' γ' a' w' h1;exact⟨μ x',i2,x',F2,γ2,i1,rfl,h3⟩
 |exit id=>exact⟨F',γ',σ',h1,h2⟩
 |goto l=>exact⟨F',γ',σ',h1,h2⟩
 |ret=>exact⟨F',γ',σ',h1,h2⟩
 |panic c=>exact⟨F',γ',σ',h1,h2⟩
 |outgrown=>exact⟨F',γ',σ',h1,h2⟩
def afe{α:Type}(S:α->AS)(I:α->Prop)(Q:Exit->AS->Prop):Exit->AS->Prop
 |.normal,σ=>∃x',I x'∧jP σ (S x')
 |e,σ=>Q e σ
theorem aog{c d:Code}{α:Type}(S:α->AS)(I:α->Prop)(h:gL P n c (afe S I Q) σ)(k:∀x,I x->gL P n d Q (S x)):gL P n (.seq c d) Q σ :=
 fK (DG h λe σ' hq=>by
  cases e with
  |normal=>obtain⟨x',i1,i2⟩:=hq;exact sy i2 (k x' i1)
  |exit id=>exact hq
  |goto l=>exact hq
  |ret=>exact hq
  |panic c=>exact hq
  |outgrown=>exact hq)
def qk(n:Nat)(ops:Array Oper):Bool:=ops.toList.all λo=>match o.dst with
 |some d=>Nat.blt d n
 |none=>true
theorem dV{id:Nat}{ops:Array Oper}{σ':AS}{ks:List (Keys×An)}(ht:Trace P ops ops.toList σ σ' ks)(hd:qk n ops=true)(mz:kX σ.used (ks.map (·.2.new))=true)(hq:Q .normal σ'):gL P n (.region id ops false) Q σ:=λC F γ a w hn hs=>by
 refine wpIn_region ?_;obtain⟨n1,n2⟩:=zt _ _ mz;have:=Trace.seq (Q:=λe a' w'=>∃F' γ' σ',Sat C F' γ' σ' a' w'∧Q e σ') (C:=C) ops.toList 0 σ σ' ks ht (λj o hj=>eJ) (λo ho d hd'=>?_) (λk hk=>n1 _ (List.mem_map.2 ⟨k,hk,rfl⟩)) (List.pairwise_map.1 n2) F γ a w hs (λF' γ' a' w' h=>⟨F',γ',σ',h,hq⟩)
 .simp_all
 .simp only[qk,List.all_eq_true]at hd
  have:=hd o ho
  simp_all
theorem KA{id:Nat}{ops:Array Oper}{σ':AS}{ks:List (Keys×An)}(hm:P.follows .mixedOrders=true)(ht:Trace P ops ops.toList σ σ' ks)(hk:Ae ops (ks.map (·.1))=true)(hd:qk n ops=true)(mz:kX σ.used (ks.map (·.2.new))=true)(hq:Q .normal σ'):gL P n (.region id ops true) Q σ:=λC F γ a w hn hs=>by
 refine wpIn_region_any hm (ade ht hk mz (λo ho d hd'=>?_) (λF' γ' a' w' h=>⟨F',γ',σ',h,hq⟩) ops.size _ F γ a _ aR ?_ ?_ ?_)
 .simp only[qk,List.all_eq_true]at hd
  have:=hd o ho
  simp_all
 .intro i o hi
  by_cases h:i<ops.size <;> simp[h]at hi
 .have:=List.countP_le_length (p:=λi=>!(Array.replicate ops.size false).getD i false) (l:=List.range ops.size)
  simp_all
 .have hF:∀i,(Array.replicate ops.size false).getD i false=false:=λi=>by
   by_cases h:i<ops.size <;> simp[h]
  have jI:Sat C F γ σ a { w with drawn:=w.drawn+1 }:=⟨hs.env,hs.ws.quiet (uF.drew w),hs.size,hs.defers⟩
  have none:∀{α:Type} (es:List (List (Nat×α))) (b:List (Nat×α)) (i:Nat),mr b es (λi=>(Array.replicate ops.size false).getD i false) i=b:=by
   intro α es
   induction es with
   |nil=>intros;rfl
   |cons e es ih=>
    unfold mr
    simp_all
  refine jI.congr (λt d h=>?_) (λid e h=>?_) (λx hx=>AJ.2 (.inl hx))
  .simp only[over]at h;simp_all
  .simp only[over]at h;simp_all
end
end Go.Proofs.YtaafmkmdfcgeaaaGreatDoor
/-! ### part G -/
/-
 My engine,part G: names in data,calls.
-/
namespace Go.Proofs.YtaafmkmdfcgeaaaGreatDoor
open Go.RowKit
mutual
def DV.ids:DV->List Nat
 |.agg ds=>vv ds
 |.gh ds=>vv ds
 |.ref id _=>[id]
 |.row id=>[id]
 |.rp id _ _ _=>[id]
 |.sp id _ _ _=>[id]
 |.Nw id _ _=>[id]
 |.rv id _ _ _=>[id]
 |.np id _=>[id]
 |.FD _ d=>d.ids
 |.CG _ ds=>vv ds
 |.int _ _ | .bool _ | .str _ | .val _ | .cu | .sl _ _ | .fs _ _ | .iv _=>[]
def vv:List DV->List Nat
 |[]=>[]
 |d::ds=>d.ids++vv ds
end
mutual
def DV.xT(f:Nat->Nat):DV->DV
 |.agg ds=>.agg (yC f ds)
 |.gh ds=>.gh (yC f ds)
 |.ref id o=>.ref (f id) o
 |.row id=>.row (f id)
 |.rp id i sz o=>.rp (f id) i sz o
 |.sp id i sz o=>.sp (f id) i sz o
 |.Nw id o n=>.Nw (f id) o n
 |.rv id l n z=>.rv (f id) l n z
 |.np id o=>.np (f id) o
 |.FD b d=>.FD b (d.xT f)
 |.CG g ds=>.CG g (yC f ds)
 |.int k n=>.int k n
 |.bool b=>.bool b
 |.str s=>.str s
 |.val v=>.val v
 |.cu=>.cu
 |.sl sz eC=>.sl sz eC
 |.fs sz eC=>.fs sz eC
 |.iv ds=>.iv ds
def yC(f:Nat->Nat):List DV->List DV
 |[]=>[]
 |d::ds=>d.xT f::yC f ds
end
mutual
theorem wK{F:dj}{γ γ':eD}:∀(d:DV) (v:Value),(∀i∈d.ids,γ i=γ' i)->Rs F γ d v->Rs F γ' d v
 |.int k n,v,_,h=>AW
 |.bool b,v,_,h=>AW
 |.str s,v,_,h=>AW
 |.val x,v,_,h=>AW
 |.cu,v,_,h=>AW
 |.agg ds,v,hi,h=>by simp only[Rs]at h |-;obtain⟨cs,rfl,h⟩:=h;exact⟨cs,rfl,Gx ds _ Nu h⟩
 |.gh ds,v,hi,h=>ajs
 |.sl sz eC,v,_,h=>AW
 |.fs sz eC,v,_,h=>AW
 |.iv ds,v,_,h=>AW
 |.ref id off,v,hi,h=>Ku
 |.row id,v,hi,h=>Ku
 |.rp id i sz o,v,hi,h=>Ku
 |.sp id i sz o,v,hi,h=>Ku
 |.Nw id off n,v,hi,h=>Ku
 |.rv id lo n z,v,hi,h=>Ku
 |.np id off,v,hi,h=>Ku
 |.FD g d,v,hi,h=>by simp only[Rs]at h |-;exact⟨λe=>wK d v Nu (h.1 e),h.2⟩
 |.CG f ds,v,hi,h=>ajs
theorem Gx{F:dj}{γ γ':eD}:∀(ds:List DV) (vs:List Value),(∀i∈vv ds,γ i=γ' i)->fZ F γ ds vs->fZ F γ' ds vs
 |[],vs,_,h=>ad5
 |d::ds,vs,hi,h=>by
  simp only[fZ]at h |-;simp only[vv,List.mem_append]at hi;obtain⟨v,rest,h1,h2,h3,h4⟩:=h;exact⟨v,rest,h1,h2,wK d v (λi h=>hi i (.inl h)) h3,Gx ds _ (λi h=>hi i (.inr h)) h4⟩
theorem Ec{F:dj}{γ γ':eD}:∀(ds:List DV) (vs:List Value),(∀i∈vv ds,γ i=γ' i)->tQ F γ ds vs->tQ F γ' ds vs
 |[],vs,_,h=>ad4
 |d::ds,vs,hi,h=>by
  simp only[tQ]at h |-;simp only[vv,List.mem_append]at hi;obtain⟨v,rest,h1,h3,h4⟩:=h;exact⟨v,rest,h1,wK d v (λi h=>hi i (.inl h)) h3,Ec ds _ (λi h=>hi i (.inr h)) h4⟩
end
mutual
theorem KC{F:dj}{γ γ':eD}(f:Nat->Nat):∀(d:DV) (v:Value),(∀i∈d.ids,γ (f i)=γ' i)->(Rs F γ (d.xT f) v↔Rs F γ' d v)
 |.int k n,v,_=>Iq
 |.bool b,v,_=>Iq
 |.str s,v,_=>Iq
 |.val x,v,_=>Iq
 |.cu,v,_=>Iq
 |.agg ds,v,hi=>by
  simp only[DV.xT,Rs];have:=λvs=>PL (F:=F) (γ:=γ) (γ':=γ') f ds vs Nu
  simp only[this]
 |.gh ds,v,hi=>by
  simp only[DV.xT,Rs];have:=λvs=>Jj (F:=F) (γ:=γ) (γ':=γ') f ds vs Nu
  simp only[this]
 |.sl sz eC,v,_=>Iq
 |.fs sz eC,v,_=>Iq
 |.iv ds,v,_=>Iq
 |.ref id off,v,hi=>Kt
 |.row id,v,hi=>Kt
 |.rp id i sz o,v,hi=>Kt
 |.sp id i sz o,v,hi=>Kt
 |.Nw id off n,v,hi=>Kt
 |.rv id lo n z,v,hi=>Kt
 |.np id off,v,hi=>Kt
 |.FD g d,v,hi=>by simp only[DV.xT,Rs];rw[KC f d v Nu]
 |.CG g ds,v,hi=>by
  simp only[DV.xT,Rs];have:=λvs=>Jj (F:=F) (γ:=γ) (γ':=γ') f ds vs Nu
  simp only[this]
theorem PL{F:dj}{γ γ':eD}(f:Nat->Nat):∀(ds:List DV) (vs:List Value),(∀i∈vv ds,γ (f i)=γ' i)->(fZ F γ (yC f ds) vs↔fZ F γ' ds vs)
 |[],vs,_=>by simp only[yC,fZ]
 |d::ds,vs,hi=>by
  simp only[vv,List.mem_append]at hi;have h1:=λv=>KC (F:=F) (γ:=γ) (γ':=γ') f d v (λi h=>hi i (.inl h))
  have h2:=λvs=>PL (F:=F) (γ:=γ) (γ':=γ') f ds vs (λi h=>hi i (.inr h))
  simp only[yC,fZ,h1,h2]
theorem Jj{F:dj}{γ γ':eD}(f:Nat->Nat):∀(ds:List DV) (vs:List Value),(∀i∈vv ds,γ (f i)=γ' i)->(tQ F γ (yC f ds) vs↔tQ F γ' ds vs)
 |[],vs,_=>by simp only[yC,tQ]
 |d::ds,vs,hi=>by
  simp only[vv,List.mem_append]at hi;have h1:=λv=>KC (F:=F) (γ:=γ) (γ':=γ') f d v (λi h=>hi i (.inl h))
  have h2:=λvs=>Jj (F:=F) (γ:=γ) (γ':=γ') f ds vs (λi h=>hi i (.inr h))
  simp only[yC,tQ,h1,h2]
end
def HE.ids:HE->List Nat
 |.bJ _ ds=>vv ds
 |.row _ _ _=>[]
 |.obj _=>[]
 |.mp _=>[]
 |.TE _ _ _=>[]
 |.it DL _ _=>[DL]
def HE.xT(f:Nat->Nat):HE->HE
 |.bJ T ds=>.bJ T (yC f ds)
 |.row E sz eC=>.row E sz eC
 |.obj o=>.obj o
 |.mp l=>.mp l
 |.TE E sz eC=>.TE E sz eC
 |.it DL n seen=>.it (f DL) n seen
theorem PU{F:dj}{γ γ':eD}{w:World}(f:Nat->Nat){e:HE}{g:Value}(h:∀i∈e.ids,γ (f i)=γ' i):Gy F γ w (e.xT f) g↔Gy F γ' w e g:=by
 cases e with
 |bJ T ds=>
  have:=λvs=>PL (F:=F) (γ:=γ) (γ':=γ') f ds vs h
  simp only[HE.xT,Gy,this]
 |row E sz eC=>rfl
 |obj o=>rfl
 |mp l=>rfl
 |TE E sz eC=>rfl
 |it DL n seen=>simp only[HE.xT,Gy,h DL (by simp[HE.ids])]
def sN(f:Nat->Nat)(h:eW):eW:=h.map λp=>(f p.1,p.2.map (HE.xT f))
theorem RH{f:Nat->Nat}:∀{h:eW} {j:Nat} {x:Option HE},look (sN f h) j=some x->(∀p∈h,∀q∈h,f p.1=f q.1->p.1=q.1)->∃i y,f i=j∧look h i=some y∧x=y.map (HE.xT f)∧i∈h.map (·.1)
 |[],j,x,hl,_=>by simp[sN,look]at hl
 |(k,y)::h,j,x,hl,hi=>by
  rw[sN,List.map_cons,eK]at hl
  by_cases e:f k=j
  .rw[if_pos e]at hl
   injection hl with hl
   exact⟨k,y,e,by rw[eK,if_pos rfl],hl.symm,aR⟩
  .rw[if_neg e]at hl
   obtain⟨i,y',h1,h2,h3,h4⟩:=RH (h:=h) hl (λp hp q hq=>hi p (List.mem_cons_of_mem _ hp) q (List.mem_cons_of_mem _ hq));refine⟨i,y',h1,?_,h3,List.mem_cons_of_mem _ h4⟩;rw[eK,if_neg]
   .exact h2
   .rintro rfl;exact e h1
theorem LC{f:Nat->Nat}{h:eW}{j:Nat}(hn:look (sN f h) j=none):∀i∈h.map (·.1),f i≠j:=by
 intro i hi he
 have:j∈(sN f h).map (·.1):=by
  obtain⟨p,hp,rfl⟩:=List.mem_map.1 hi;exact List.mem_map.2 ⟨(f p.1,p.2.map (HE.xT f)),List.mem_map.2 ⟨p,hp,rfl⟩,he⟩
 obtain⟨x,hx⟩:=uH this
 simp_all
def inner(w:World)(F:dj)(n:Nat)(γ:eD)(f:Nat->Nat)(pre:List Nat):Ctx where
 w0:=w
 T:=λb=>∃i∈pre,∃g,γ (f i)=some g∧fA g=some b
 F0:=F
 n:=n
 G0:=λi=>if i∈pre then γ (f i)else none
 ro:=none
 defs:=[]
def Ac(γ:eD)(f:Nat->Nat)(pre:List Nat):eD:=λi=>if i∈pre then γ (f i)else none
section
variable {C:Ctx} {F F':dj} {γ γ':eD} {heap:eW} {used:List Nat} {w w':World}
theorem WS.enter(H:WS C F γ heap used w)(n:Nat)(f:Nat->Nat)(pre:eW)(hp:∀i e,cF pre i=some e->cF heap (f i)=some (e.xT f))(hk:∀i∈pre.map (·.1),∃e,cF pre i=some e)
  (hgk:∀i∈pre.map (·.1),9000<=i) (hi:∀i∈pre.map (·.1),∀j∈pre.map (·.1),f i=f j->i=j) (PX:∀i e,cF pre i=some e->∀x∈e.ids,x∈pre.map (·.1)) :
  WS (inner w F n γ f (pre.map (·.1))) F (Ac γ f (pre.map (·.1))) pre (pre.map (·.1)) w:=by
 have mem:∀{i e},cF pre i=some e->i∈pre.map (·.1):=by
  intro i e h;rcases hl:look pre i with _|x
  .simp[cF,hl]at h
  .rcases Classical.em (i∈pre.map (·.1))with h' | h'
   .exact h'
   .rw[AK h']at hl;cases hl
 have LQ:∀{i},i∈pre.map (·.1)->Ac γ f (pre.map (·.1)) i=γ (f i):=λh=>if_pos h
 exact {
  si:=λi e h=>by
   obtain⟨g,h1,h2⟩:=H.si _ _ (hp i e h);exact⟨g,by rw[LQ (mem h)];exact h1,(PU f (λx hx=>(LQ (PX i e h x hx)).symm)).1 h2⟩
  own:=λi e g b h hg hb=>by
   rw[LQ (mem h)]at hg;exact⟨(H.own _ _ g b (hp i e h) hg hb).1,.inl ⟨i,mem h,g,hg,hb⟩⟩
  apart:=λi j e e' g g' b h h' hg oV hb je=>by
   rw[LQ (mem h)]at hg;rw[LQ (mem h')]at oV;exact hi i (mem h) j (mem h') (H.apart _ _ _ _ g g' b (hp i e h) (hp j e' h') hg oV hb je)
  fs:=H.fs
  f0:=lJ.refl _
  rj:=λb cs h=>.inl h
  os:=rfl,tape:=rfl,output:=rfl
  size:=Nat.le_refl _
  qh:=λb _ _=>rfl
  us:=λi g h=>by
   unfold Ac at h
   split at h
   .assumption
   .cases h
  gone:=λi g h=>by
   unfold Ac at h
   split at h
   .exact H.gone _ _ h
   .cases h
  g0:=nW.refl _
  gk:=λi g h=>by
   simp only[inner]at h
   split at h
   .rename_i hm;exact hgk i hm
   .cases h
  kn:=H.kn.mono H.f0 }
def vp(γ γ':eD)(f:Nat->Nat)(new:List Nat):eD:=λj=>match γ j with
 |some g=>some g
 |none=>(new.find? λi=>Nat.beq (f i) j).bind γ'
theorem WS.join(H:WS C F γ heap used w){n:Nat}{f:Nat->Nat}{pre new:List Nat}{h':eW}{Ys:List Nat}(K:WS (inner w F n γ f pre) F' γ' h' Ys w')(post:eW)
  (rS:∀i∈pre,∃e,cF heap (f i)=some e) (mz:∀i∈new,f i ∉ used) (hi:∀i∈pre++new,∀j∈pre++new,f i=f j->i=j)
  (NC:∀i e,cF post i=some e->cF h' i=some e) (hk:∀i∈pre,i∈post.map (·.1)) (Cs:∀i∈post.map (·.1),i∈pre++new) (PX:∀i e,cF post i=some e->∀x∈e.ids,x∈pre++new) :
  nW γ (vp γ γ' f new)∧(∀i∈pre++new,vp γ γ' f new (f i)=γ' i)∧WS C F' (vp γ γ' f new) (sN f post++heap) (new.map f++used) w':=by
 have le:nW γ (vp γ γ' f new):=λi g h=>by simp[vp,h]
 have LQ:∀i∈pre++new,vp γ γ' f new (f i)=γ' i:=by
  intro i him;rcases List.mem_append.1 him with h|h
  .obtain⟨e,he⟩:=rS i h
   obtain⟨g,hg,_⟩:=H.si _ _ he;have:γ' i=some g:=K.g0 i g (by simp[inner,h,hg]);rw[this];simp[vp,hg]
  .have hn:γ (f i)=none:=H.fresh (mz i h)
   simp only[vp,hn]
   have hf:new.find? (λx=>Nat.beq (f x) (f i))=some i:=by
    have hs:(new.find? (λx=>Nat.beq (f x) (f i))).isSome:=by
     rw[List.find?_isSome];exact⟨i,h,aR⟩
    obtain⟨x,hx⟩:=Option.isSome_iff_exists.1 hs;have h1:=List.find?_some hx;have h2:=List.mem_of_find?_eq_some hx;have:=hi x (List.mem_append_right _ h2) i him (Nat.eq_of_beq_eq_true h1);rw[hx,this]
   grind
 have avj:∀p∈post,∀q∈post,f p.1=f q.1->p.1=q.1:=λp hp q hq e=>hi _ (Cs _ (List.mem_map.2 ⟨p,hp,rfl⟩)) _ (Cs _ (List.mem_map.2 ⟨q,hq,rfl⟩)) e
 -- an entry is a renamed one of the call's,or an old one that the call had nothing of
 have KI:∀{j e},cF (sN f post++heap) j=some e->(∃i e',f i=j∧e=e'.xT f∧cF post i=some e'∧i∈pre++new)∨(cF heap j=some e∧∀i∈pre,f i≠j):=by
  intro j e he;unfold cF at he;rw[gK]at he;cases hl:look (sN f post) j with
  |none=>
   rw[hl]at he;refine .inr ⟨?_,λi hip=>LC hl i (hk i hip)⟩;exact he
  |some x=>
   rw[hl]at he;obtain⟨i,y,h1,h2,h3,h4⟩:=RH hl avj;cases y with
   |none=>subst h3;simp at he
   |some e'=>
    subst h3;simp at he;exact .inl ⟨i,e',h1,he.symm,by simp[cF,h2],Cs i h4⟩
 have afx:∀b,(∃i∈pre,∃g,γ (f i)=some g∧fA g=some b)->C.T b∨C.w0.heap.size<=b:=by
  rintro b ⟨i,hip,g,hg,hb⟩;obtain⟨e,he⟩:=rS i hip;exact(H.own _ _ g b he hg hb).2
 -- the blocks of old entries that the call had nothing of
 have other:∀{j e g b},cF heap j=some e->(∀i∈pre,f i≠j)->γ j=some g->fA g=some b->b<w.heap.size∧¬(∃i∈pre,∃g,γ (f i)=some g∧fA g=some b):=by
  intro j e g b he nq hg hb;obtain⟨g1,h1,h2⟩:=H.si j e he;rw[hg]at h1;injection h1 with h1;subst h1
  refine⟨h2.lt b hb,?_⟩;rintro⟨i,hip,g',oV,je⟩;obtain⟨e',he'⟩:=rS i hip;exact nq i hip (H.apart _ _ e' e g' g b he' he oV hg je hb)
 have afy:∀{j e g},cF heap j=some e->vp γ γ' f new j=some g->γ j=some g:=by
  intro j e g he hg;obtain⟨g1,h1,_⟩:=H.si j e he;rw[le _ _ h1]at hg;rw[h1];exact hg
 refine⟨le,LQ,?_⟩
 exact {
  si:=λj e he=>by
   rcases KI he with⟨i,e',rfl,rfl,h1,h2⟩|⟨h1,h2⟩
   .obtain⟨g,k1,k2⟩:=K.si i e' (NC i e' h1)
    exact⟨g,(LQ i h2).trans k1,(PU f (λx hx=>LQ x (PX i e' h1 x hx))).2 k2⟩
   .obtain⟨g,k1,k2⟩:=H.si j e h1
    refine⟨g,le _ _ k1,(k2.kept λb hb=>?_).mono K.f0 le⟩;obtain⟨o1,o2⟩:=other h1 h2 k1 hb;exact K.qh b o1 o2
  own:=λj e g b he hg hb=>by
   rcases KI he with⟨i,e',rfl,rfl,h1,h2⟩|⟨h1,h2⟩
   .rw[LQ i h2]at hg
    obtain⟨k1,k2⟩:=K.own i e' g b (NC i e' h1) hg hb;refine⟨k1,?_⟩;rcases k2 with k2|k2
    .exact afx b k2
    .exact .inr (Nat.le_trans H.size k2)
   .have oV:=afy h1 hg
    obtain⟨k1,k2⟩:=H.own j e g b h1 oV hb;obtain⟨o1,o2⟩:=other h1 h2 oV hb;refine⟨?_,k2⟩;cases hF:F' b with
    |none=>rfl
    |some cs=>
     rcases K.rj b cs hF with h|h|h
     .simp only[inner]at h;rw[k1]at h;cases h
     .exact absurd h o2
     .simp only[inner]at h;omega
  apart:=λj j' e e' g g' b he he' hg oV hb je=>by
   rcases KI he with⟨i,e1,rfl,rfl,h1,h2⟩|⟨h1,h2⟩
   .rw[LQ i h2]at hg
    rcases KI he' with⟨i',e1',rfl,rfl,h1',h2'⟩|⟨h1',h2'⟩
    .rw[LQ i' h2']at oV
     rw[K.apart i i' e1 e1' g g' b (NC _ _ h1) (NC _ _ h1') hg oV hb je]
    .obtain⟨o1,o2⟩:=other h1' h2' (afy h1' oV) je
     rcases(K.own i e1 g b (NC _ _ h1) hg hb).2 with k|k
     .exact absurd k o2
     .simp only[inner]at k;omega
   .rcases KI he' with⟨i',e1',rfl,rfl,h1',h2'⟩|⟨h1',h2'⟩
    .rw[LQ i' h2']at oV
     obtain⟨o1,o2⟩:=other h1 h2 (afy h1 hg) hb;rcases(K.own i' e1' g' b (NC _ _ h1') oV je).2 with k|k
     .exact absurd k o2
     .simp only[inner]at k;omega
    .exact H.apart j j' e e' g g' b h1 h1' (afy h1 hg) (afy h1' oV) hb je
  fs:=K.fs
  f0:=H.f0.trans K.f0
  rj:=λb cs h=>by
   rcases K.rj b cs h with h|h|h
   .exact H.rj b cs h
   .exact .inr (afx b h)
   .exact .inr (.inr (Nat.le_trans H.size h))
  os:=K.os.trans H.os
  tape:=K.tape.trans H.tape
  output:=K.output.trans H.output
  size:=Nat.le_trans H.size K.size
  qh:=λb hb ht=>by
   refine(K.qh b (Nat.lt_of_lt_of_le hb H.size) (λhT=>?_)).trans (H.qh b hb ht);rcases afx b hT with h|h
   .exact ht h
   .omega
  us:=λj g h=>by
   unfold vp at h
   split at h
   .rename_i g' hg;exact List.mem_append_right _ (H.us j g' hg)
   .cases hf:new.find? (λi=>Nat.beq (f i) j)with
    |none=>rw[hf]at h;cases h
    |some i=>
     have h1:=List.find?_some hf;have h2:=List.mem_of_find?_eq_some hf;exact List.mem_append_left _ (List.mem_map.2 ⟨i,h2,Nat.eq_of_beq_eq_true h1⟩)
  gone:=λj g h=>by
   unfold vp at h
   split at h
   .rename_i g' hg;injection h with h;subst h;exact H.gone _ _ hg
   .cases hf:new.find? (λi=>Nat.beq (f i) j)with
    |none=>rw[hf]at h;cases h
    |some i=>rw[hf]at h;exact K.gone _ _ h
  g0:=H.g0.trans le
  gk:=H.gk,kn:=H.kn }
end
end Go.Proofs.YtaafmkmdfcgeaaaGreatDoor
/-! ### part H -/
/-
 My engine,part H: contracts,how a function's body gives one,results.
-/
namespace Go.Proofs.YtaafmkmdfcgeaaaGreatDoor
open Go.RowKit
structure TZ where
 args:List DV
 pre:eW
 res:DV
 post:eW
 new:List Nat
def gY(P:Program)(fn:FuncId)(K:TZ):Prop :=∀(C:Ctx) (F:dj) (γ:eD) (heap:eW) (used:List Nat) (w:World) (vs:List Value) (f:Nat->Nat),(∀i e,cF K.pre i=some e->cF heap (f i)=some (e.xT f))->(∀i∈K.new,f i ∉ used)->(∀i∈K.pre.map (·.1)++K.new,∀j∈K.pre.map (·.1)++K.new,f i=f j->i=j) ->WS C F γ heap used w->tQ F γ (yC f K.args) vs ->Calls P fn vs.toArray w (λe w'=>∃v F' γ',e = .returned v∧lJ F F'∧nW γ γ'∧WS C F' γ' (sN f K.post++heap) (K.new.map f++used) w'∧Rs F' γ' (K.res.xT f) v)
def br(P:Program)(fn:FuncId)(args:List DV)(r:DV):Prop :=∀(C:Ctx) (F:dj) (γ:eD) (heap:eW) (used:List Nat) (w:World) (vs:List Value),WS C F γ heap used w->tQ F eD.no args vs ->Calls P fn vs.toArray w (λe w'=>∃v F',e = .returned v∧lJ F F'∧WS C F' γ heap used w'∧Rs F' eD.no r v)
def ae5(P:Program)(t:TypeId)(n:Nat):Prop:=∃d,P.underlying t=some d∧d.isRow=true∧(P.info? t).map (·.size)=some n
def TSc(P:Program)(t:TypeId):Prop:=∃d,P.underlying t=some d∧d.isRow=false∧(P.info? t).map (·.size)=some 1
def Cp(P:Program)(t:TypeId)(ds:List DV)(d:DV):Prop:=(∃n,ae5 P t n∧n<=ds.length∧d = .agg (ds.take n))∨(TSc P t∧ds.head? = some d)
theorem Cp.row{P:Program}{t:TypeId}{ds:List DV}{d:DV}(n:Nat)(h:ae5 P t n)(hn:n<=ds.length)(hd:d = .agg (ds.take n)):Cp P t ds d:=.inl ⟨n,h,hn,hd⟩
theorem Cp.sc{P:Program}{t:TypeId}{ds:List DV}{d:DV}(h:TSc P t)(hd:ds.head? = some d):Cp P t ds d:=.inr ⟨h,hd⟩
theorem Jc{P:Program}{t:TypeId}{ds:List DV}{d:DV}{F:dj}{γ:eD}{w:World}{b o:Nat}{vs:List Value}(hd:Cp P t ds d)(hr:w.rangeAt b o vs)(hl:fZ F γ ds vs) :
  ∃v,(loadVar t ⟨b,o,none⟩).run P w = .ok v w∧Rs F γ d v∧(∀u∈v.cells.toList,u.oneCell'=true):=by
 rcases hd with⟨n,⟨dd,hu,IQ,hi⟩,hn,rfl⟩|⟨⟨dd,hu,IQ,hi⟩,hh⟩
 .have ht:=hl.take n
  have hlen:=ht.len;refine⟨.agg (vs.take n).toArray,?_,?_,?_⟩
  .refine run_loadVar_mid (P:=P) w b o t (vs.take n) dd (rangeAt.take hr n) hu IQ ?_
   simp_all
  .simp only[Rs];simp_all
  .simpa [Value.cells]using ht.one
 .cases ds with
  |nil=>cases hh
  |cons d0 ds=>
   simp only[List.head?_cons,Option.some.injEq]at hh;subst hh;obtain⟨v,rest,rfl,h1,h2,_⟩:=hl;have hc:w.cell? ⟨b,o,none⟩=some v:=by simpa using hr 0 v rfl
   have afA:(isAgg t).run P w = .ok false w:=by
    unfold isAgg;rw[Sem.run_bind,run_underlying hu w];cases dd <;> simp_all
   refine⟨v,?_,h2,?_⟩
   .simp[loadVar,afA,hc]
   .rw[wW h1];simp_all
def sY(P:Program)(σ:AS):ResultVar->DV->Prop
 |.tmp t,d=>look σ.env t=some d
 |.cell t ty,d=>∃id off T ds,look σ.env t=some (.ref id off)∧cF σ.heap id=some (.bJ T ds)∧Cp P ty (ds.drop off) d
theorem sY.tmp{P:Program}{σ:AS}{t:Nat}{d:DV}(h:look σ.env t=some d):sY P σ (.tmp t) d:=h
theorem sY.cell{P:Program}{σ:AS}{t ty:Nat}{d:DV}{id off T:Nat}{ds:List DV}(h:look σ.env t=some (.ref id off))(h2:cF σ.heap id=some (.bJ T ds))(h3:Cp P ty (ds.drop off) d):sY P σ (.cell t ty) d:=⟨id,off,T,ds,h,h2,h3⟩
def Bu(tmps:Array Value):ResultVar->Sem Value
 |.tmp t=>pure (tmps.getD t undef)
 |.cell a t=>do loadVar t (<-asAddr (tmps.getD a undef))
theorem yj{w:World}{b:Nat}{cs:Array Value}{T:TypeId}{fz:Nat×Nat}(h:w.heap[b]? = some (.cells cs T fz))(o:Nat):w.rangeAt b o (cs.toList.drop o):=λj v hv=>by
 rw[cell_of_row w b (o+j) cs T fz h]
 simp_all
theorem sY.run{P:Program}{σ:AS}{C:Ctx}{F:dj}{γ:eD}{a:Act}{w:World}(hs:Sat C F γ σ a w){r:ResultVar}{d:DV}(h:sY P σ r d):∃v,(Bu a.tmps r).run P w = .ok v w∧Rs F γ d v:=by
 cases r with
 |tmp t=>exact⟨_,rfl,(hs.env t d h).2⟩
 |cell t ty=>
  obtain⟨id,off,T,ds,h1,h2,h3⟩:=h;obtain⟨g,hg,b,cs,rfl,hb,hl⟩:=hs.ws.si id _ h2;have h4:=(hs.env t _ h1).2;obtain⟨b',je,h5⟩:=h4;rw[hg]at je;injection je with je;injection je with je;injection je with je;injection je with je _ _
  subst je;obtain⟨v,k1,k2,_⟩:=Jc h3 (yj hb off) (hl.drop off);refine⟨v,?_,k2⟩;simp only[Bu,Sem.run_bind,h5,asAddr,Sem.run_pure,Result.andThen_ok,k1]
theorem EX(fn:Func)(tmps:Array Value):results fn tmps=(do let vs <-fn.results.mapM (Bu tmps);pure (if h:vs.size=1 then vs[0]else .tuple vs)):=by
 rfl
theorem results0{P:Program}{fn:Func}{tmps:Array Value}{w:World}(h:fn.results = #[]):(results fn tmps).run P w = .ok (.tuple #[]) w:=by
 simp[results,h]
theorem results1{P:Program}{fn:Func}{tmps:Array Value}{w:World}{r:ResultVar}{v:Value}(h:fn.results = #[r])(h1:(Bu tmps r).run P w = .ok v w):(results fn tmps).run P w = .ok v w:=by
 simp[EX,h,h1]
theorem results2{P:Program}{fn:Func}{tmps:Array Value}{w:World}{r r':ResultVar}{v v':Value}(h:fn.results = #[r,r'])(h1:(Bu tmps r).run P w = .ok v w)(h2:(Bu tmps r').run P w = .ok v' w):(results fn tmps).run P w = .ok (.tuple #[v,v']) w:=by
 simp[EX,h,h1,h2]
theorem results3{P:Program}{fn:Func}{tmps:Array Value}{w:World}{r r' r'':ResultVar}{v v' v'':Value}(h:fn.results = #[r,r',r''])(h1:(Bu tmps r).run P w = .ok v w)(h2:(Bu tmps r').run P w = .ok v' w)(h3:(Bu tmps r'').run P w = .ok v'' w):(results fn tmps).run P w = .ok (.tuple #[v,v',v'']) w:=by
 simp[EX,h,h1,h2,h3]
def iy(d d':DV):Prop:=∀F γ v,Rs F γ d v->Rs F γ d' v
theorem iy.refl(d:DV):iy d d:=λ_ _ _ h=>h
theorem iy.cu(sz:Nat):iy .cu (.sl sz []):=λF γ v h=>by
 exact⟨none,0,h,⟨λ_=>⟨rfl,rfl⟩,Nat.le_refl _,aV⟩,λh=>absurd rfl h⟩
inductive lH:List DV->List DV->Prop
 |nil:lH [] []
 |cons {d d':DV} {ds vN:List DV} (h:iy d d') (t:lH ds vN):lH (d::ds) (d'::vN)
theorem lH.refl:∀ds,lH ds ds
 |[]=>.nil
 |_::ds=>.cons (iy.refl _) (lH.refl ds)
theorem lH.rsL{F:dj}{γ:eD}{ds vN:List DV}(h:lH ds vN):∀{vs:List Value},fZ F γ ds vs->fZ F γ vN vs:=by
 induction h with
 |nil=>simp
 |cons h t ih=>
  intro vs hl;obtain⟨v,rest,h1,h2,h3,h4⟩:=hl;exact⟨v,rest,h1,h2,h _ _ _ h3,ih h4⟩
theorem lH.rsT{F:dj}{γ:eD}{ds vN:List DV}(h:lH ds vN):∀{vs:List Value},tQ F γ ds vs->tQ F γ vN vs:=by
 induction h with
 |nil=>simp
 |cons h t ih=>
  intro vs hl;obtain⟨v,rest,h1,h3,h4⟩:=hl;exact⟨v,rest,h1,h _ _ _ h3,ih h4⟩
theorem iy.agg{ds vN:List DV}(h:lH ds vN):iy (.agg ds) (.agg vN):=λF γ v hv=>by
 obtain⟨cs,h1,h2⟩:=hv;exact⟨cs,h1,h.rsL h2⟩
theorem iy.gh{ds vN:List DV}(h:lH ds vN):iy (.gh ds) (.gh vN):=λF γ v hv=>by
 obtain⟨cs,h1,h2⟩:=hv;exact⟨cs,h1,h.rsT h2⟩
def vU(P:Program)(σ:AS)(rs:Array ResultVar)(d:DV):Prop :=(rs = #[]∧d = .gh [])∨(∃r,rs = #[r]∧sY P σ r d)∨(∃r r' x x',rs = #[r,r']∧d = .gh [x,x']∧sY P σ r x∧sY P σ r' x') ∨(∃r r' r'' x x' x'',rs = #[r,r',r'']∧d = .gh [x,x',x'']∧sY P σ r x∧sY P σ r' x'∧sY P σ r'' x'')
theorem vU.r0{P:Program}{σ:AS}:vU P σ #[] (.gh []):=.inl ⟨rfl,rfl⟩
theorem vU.r1{P:Program}{σ:AS}{r:ResultVar}{d:DV}(h:sY P σ r d):vU P σ #[r] d:=.inr (.inl ⟨r,rfl,h⟩)
theorem vU.r2{P:Program}{σ:AS}{r r':ResultVar}{x x':DV}(h:sY P σ r x)(h':sY P σ r' x'):vU P σ #[r,r'] (.gh [x,x']):=.inr (.inr (.inl ⟨r,r',x,x',rfl,rfl,h,h'⟩))
theorem vU.r3{P:Program}{σ:AS}{r r' r'':ResultVar}{x x' x'':DV}(h:sY P σ r x)(h':sY P σ r' x')(h'':sY P σ r'' x''):vU P σ #[r,r',r''] (.gh [x,x',x'']):=.inr (.inr (.inr ⟨r,r',r'',x,x',x'',rfl,rfl,h,h',h''⟩))
theorem vU.run{P:Program}{σ:AS}{C:Ctx}{F:dj}{γ:eD}{a:Act}{w:World}(hs:Sat C F γ σ a w){fn:Func}{d:DV}(h:vU P σ fn.results d):∃v,(results fn a.tmps).run P w = .ok v w∧Rs F γ d v:=by
 rcases h with⟨h,rfl⟩|⟨r,h,h1⟩|⟨r,r',x,x',h,rfl,h1,h2⟩|⟨r,r',r'',x,x',x'',h,rfl,h1,h2,h3⟩
 .exact⟨_,results0 h,by simp only[Rs,tQ];simp⟩
 .obtain⟨v,k1,k2⟩:=h1.run hs
  exact⟨v,results1 h k1,k2⟩
 .obtain⟨v,k1,k2⟩:=h1.run hs
  obtain⟨v',k1',k2'⟩:=h2.run hs;exact⟨_,results2 h k1 k1',by exact⟨_,rfl,v,_,rfl,k2,v',_,rfl,k2',rfl⟩⟩
 .obtain⟨v,k1,k2⟩:=h1.run hs
  obtain⟨v',k1',k2'⟩:=h2.run hs;obtain⟨v'',avk,avl⟩:=h3.run hs;exact⟨_,results3 h k1 k1' avk,by exact⟨_,rfl,v,_,rfl,k2,v',_,rfl,k2',v'',_,rfl,avl,rfl⟩⟩
def params:Nat->List DV->List (Nat×DV)
 |_,[]=>[]
 |i,d::ds=>(i,d)::params (i+1) ds
theorem Ia:∀(ds:List DV) (i t:Nat) (d:DV),look (params i ds) t=some d->∃j,t=i+j∧ds[j]? = some d
 |[],i,t,d,h=>by simp[params,look]at h
 |d0::ds,i,t,d,h=>by
  rw[params,eK]at h
  by_cases e:i=t
  .simp_all
  .rw[if_neg e]at h
   obtain⟨j,h1,h2⟩:=Ia ds (i+1) t d h;exact⟨j+1,ah,eJ⟩
theorem tQ.len{F:dj}{γ:eD}:∀{ds:List DV} {vs:List Value},tQ F γ ds vs->vs.length=ds.length
 |[],vs,h=>Pw
 |d::ds,vs,h=>by
  obtain⟨v,rest,rfl,_,h⟩:=h;simp[tQ.len h]
theorem tQ.get{F:dj}{γ:eD}:∀{ds:List DV} {vs:List Value} {i:Nat} {d:DV},tQ F γ ds vs->ds[i]? = some d->∃v,vs[i]? = some v∧Rs F γ d v
 |[],vs,i,d,h,hi=>by simp at hi
 |d0::ds,vs,0,d,h,hi=>by
  obtain⟨v,rest,rfl,h2,h⟩:=h
  simp_all
 |d0::ds,vs,i+1,d,h,hi=>by
  obtain⟨v,rest,rfl,h2,h⟩:=h;simpa using tQ.get h eJ
theorem Bv{F:dj}{γ:eD}{args:List DV}{vs:List Value}(h:tQ F γ args vs){n:Nat}(hn:args.length<=n) :
  ∀t d,look (params 0 args) t=some d->t<n∧Rs F γ d ((vs.toArray++Array.replicate (n-vs.toArray.size) undef).getD t undef):=by
 intro t d ht;obtain⟨j,rfl,hj⟩:=Ia args 0 t d ht;obtain⟨v,k1,k2⟩:=h.get hj;rw[Nat.zero_add]
 have my:j<args.length:=by
  rcases Nat.lt_or_ge j args.length with h|h
  all_goals simp_all
 refine⟨ah,?_⟩;have hv:j<vs.length:=by rw[h.len];exact my
 have:(vs.toArray++Array.replicate (n-vs.toArray.size) undef).getD j undef=v:=by
  rw[Array.getD_eq_getD_getElem?,Array.getElem?_append_left ah];simp[k1]
 simp_all
def tZ(P:Program)(rs:Array ResultVar)(res:DV)(post:eW):Exit->AS->Prop
 |.ret,σ | .normal,σ=>∃d,vU P σ rs d∧iy d res∧∀i e,cF post i=some e->cF σ.heap i=some e
 |_,_=>False
theorem br.of{P:Program}{fn:FuncId}{func:Func}{c:Code}{args:List DV}{r:DV}(hf:P.funcs[fn]? = some func)(hb:func.body=some c){n:Nat}(hn:func.ntmps=n){rs:Array ResultVar}(Fx:func.results=rs)(ha:args.length<=n)(hr:r.ids = [])
  (h:gL P n c (tZ P rs r []) ⟨params 0 args,[],[]⟩):br P fn args r:=by
 subst hn Fx;intro C F γ heap used w vs H hv;have HE:=H.enter func.ntmps id [] (λi e h=>yS) aR aR aR (λi e h=>yS);have hG:Ac γ id (List.map (·.1) ([]:eW))=eD.no:=dF;refine(callsIn_wide (n:=0)).1 (callsIn_of_wp hf hb trivial ?_)
 have hs:Sat (inner w F func.ntmps γ id []) F eD.no ⟨params 0 args,[],[]⟩ { tmps:=vs.toArray++Array.replicate (func.ntmps-vs.toArray.size) undef,defers:=[] } w :=
  ⟨Bv hv ha,HE,by
   have:=hv.len;simp[inner];omega,rfl⟩
 refine wpIn_mono (h (inner w F func.ntmps γ id []) F eD.no _ w rfl hs) ?_;rintro e a' w' ⟨F',γ',σ',jI,hq⟩
 have main:(∃d,vU P σ' func.results d∧iy d r∧∀i e,cF [] i=some e->cF σ'.heap i=some e)->a'.defers = []∧∃v,(results func a'.tmps).run P w' = .ok v w'∧(∃v' F',Ending.returned v = .returned v'∧lJ F F'∧WS C F' γ heap used w'∧Rs F' eD.no r v'):=by
  rintro⟨d,h1,h2,_⟩;obtain⟨v,k1,k2⟩:=h1.run jI;obtain⟨_,_,j⟩:=H.join (f:=id) (pre:=[]) (new:=[]) jI.ws [] aR aR aR (λi e h=>eJ) aR aR (λi e h=>yS);refine⟨jI.defers,v,k1,v,F',rfl,jI.ws.f0,?_,wK r v nV (h2 _ _ _ k2)⟩;have hg:vp γ γ' id []=γ:=aeu;rw[hg]at j;simpa [sN]using j
 cases e with
 |ret=>exact main hq
 |normal=>exact main hq
 |exit id=>exact hq.elim
 |goto l=>exact hq.elim
 |panic c=>exact hq.elim
 |outgrown=>exact hq.elim
def Ko(K:TZ):Bool :=
 K.pre.all (λp=>p.2.isSome&&Nat.ble 9000 p.1)&&(K.pre.map (·.1)).all (λi=>(K.post.map (·.1)).any (Nat.beq i))&&(K.post.map (·.1)).all (λi=>(K.pre.map (·.1)++K.new).any (Nat.beq i)) &&
 K.pre.all (λp=>match p.2 with
  |some e=>e.ids.all λx=>(K.pre.map (·.1)).any (Nat.beq x)
  |none=>true) &&
 K.post.all (λp=>match p.2 with
  |some e=>e.ids.all λx=>(K.pre.map (·.1)++K.new).any (Nat.beq x)
  |none=>true)&&(vv K.args).all (λx=>(K.pre.map (·.1)).any (Nat.beq x))&&K.res.ids.all (λx=>(K.pre.map (·.1)++K.new).any (Nat.beq x))
theorem any_beq{l:List Nat}{x:Nat}(h:l.any (Nat.beq x)=true):x∈l:=by
 simp_all
theorem yJ{α:Type}:∀{l:List (Nat×α)} {i:Nat} {x:α},look l i=some x->(i,x)∈l
 |[],i,x,h=>by simp[look]at h
 |(k,y)::l,i,x,h=>by
  rw[eK]at h
  by_cases e:k=i
  .simp_all
  .rw[if_neg e]at h;exact List.mem_cons_of_mem _ (yJ h)
theorem xk{h:eW}{i:Nat}{e:HE}(hh:cF h i=some e):(i,some e)∈h:=by
 unfold cF at hh
 split at hh
 .rename_i x hx;injection hh with hh;subst hh;exact yJ hx
 grind
theorem gY.of{P:Program}{fn:FuncId}{func:Func}{c:Code}{K:TZ}(hf:P.funcs[fn]? = some func)(hb:func.body=some c){n:Nat}(hn:func.ntmps=n){rs:Array ResultVar}(Fx:func.results=rs)(ha:K.args.length<=n)(Ao:Ko K=true)
  (h:gL P n c (tZ P rs K.res K.post) ⟨params 0 K.args,K.pre,K.pre.map (·.1)⟩):gY P fn K:=by
 subst hn Fx;simp only[Ko,Bool.and_eq_true,List.all_eq_true]at Ao;obtain⟨⟨⟨⟨⟨⟨o1,o2⟩,o3⟩,o4⟩,o5⟩,o6⟩,o7⟩:=Ao;intro C F γ heap used w vs f rS mz hinj H hv
 have aoD:∀i∈K.pre.map (·.1),∃e,cF K.pre i=some e:=by
  intro i hi;obtain⟨x,hx⟩:=uH hi;have:=o1 _ (yJ hx);simp only[Bool.and_eq_true]at this;have:=this.1;obtain⟨e,he⟩:=Option.isSome_iff_exists.1 this;exact⟨e,by simp[cF,hx,he]⟩
 have HE:=H.enter func.ntmps f K.pre rS aoD (λi hi=>by
  obtain⟨x,hx⟩:=uH hi;have:=o1 _ (yJ hx);exact Nat.le_of_ble_eq_true this.2) (λi hi j hj=>hinj i (List.mem_append_left _ hi) j (List.mem_append_left _ hj)) (λi e he x hx=>by
  have:=o4 _ (xk he);simp only[List.all_eq_true]at this;exact any_beq (this x hx))
 have QI:tQ F (Ac γ f (K.pre.map (·.1))) K.args vs:=(Jj f K.args vs (λi hi=>(if_pos (any_beq (o6 i hi)):Ac γ f (K.pre.map (·.1)) i=γ (f i)).symm)).1 hv;refine(callsIn_wide (n:=0)).1 (callsIn_of_wp hf hb trivial ?_)
 have hs:Sat (inner w F func.ntmps γ f (K.pre.map (·.1))) F (Ac γ f (K.pre.map (·.1))) ⟨params 0 K.args,K.pre,K.pre.map (·.1)⟩ { tmps:=vs.toArray++Array.replicate (func.ntmps-vs.toArray.size) undef,defers:=[] } w :=
  ⟨Bv QI ha,HE,by
   have:=QI.len;simp[inner];omega,rfl⟩
 refine wpIn_mono (h _ F _ _ w rfl hs) ?_;rintro e a' w' ⟨F',γ',σ',jI,hq⟩
 have main:(∃d,vU P σ' func.results d∧iy d K.res∧∀i e,cF K.post i=some e->cF σ'.heap i=some e)->a'.defers = []∧∃v,(results func a'.tmps).run P w' = .ok v w' ∧
   (∃v' F' γ',Ending.returned v = .returned v'∧lJ F F'∧nW γ γ'∧WS C F' γ' (sN f K.post++heap) (K.new.map f++used) w'∧Rs F' γ' (K.res.xT f) v'):=by
  rintro⟨d,h1,h2,h3⟩;obtain⟨v,k1,k2⟩:=h1.run jI
  obtain⟨j1,j2,j3⟩:=H.join (f:=f) (new:=K.new) jI.ws K.post (λi hi=>by
    obtain⟨e,he⟩:=aoD i hi;exact⟨_,rS i e he⟩) mz hinj h3 (λi hi=>any_beq (o2 i hi)) (λi hi=>any_beq (o3 i hi)) (λi e he x hx=>by
    have:=o5 _ (xk he);simp only[List.all_eq_true]at this;exact any_beq (this x hx))
  exact⟨jI.defers,v,k1,v,F',_,rfl,jI.ws.f0,j1,j3,(KC f K.res v (λi hi=>j2 i (any_beq (o7 i hi)))).2 (h2 _ _ _ k2)⟩
 cases e with
 |ret=>exact main hq
 |normal=>exact main hq
 |exit id=>exact hq.elim
 |goto l=>exact hq.elim
 |panic c=>exact hq.elim
 |outgrown=>exact hq.elim
theorem gY.body{P:Program}{fn:FuncId}{func:Func}{c:Code}{args:List DV}{pre post:eW}{res:DV}{new:List Nat}(hf:P.funcs[fn]? = some func){n:Nat}(hn:func.ntmps=n)(hb:func.body=some c){rs:Array ResultVar}(Fx:func.results=rs)(ha:Nat.ble args.length n=true)(Ao:Ko ⟨args,pre,res,post,new⟩=true)
  (h:gL P n c (tZ P rs res post) ⟨params 0 args,pre,pre.map (·.1)⟩):gY P fn ⟨args,pre,res,post,new⟩:=gY.of hf hb hn Fx (Nat.le_of_ble_eq_true ha) Ao h
theorem br.body{P:Program}{fn:FuncId}{func:Func}{c:Code}{args:List DV}{r:DV}(hf:P.funcs[fn]? = some func){n:Nat}(hn:func.ntmps=n)(hb:func.body=some c){rs:Array ResultVar}(Fx:func.results=rs)(ha:Nat.ble args.length n=true)(hr:r.ids = [])
  (h:gL P n c (tZ P rs r []) ⟨params 0 args,[],[]⟩):br P fn args r:=br.of hf hb hn Fx (Nat.le_of_ble_eq_true ha) hr h
theorem oU{P:Program}{rs:Array ResultVar}{res d:DV}{post:eW}{σ:AS}(h:vU P σ rs d)(hle:iy d res)(hp:∀i e,cF post i=some e->cF σ.heap i=some e):tZ P rs res post .ret σ:=⟨d,h,hle,hp⟩
inductive kE(h:eW):eW->Prop
 |nil:kE h []
 |cons {i:Nat} {e:HE} {r:eW} (he:cF h i=some e) (k:kE h r):kE h ((i,some e)::r)
 |gone {i:Nat} {r:eW} (k:kE h r):kE h ((i,none)::r)
theorem iy.of_eq{d d':DV}(h:d=d'):iy d d':=h ▸ iy.refl d
theorem kE.spec{h p:eW}(k:kE h p):∀i e,cF p i=some e->cF h i=some e:=by
 induction k with
 |nil=>intro i e he;simp[cF,look]at he
 |cons he k ih=>
  intro i e hi;rw[cH]at hi
  grind
 |gone k ih=>
  intro i e hi;rw[cH]at hi
  simp_all
end Go.Proofs.YtaafmkmdfcgeaaaGreatDoor
/-! ### part I -/
/-
 My engine,part I: the rules of the operations on numbers,structs,variables.
-/
namespace Go.Proofs.YtaafmkmdfcgeaaaGreatDoor
open Go.RowKit
theorem Sat.put{C:Ctx}{F:dj}{γ:eD}{σ:AS}{a:Act}{w:World}(H:Sat C F γ σ a w){t:Nat}(ht:t<C.n){d:DV}{v:Value}(hd:Rs F γ d v):Sat C F γ ⟨(t,d)::σ.env,σ.heap,σ.used⟩ (a.put (some t) v) w where
 env:=λt' d' h=>by
  simp only at h;rw[eK]at h
  by_cases e:t=t'
  .rw[if_pos e]at h;injection h with h;subst h;subst e
   have:t<a.tmps.size:=by rw[H.size];exact ht
   refine⟨ht,?_⟩;simpa [Act.put,this]using hd
  .rw[if_neg e]at h
   refine⟨(H.env t' d' h).1,?_⟩;have:=(H.env t' d' h).2;simpa [Act.put,Array.getElem?_setIfInBounds_ne e]using this
 ws:=H.ws
 size:=by simpa [Act.put]using H.size
 defers:=H.defers
theorem Sat.mono{C:Ctx}{F F':dj}{γ γ':eD}{σ:AS}{a:Act}{w w':World}(H:Sat C F γ σ a w)(hF:lJ F F')(hg:nW γ γ'){heap:eW}{used:List Nat}(hw:WS C F' γ' heap used w'):Sat C F' γ' ⟨σ.env,heap,used⟩ a w' :=
 ⟨λt d h=>⟨(H.env t d h).1,(H.env t d h).2.mono hF hg⟩,hw,H.size,H.defers⟩
theorem cP{rt:List Nat}{e e':List (Nat×DV)}(h:∀t∈rt,look e' t=look e t){x:Operand}(hx:∀t∈tm x,t∈rt):ev e' x=ev e x:=by
 cases x with
 |tmp t=>exact h t (hx t (by simp[tm]))
 |const v=>rfl
 |func f=>rfl
 |global g=>rfl
section
variable {P:Program} {ops:Array Oper} {σ:AS}
theorem dH.gen{o:Oper}{rt rh:List Nat}{t:Nat}{d:DV}{hp:eW}{nw:List Nat}(hg:o.guard=none)(aaB:o.dst=some t)
  (h:∀(C:Ctx) (F:dj) (γ:eD) (σ':AS) (a:Act) (w:World),(∀t∈rt,look σ'.env t=look σ.env t)->(∀id∈rh,cF σ'.heap id=cF σ.heap id)->(∀id∈nw,id ∉ σ'.used)->Sat C F γ σ' a w ->
   ∃v w' F' γ',(execOp a.eval o).run P w = .ok (.value v) w'∧lJ F F'∧nW γ γ'∧WS C F' γ' (hp++σ'.heap) (nw++σ'.used) w'∧Rs F' γ' d v):dH P ops o rt rh σ ⟨[(t,d)],hp,nw⟩:=by
 intro C F γ σ' a w h1 h2 h3 h4 hs K Q hK;have hw:Region.wanted o (yielded ops a.tmps)=true:=Sw;rw[if_pos hw];obtain⟨v,w',F',γ',k1,k2,k3,k4,k5⟩:=h C F γ σ' a w h1 h2 h3 hs;refine ju k1 ?_;rw[aaB];exact hK F' γ' _ _ k2 ((hs.mono k2 k3 k4).put (h4 t aaB) k5)
theorem dH.val{o:Oper}{rt rh:List Nat}{t:Nat}{d:DV}(hg:o.guard=none)(aaB:o.dst=some t)
  (h:∀(C:Ctx) (F:dj) (γ:eD) (σ':AS) (a:Act) (w:World),(∀t∈rt,look σ'.env t=look σ.env t)->(∀id∈rh,cF σ'.heap id=cF σ.heap id)->Sat C F γ σ' a w ->
   ∃v,(execOp a.eval o).run P w = .ok (.value v) w∧Rs F γ d v):dH P ops o rt rh σ ⟨[(t,d)],[],[]⟩ :=
 dH.gen hg aaB λC F γ σ' a w h1 h2 _ hs=>by
  obtain⟨v,k1,k2⟩:=h C F γ σ' a w h1 h2 hs;exact⟨v,w,F,γ,k1,lJ.refl _,nW.refl _,hs.ws,k2⟩
theorem dH.skip{o:Oper}{rt rh:List Nat}{hp:eW}(hg:o.guard=none)(aaB:o.dst=none)
  (h:∀(C:Ctx) (F:dj) (γ:eD) (σ':AS) (a:Act) (w:World),(∀t∈rt,look σ'.env t=look σ.env t)->(∀id∈rh,cF σ'.heap id=cF σ.heap id)->Sat C F γ σ' a w ->
   ∃w',(execOp a.eval o).run P w = .ok .skip w'∧WS C F γ (hp++σ'.heap) σ'.used w'):dH P ops o rt rh σ ⟨[],hp,[]⟩:=by
 intro C F γ σ' a w h1 h2 h3 h4 hs K Q hK;have hw:Region.wanted o (yielded ops a.tmps)=true:=Sw;rw[if_pos hw];obtain⟨w',k1,k2⟩:=h C F γ σ' a w h1 h2 hs;refine NU k1 ?_;simp only[aaB];exact hK F γ _ _ (lJ.refl _) (hs.mono (lJ.refl _) (nW.refl _) k2)
variable {t:Nat} {ty:TypeId} {pos:String} {af:Array Edge}
theorem fU{x:Operand}{d:DV}(hx:ev σ.env x=some d):dH P ops ⟨some t,.move x,ty,pos,af,none⟩ (tm x) [] σ ⟨[(t,d)],[],[]⟩ :=
 dH.val rfl rfl λC F γ σ' a w h1 _ hs=>⟨_,rfl,hs.ev ((cP h1 (λ_ h=>h)).trans hx)⟩
theorem eY{x:Operand}{d:DV}(hx:ev σ.env x=some d):dH P ops ⟨some t,.assign x,ty,pos,af,none⟩ (tm x) [] σ ⟨[(t,d)],[],[]⟩ :=
 dH.val rfl rfl λC F γ σ' a w h1 _ hs=>⟨_,rfl,hs.ev ((cP h1 (λ_ h=>h)).trans hx)⟩
theorem AQ{C:Ctx}{F:dj}{γ:eD}{σ':AS}{a:Act}{w:World}{x y:Operand}{d e:DV}(hs:Sat C F γ σ' a w)(h1:∀t∈tm x++tm y,look σ'.env t=look σ.env t)(hx:ev σ.env x=some d)(hy:ev σ.env y=some e):Rs F γ d (a.eval x)∧Rs F γ e (a.eval y) :=
 ⟨hs.ev ((cP h1 (λ_ h=>List.mem_append_left _ h)).trans hx),hs.ev ((cP h1 (λ_ h=>List.mem_append_right _ h)).trans hy)⟩
def iw(op:BinOp)(k:IntKind)(x y:Int):Int :=
 let a:=BitVec.ofInt k.bits x
 let b:=BitVec.ofInt k.bits y
 match op with
 |.and=>k.wrap (a &&& b).toNat
 |.or=>k.wrap (a ||| b).toNat
 |.xor=>k.wrap (a ^^^ b).toNat
 |_=>k.wrap (a &&& ~~~b).toNat
def MF(op:BinOp)(k:IntKind)(a b:Int):Option DV:=match op with
 |.add=>some (.int k (k.wrap (a+b)))
 |.sub=>some (.int k (k.wrap (a-b)))
 |.mul=>some (.int k (k.wrap (a*b)))
 |.and=>some (.int k (iw .and k a b))
 |.or=>some (.int k (iw .or k a b))
 |.xor=>some (.int k (iw .xor k a b))
 |.andNot=>some (.int k (iw .andNot k a b))
 |.eql=>some (.bool (a==b))
 |.neq=>some (.bool (a != b))
 |.lss=>some (.bool (decide (a<b)))
 |.leq=>some (.bool (decide (a<=b)))
 |.gtr=>some (.bool (decide (b<a)))
 |.geq=>some (.bool (decide (b<=a)))
 |_=>none
def DV.agZ:DV->Value
 |.int k n=>.int k n
 |.bool b=>.bool b
 |_=>undef
theorem Zd{op:BinOp}{k:IntKind}{a b:Int}{d:DV}(h:MF op k a b=some d)(T:TypeId)(x y:Operand)(w:World) :
  (do eqGuard op T x y (.int k a) (.int k b);binOp op T (.int k a) (.int k b):Sem Value).run P w = .ok d.agZ w:=by
 cases op <;> simp only[MF,Option.some.injEq,reduceCtorEq]at h <;> subst h <;> cases k <;> rfl
theorem ab8{op:BinOp}{k:IntKind}{a b:Int}{d:DV}(h:MF op k a b=some d)(F:dj)(γ:eD):Rs F γ d d.agZ:=by
 cases op <;> simp only[MF,Option.some.injEq,reduceCtorEq]at h <;> subst h <;> simp only[Rs,DV.agZ]
theorem AG{op:BinOp}{T T':TypeId}{x y:Operand}{k:IntKind}{a b:Int}{d:DV}(hx:ev σ.env x=some (.int k a))(hy:ev σ.env y=some (.int k b))(hd:MF op k a b=some d) :
  dH P ops ⟨some t,.binOp op T x y T',ty,pos,af,none⟩ (tm x++tm y) [] σ ⟨[(t,d)],[],[]⟩ :=
 dH.val rfl rfl λC F γ σ' ac w h1 _ hs=>by
  obtain⟨k1,k2⟩:=AQ hs h1 hx hy;simp only[Rs]at k1 k2;have r1:=Zd (P:=P) hd T x y w;refine⟨d.agZ,?_,ab8 hd F γ⟩;simp only[execOp,k1,k2,Sem.run_bind]at r1 |-;rw[r1];rfl
@[reducible] def Aj(k:IntKind)(n:Int):Prop:=match k with
 |.i8=>-128<=n∧n<=127
 |.i16=>-32768<=n∧n<=32767
 |.i32=>-2147483648<=n∧n<=2147483647
 |.i64=>-9223372036854775808<=n∧n<=9223372036854775807
 |.u8=>0<=n∧n<=255
 |.u16=>0<=n∧n<=65535
 |.u32=>0<=n∧n<=4294967295
 |.u64=>0<=n∧n<=18446744073709551615
theorem FF{k:IntKind}{n:Int}(h:Aj k n):k.wrap n=n:=by
 cases k <;> simp only[Aj]at h <;> simp[IntKind.wrap,IntKind.signed,IntKind.bits] <;> omega
theorem ai8{T T':TypeId}{x y:Operand}{k:IntKind}{a b:Int}(hx:ev σ.env x=some (.int k a))(hy:ev σ.env y=some (.int k b))(hr:Aj k (a+b)) :
  dH P ops ⟨some t,.binOp .add T x y T',ty,pos,af,none⟩ (tm x++tm y) [] σ ⟨[(t,.int k (a+b))],[],[]⟩:=AG hx hy (by rw[MF,FF hr])
theorem anv{T T':TypeId}{x y:Operand}{k:IntKind}{a b:Int}(hx:ev σ.env x=some (.int k a))(hy:ev σ.env y=some (.int k b))(hr:0<=a∧0<b∧Aj k (a / b)) :
  dH P ops ⟨some t,.binOp .quo T x y T',ty,pos,af,none⟩ (tm x++tm y) [] σ ⟨[(t,.int k (a / b))],[],[]⟩ :=
 dH.val rfl rfl λC F γ σ' ac w h1 _ hs=>by
  obtain⟨k1,k2⟩:=AQ hs h1 hx hy;simp only[Rs]at k1 k2;have hb:¬b=0:=ah;refine⟨.int k (a / b),?_,dF⟩;have:k.wrap (a.tdiv b)=a / b:=by rw[Int.tdiv_eq_ediv_of_nonneg hr.1,FF hr.2.2]
  simp[execOp,k1,k2,eqGuard,binOp,Op.intDiv,hb,this]
theorem anu{T T':TypeId}{x y:Operand}{k:IntKind}{a b:Int}(hx:ev σ.env x=some (.int k a))(hy:ev σ.env y=some (.int k b))(hr:0<=a∧0<b) :
  dH P ops ⟨some t,.binOp .rem T x y T',ty,pos,af,none⟩ (tm x++tm y) [] σ ⟨[(t,.int k (a % b))],[],[]⟩ :=
 dH.val rfl rfl λC F γ σ' ac w h1 _ hs=>by
  obtain⟨k1,k2⟩:=AQ hs h1 hx hy;simp only[Rs]at k1 k2;have hb:¬b=0:=ah;refine⟨.int k (a % b),?_,dF⟩;have:a.tmod b=a % b:=Int.tmod_eq_emod_of_nonneg hr.1;simp[execOp,k1,k2,eqGuard,binOp,Op.intDiv,hb,this]
theorem anr{T T':TypeId}{x y:Operand}{k k':IntKind}{a b:Int}(hx:ev σ.env x=some (.int k a))(hy:ev σ.env y=some (.int k' b))(hr:0<=b) :
  dH P ops ⟨some t,.binOp .shr T x y T',ty,pos,af,none⟩ (tm x++tm y) [] σ ⟨[(t,.int k (a.fdiv (2^min b.toNat k.bits)))],[],[]⟩ :=
 dH.val rfl rfl λC F γ σ' ac w h1 _ hs=>by
  obtain⟨k1,k2⟩:=AQ hs h1 hx hy;simp only[Rs]at k1 k2;have hb:¬b<0:=ah;exact⟨.int k (a.fdiv (2^min b.toNat k.bits)),aew,dF⟩
theorem ans{T T':TypeId}{x y:Operand}{k k':IntKind}{a b:Int}(hx:ev σ.env x=some (.int k a))(hy:ev σ.env y=some (.int k' b))(hr:0<=b) :
  dH P ops ⟨some t,.binOp .shl T x y T',ty,pos,af,none⟩ (tm x++tm y) [] σ ⟨[(t,.int k (k.wrap (a*2^min b.toNat k.bits)))],[],[]⟩ :=
 dH.val rfl rfl λC F γ σ' ac w h1 _ hs=>by
  obtain⟨k1,k2⟩:=AQ hs h1 hx hy;simp only[Rs]at k1 k2;have hb:¬b<0:=ah;exact⟨.int k (k.wrap (a*2^min b.toNat k.bits)),aew,dF⟩
theorem Xc{T:TypeId}{x:Operand}{b:Bool}(hx:ev σ.env x=some (.bool b)):dH P ops ⟨some t,.unOp .not T x,ty,pos,af,none⟩ (tm x) [] σ ⟨[(t,.bool (!b))],[],[]⟩ :=
 dH.val rfl rfl λC F γ σ' ac w h1 _ hs=>by
  have k1:=hs.ev ((cP h1 (λ_ h=>h)).trans hx);simp only[Rs]at k1;exact⟨.bool (!b),by simp[execOp,k1,Op.unary],dF⟩
theorem anw{T:TypeId}{x:Operand}{k:IntKind}{n:Int}(hx:ev σ.env x=some (.int k n)):dH P ops ⟨some t,.unOp .neg T x,ty,pos,af,none⟩ (tm x) [] σ ⟨[(t,.int k (k.wrap (0-n)))],[],[]⟩ :=
 dH.val rfl rfl λC F γ σ' ac w h1 _ hs=>by
  have k1:=hs.ev ((cP h1 (λ_ h=>h)).trans hx);simp only[Rs]at k1;exact⟨_,by simp[execOp,k1,Op.unary,Op.intArith];rfl,by simp only[Rs];simp⟩
theorem ano{T:TypeId}{x:Operand}{k:IntKind}{n:Int}(hx:ev σ.env x=some (.int k n)):dH P ops ⟨some t,.unOp .xor T x,ty,pos,af,none⟩ (tm x) [] σ ⟨[(t,.int k (iw .xor k (if k.signed then -1 else k.max) n))],[],[]⟩ :=
 dH.val rfl rfl λC F γ σ' ac w h1 _ hs=>by
  have k1:=hs.ev ((cP h1 (λ_ h=>h)).trans hx);simp only[Rs]at k1;exact⟨_,by simp[execOp,k1];rfl,dF⟩
class BT(P:Program)(t:TypeId)(k:outParam IntKind):Prop where
 h:P.underlying t=some (.int k):=by kernel_rfl
theorem aco{S T:TypeId}{x:Operand}{k k' k0:IntKind}{n:Int}[BT P S k0][hT:BT P T k'](hx:ev σ.env x=some (.int k n)):dH P ops ⟨some t,.convert S T x,ty,pos,af,none⟩ (tm x) [] σ ⟨[(t,.int k' (k'.wrap n))],[],[]⟩ :=
 dH.val rfl rfl λC F γ σ' ac w h1 _ hs=>by
  have k1:=hs.ev ((cP h1 (λ_ h=>h)).trans hx);simp only[Rs]at k1;exact⟨_,by simp[execOp,k1,convert,run_underlying (BT.h (P:=P) (t:=S)),run_underlying (BT.h (P:=P) (t:=T))];rfl,dF⟩
class ae7(P:Program)(t:TypeId):Prop where
 h:P.underlying t=some .bool:=by kernel_rfl
theorem Rj{T:TypeId}{a b:Bool}(hT:P.underlying T=some .bool)(w:World):(Op.equal T (.bool a) (.bool b)).run P w = .ok (a==b) w:=by
 have:∀n,(Op.equalIn (n+1) T (.bool a) (.bool b)).run P w = .ok (a==b) w:=λn=>by simp[Op.equalIn,run_underlying hT]
 exact this 9999
theorem acp{T T':TypeId}{x y:Operand}{a b:Bool}[hT:ae7 P T](hx:ev σ.env x=some (.bool a))(hy:ev σ.env y=some (.bool b)) :
  dH P ops ⟨some t,.binOp .neq T x y T',ty,pos,af,none⟩ (tm x++tm y) [] σ ⟨[(t,.bool (a != b))],[],[]⟩ :=
 dH.val rfl rfl λC F γ σ' ac w h1 _ hs=>by
  obtain⟨k1,k2⟩:=AQ hs h1 hx hy;simp only[Rs]at k1 k2;have e:binOp .neq T (.bool a) (.bool b)=(do pure (.bool (!(<-Op.equal T (.bool a) (.bool b))))):=rfl;have e2:eqGuard .neq T x y (.bool a) (.bool b)=pure ():=rfl;exact⟨.bool (a != b),by simp only[execOp,k1,k2,e,e2,Sem.run_bind,Sem.run_pure,Result.andThen_ok,Rj hT.h,bne],dF⟩
theorem AH{x:Operand}{i:Nat}{ds:List DV}{d:DV}(hx:ev σ.env x=some (.gh ds))(hd:ds[i]? = some d):dH P ops ⟨some t,.extract x i,ty,pos,af,none⟩ (tm x) [] σ ⟨[(t,d)],[],[]⟩ :=
 dH.val rfl rfl λC F γ σ' ac w h1 _ hs=>by
  have k1:=hs.ev ((cP h1 (λ_ h=>h)).trans hx);obtain⟨cs,e,hl⟩:=k1;obtain⟨v,hv,hr⟩:=hl.get hd;refine⟨v,?_,hr⟩;have:cs[i]? = some v:=eJ;simp[execOp,e,Instr.extract,this]
theorem at1{c x:Operand}{b d:Bool}(hc:ev σ.env c=some (.bool b))(hx:ev σ.env x=some (.FD (!b) (.bool d))):dH P ops ⟨some t,.pick c (.const (.bool true)) x,ty,pos,af,none⟩ (tm c++tm x) [] σ ⟨[(t,.bool (b||d))],[],[]⟩ :=
 dH.val rfl rfl λC F γ σ' ac w h1 _ hs=>by
  obtain⟨k1,k2⟩:=AQ hs h1 hc hx;simp only[Rs]at k1 k2;cases b
  .have:=k2.1 rfl
   exact⟨.bool (false||d),by simp[execOp,k1,this,asBool],dF⟩
  .exact⟨.bool (true||d),by simp[execOp,k1,asBool,show ac.eval (.const (.bool true)) = .bool true from rfl],dF⟩
theorem acr{c x:Operand}{b d:Bool}(hc:ev σ.env c=some (.bool b))(hx:ev σ.env x=some (.FD b (.bool d))):dH P ops ⟨some t,.pick c x (.const (.bool false)),ty,pos,af,none⟩ (tm c++tm x) [] σ ⟨[(t,.bool (b&&d))],[],[]⟩ :=
 dH.val rfl rfl λC F γ σ' ac w h1 _ hs=>by
  obtain⟨k1,k2⟩:=AQ hs h1 hc hx;simp only[Rs]at k1 k2;cases b
  .exact⟨.bool (false&&d),by simp[execOp,k1,asBool,show ac.eval (.const (.bool false)) = .bool false from rfl],dF⟩
  .have:=k2.1 rfl
   exact⟨.bool (true&&d),by simp[execOp,k1,this,asBool],dF⟩
end
end Go.Proofs.YtaafmkmdfcgeaaaGreatDoor
/-! ### part J -/
/-
 My engine,part J: the rules of the operations on memory,guards,calls.
-/
namespace Go.Proofs.YtaafmkmdfcgeaaaGreatDoor
open Go.RowKit
class qe(P:Program)(t:TypeId):Prop where
 h:TSc P t
class jM(P:Program)(t:TypeId)(n:outParam Nat):Prop where
 h:ae5 P t n
class dM(P:Program)(t:TypeId)(n:outParam Nat):Prop where
 h:(P.info? t).map (·.size)=some n:=by kernel_rfl
class eP(P:Program)(t:TypeId)(zs:outParam (List DV)):Prop where
 h:((P.info? t).bind (·.zero)).map (λz=>z.cells.toList.map oE)=some zs:=by kernel_rfl
class cf(P:Program)(t:TypeId)(i:Nat)(off n:outParam Nat)(ft:outParam TypeId):Prop where
 h:∃fs f,P.underlying t=some (.struct fs)∧fs[i]? = some f∧f.type=ft∧f.offset=off
 s:(P.info? ft).map (·.size)=some n
 p:0<n
theorem Dy(F:dj)(γ:eD):∀(l:List Value),(∀u∈l,u.oneCell'=true)->fZ F γ (l.map oE) l
 |[],_=>dF
 |v::l,h=>by
  exact⟨v,l,rfl,h v aR,uE _ _ _,Dy F γ l (λu hu=>h u (by simp[hu]))⟩
theorem head_drop{α:Type}(l:List α)(n:Nat):(l.drop n).head? = l[n]? := by
 simp
section
variable {P:Program} {ops:Array Oper} {σ:AS} {t:Nat} {ty:TypeId} {pos:String} {af:Array Edge}
theorem anJ{T:TypeId}{x:Operand}{d:DV}(hx:ev σ.env x=some d)(hf:d.flat=true):dH P ops ⟨some t,.box T x,ty,pos,af,none⟩ (tm x) [] σ ⟨[(t,.ref t 0)],[(t,some (.bJ T d.cs))],[t]⟩ :=
 dH.gen rfl rfl λC F γ σ' a w h1 _ h3 hs=>by
  have k1:=hs.ev ((cP h1 (λ_ h=>h)).trans hx);have hn:t ∉ σ'.used:=h3 t aR;refine⟨.pointer (some ⟨w.heap.size,0,none⟩),w.alloc (.cells (a.eval x).cells T),F,γ.up t (.pointer (some ⟨w.heap.size,0,none⟩)),?_,lJ.refl _,pF _ (hs.ws.fresh hn),?_,?_⟩
  .rfl
  .refine hs.ws.Ah hn _ (λb hb=>Sz) ?_
   exact⟨w.heap.size,_,rfl,heap_alloc_new w _,CV k1 hs.ws.gone hf⟩
  .exact⟨w.heap.size,by simp[eD.up],rfl⟩
theorem DT{T:TypeId}{zs:List DV}[hz:eP P T zs](ho:(zs.all DV.one)=true):dH P ops ⟨some t,.alloc T,ty,pos,af,none⟩ [] [] σ ⟨[(t,.ref t 0)],[(t,some (.bJ T zs))],[t]⟩ :=
 dH.gen rfl rfl λC F γ σ' a w h1 _ h3 hs=>by
  have hn:t ∉ σ'.used:=h3 t aR;have Tc:=hz.h;cases hq:P.info? T with
  |none=>simp_all
  |some i=>
   cases hz2:i.zero with
   |none=>simp_all
   |some z=>
    simp only[hq,hz2,Option.bind_some,Option.map_some,Option.some.injEq]at Tc
    have aov:∀u∈z.cells.toList,u.oneCell'=true:=by
     intro u hu;have:=List.all_eq_true.1 ho (oE u) aeK;exact(uE F γ u).one hs.ws.gone this
    refine⟨.pointer (some ⟨w.heap.size,0,none⟩),w.alloc (.cells z.cells T),F,γ.up t (.pointer (some ⟨w.heap.size,0,none⟩)),?_,lJ.refl _,pF _ (hs.ws.fresh hn),?_,?_⟩
    .simp[execOp,Instr.alloc,zeroValue,typeInfo,hq,hz2,newVar,newRow]
    .refine hs.ws.Ah hn _ (λb hb=>Sz) ?_
     exact⟨w.heap.size,_,rfl,heap_alloc_new w _,aet⟩
    .exact⟨w.heap.size,by simp[eD.up],rfl⟩
theorem UJ{C:Ctx}{F:dj}{γ:eD}{σ':AS}{a:Act}{w:World}(hs:Sat C F γ σ' a w){id off T:Nat}{ds:List DV}{v:Value}(hv:Rs F γ (.ref id off) v)(hh:cF σ'.heap id=some (.bJ T ds)) :
  ∃b cs,v = .pointer (some ⟨b,off,none⟩)∧γ id=some (.pointer (some ⟨b,0,none⟩))∧w.heap[b]? = some (.cells cs T (0,0))∧fZ F γ ds cs.toList:=by
 obtain⟨g,hg,b,cs,rfl,hb,hl⟩:=hs.ws.si id _ hh;simp only[Rs]at hv
 simp_all
theorem JN{T':TypeId}{x:Operand}{id off T:Nat}{ds:List DV}{d:DV}(hx:ev σ.env x=some (.ref id off))(hh:cF σ.heap id=some (.bJ T ds))(hd:Cp P T' (ds.drop off) d) :
  dH P ops ⟨some t,.load T' x,ty,pos,af,none⟩ (tm x) [id] σ ⟨[(t,d)],[],[]⟩ :=
 dH.val rfl rfl λC F γ σ' a w h1 h2 hs=>by
  have k1:=hs.ev ((cP h1 (λ_ h=>h)).trans hx);obtain⟨b,cs,e,hg,hb,hl⟩:=UJ hs k1 ((h2 id aR).trans hh);obtain⟨v,r1,r2,_⟩:=Jc hd (yj hb off) (hl.drop off);exact⟨v,aeB,r2⟩
theorem rf{T':TypeId}{x:Operand}{id off T:Nat}{ds:List DV}{d:DV}[hT:qe P T'](hx:ev σ.env x=some (.ref id off))(hh:cF σ.heap id=some (.bJ T ds))(hd:ds[off]? = some d) :
  dH P ops ⟨some t,.load T' x,ty,pos,af,none⟩ (tm x) [id] σ ⟨[(t,d)],[],[]⟩:=JN hx hh (.sc hT.h eJ)
theorem JP{T':TypeId}{x:Operand}{id off T n:Nat}{ds vN:List DV}[hT:jM P T' n](hx:ev σ.env x=some (.ref id off))(hh:cF σ.heap id=some (.bJ T ds))(hn:Nat.ble n (ds.drop off).length=true)(hd:(ds.drop off).take n=vN) :
  dH P ops ⟨some t,.load T' x,ty,pos,af,none⟩ (tm x) [id] σ ⟨[(t,.agg vN)],[],[]⟩:=JN hx hh (.row n hT.h (Nat.le_of_ble_eq_true hn) (by rw[hd]))
theorem ag3{C:Ctx}{F:dj}{γ:eD}{σ':AS}{a:Act}{w:World}(hs:Sat C F γ σ' a w){ds:List DV}{v:Value}(hv:Rs F γ (.iv ds) v) :
  ∃b o vs,v = .pointer (some ⟨b,o,none⟩)∧w.rangeAt b o vs∧fZ F γ ds vs:=by
 obtain⟨b,o,cs,vs,rest,rfl,hb,hd,hl⟩:=hv;obtain⟨t,fz,h1⟩:=hs.ws.fs b cs hb;refine⟨b,o,vs,rfl,λj v hv=>?_,hl.mono (lJ.refl _) (nW.no _)⟩;have:=yj h1 o;exact this j v nV
theorem RC{T':TypeId}{x:Operand}{ds:List DV}{d:DV}(hx:ev σ.env x=some (.iv ds))(hd:Cp P T' ds d) :
  dH P ops ⟨some t,.load T' x,ty,pos,af,none⟩ (tm x) [] σ ⟨[(t,d)],[],[]⟩ :=
 dH.val rfl rfl λC F γ σ' a w h1 h2 hs=>by
  have k1:=hs.ev ((cP h1 (λ_ h=>h)).trans hx);obtain⟨b,o,vs,e,hr,hl⟩:=ag3 hs k1;obtain⟨v,r1,r2,_⟩:=Jc hd hr hl;exact⟨v,aeB,r2⟩
theorem Mv{T':TypeId}{x:Operand}{ds:List DV}{d:DV}[hT:qe P T'](hx:ev σ.env x=some (.iv ds))(hd:ds.head? = some d) :
  dH P ops ⟨some t,.load T' x,ty,pos,af,none⟩ (tm x) [] σ ⟨[(t,d)],[],[]⟩:=RC hx (.sc hT.h hd)
theorem Zo{T':TypeId}{x:Operand}{n:Nat}{ds vN:List DV}[hT:jM P T' n](hx:ev σ.env x=some (.iv ds))(hn:Nat.ble n ds.length=true)(hd:ds.take n=vN) :
  dH P ops ⟨some t,.load T' x,ty,pos,af,none⟩ (tm x) [] σ ⟨[(t,.agg vN)],[],[]⟩:=RC hx (.row n hT.h (Nat.le_of_ble_eq_true hn) (by rw[hd]))
theorem WY{T':TypeId}{ds:List DV}{off:Nat}{d:DV}{F:dj}{γ:eD}{cs:Array Value}(hd:Cp P T' (ds.drop off) d)(hl:fZ F γ ds cs.toList)(w:World):∃v,(part T' cs off).run P w = .ok v w∧Rs F γ d v:=by
 have hl':=hl.drop off;rcases hd with⟨n,⟨dd,hu,IQ,hi⟩,hn,rfl⟩|⟨⟨dd,hu,IQ,hi⟩,hh⟩
 .have afA:(isAgg T').run P w = .ok true w:=by
   unfold isAgg;rw[Sem.run_bind,run_underlying hu w];cases dd <;> simp_all
  cases hq:P.info? T' with
  |none=>simp_all
  |some i=>
   have hs:i.size=n:=eJ;refine⟨.agg (cs.extract off (off+n)),?_,?_⟩
   .simp[part,afA,sizeOf,typeInfo,hq,hs]
   .simp only[Rs]
    have:=hl'.take n
    simp_all
 .have afA:(isAgg T').run P w = .ok false w:=by
   unfold isAgg;rw[Sem.run_bind,run_underlying hu w];cases dd <;> simp_all
  rw[head_drop]at hh;obtain⟨v,h1,h2,h3⟩:=hl.get hh;have:cs[off]? = some v:=eJ;exact⟨v,by simp[part,afA,this],h3⟩
theorem ahb{T:TypeId}{i off n:Nat}{ft:TypeId}[hF:cf P T i off n ft]{x:Operand}{ds:List DV}{d:DV}(hx:ev σ.env x=some (.agg ds))(hd:Cp P ft (ds.drop off) d) :
  dH P ops ⟨some t,.field T x i,ty,pos,af,none⟩ (tm x) [] σ ⟨[(t,d)],[],[]⟩ :=
 dH.val rfl rfl λC F γ σ' a w h1 h2 hs=>by
  have k1:=hs.ev ((cP h1 (λ_ h=>h)).trans hx);obtain⟨cs,e,hl⟩:=k1;obtain⟨fs,f,hu,hf,rfl,rfl⟩:=hF.h;obtain⟨v,r1,r2⟩:=WY hd hl w;exact⟨v,by simp[execOp,e,Instr.field,run_underlying hu,hf,asAgg,r1],r2⟩
theorem Zq{T:TypeId}{i off n:Nat}{ft:TypeId}[hF:cf P T i off n ft][hT:qe P ft]{x:Operand}{ds:List DV}{d:DV}(hx:ev σ.env x=some (.agg ds))(hd:ds[off]? = some d) :
  dH P ops ⟨some t,.field T x i,ty,pos,af,none⟩ (tm x) [] σ ⟨[(t,d)],[],[]⟩:=ahb hx (.sc hT.h eJ)
theorem Ri{T:TypeId}{i off n:Nat}{ft:TypeId}[hF:cf P T i off n ft](b o:Nat)(w:World):(Instr.fieldAt T (.pointer (some ⟨b,o,none⟩)) i).run P w = .ok (.pointer (some ⟨b,o+off,none⟩)) w:=by
 obtain⟨fs,f,hu,hf,rfl,rfl⟩:=hF.h;have hs:=hF.s;have hp:=hF.p;cases hq:P.info? f.type with
 |none=>simp_all
 |some i'=>
  have e:i'.size=n:=eJ;have nq:¬n=0:=ah
  by_cases h0:f.offset=0
  .simp[Instr.fieldAt,run_underlying hu,hf,Instr.sureAddr,fieldPlace,sizeOf,typeInfo,hq,e,nq,Addr.add,h0]
  .simp[Instr.fieldAt,run_underlying hu,hf,Instr.sureAddr,fieldPlace,sizeOf,typeInfo,hq,e,nq,Addr.add,h0]
theorem xg{T:TypeId}{i fo n:Nat}{ft:TypeId}[hF:cf P T i fo n ft]{x:Operand}{id off:Nat}(hx:ev σ.env x=some (.ref id off)):dH P ops ⟨some t,.fieldAddr T x i,ty,pos,af,none⟩ (tm x) [] σ ⟨[(t,.ref id (off+fo))],[],[]⟩ :=
 dH.val rfl rfl λC F γ σ' a w h1 h2 hs=>by
  have k1:=hs.ev ((cP h1 (λ_ h=>h)).trans hx);obtain⟨b,hg,e⟩:=k1;refine⟨_,adB,?_⟩;simp only[Rs];simp_all
theorem Lu{T:TypeId}{i fo n:Nat}{ft:TypeId}[hF:cf P T i fo n ft]{x:Operand}{ds vN:List DV}(hx:ev σ.env x=some (.iv ds))(hd:ds.drop fo=vN):dH P ops ⟨some t,.fieldAddr T x i,ty,pos,af,none⟩ (tm x) [] σ ⟨[(t,.iv vN)],[],[]⟩ :=
 dH.val rfl rfl λC F γ σ' a w h1 h2 hs=>by
  have k1:=hs.ev ((cP h1 (λ_ h=>h)).trans hx);obtain⟨b,o,cs,vs,rest,e,hb,h3,hl⟩:=k1;refine⟨_,adB,?_⟩;have h5:=hl.drop fo;rw[hd]at h5
  by_cases hle:fo<=vs.length
  .refine⟨b,o+fo,cs,vs.drop fo,rest,rfl,hb,?_,h5⟩
   rw[<-List.drop_drop,h3,List.drop_append_of_le_length hle]
  .refine⟨b,o+fo,cs,[],cs.toList.drop (o+fo),rfl,hb,aR,?_⟩
   rw[List.drop_of_length_le ah]at h5;exact h5
theorem Ls{T:TypeId}{i fo n:Nat}{ft:TypeId}[hF:cf P T i fo n ft]{x:Operand}{id j sz o:Nat}(hx:ev σ.env x=some (.rp id j sz o)):dH P ops ⟨some t,.fieldAddr T x i,ty,pos,af,none⟩ (tm x) [] σ ⟨[(t,.rp id j sz (o+fo))],[],[]⟩ :=
 dH.val rfl rfl λC F γ σ' a w h1 h2 hs=>by
  have k1:=hs.ev ((cP h1 (λ_ h=>h)).trans hx);obtain⟨b,n,c,hg,e⟩:=k1;refine⟨_,adB,?_⟩;exact⟨b,n,c,hg,aR⟩
theorem UT{x:Operand}{id off:Nat}(hx:ev σ.env x=some (.ref id off)):dH P ops ⟨some t,.nilCheck x,ty,pos,af,none⟩ (tm x) [] σ ⟨[(t,.ref id off)],[],[]⟩ :=
 dH.val rfl rfl λC F γ σ' a w h1 h2 hs=>by
  have k1:=hs.ev ((cP h1 (λ_ h=>h)).trans hx);have k2:=k1;obtain⟨b,hg,e⟩:=k1;exact⟨.pointer (some ⟨b,off,none⟩),Vu,eJ⟩
theorem Ew{w:World}{g o:Nat}{T:TypeId}{cur:Array Value}(T':TypeId)(v:Value)(hB:w.heap[g]? = some (.cells cur T (0,0)))(hi:(P.info? T').map (·.size)=some v.cells.size)(aiD:o+v.cells.size<=cur.size)
  (h1:∀u∈v.cells.toList,u.oneCell'=true):(storeVar T' ⟨g,o,none⟩ v).run P w = .ok () (w.setRow g (lay cur o v.cells.toList)):=by
 have zb:=run_storeCells_at P g o T v.cells.toList 0 cur w hB ah h1;cases hq:P.info? T' with
 |none=>simp_all
 |some i=>
  have hs:v.cells.size=i.size:=eJ;simp[storeVar,sizeOf,typeInfo,hq,hs,zb,lay]
def vR(ds:List DV)(o:Nat)(cs:List DV):List DV:=ds.take o++cs++ds.drop (o+cs.length)
theorem AL(cur:Array Value)(o:Nat)(cs:List Value):(lay cur o cs).toList=cur.toList.take o++cs++cur.toList.drop (o+cs.length):=by
 unfold lay;simp
theorem uF.setRow{w:World}{g:Nat}(cs:Array Value){cur:Array Value}{T:TypeId}{fz:Nat×Nat}(h:w.heap[g]? = some (.cells cur T fz)):uF w (w.setRow g cs) (some g)∧(w.setRow g cs).heap[g]? = some (.cells cs T fz) :=
 ⟨⟨rfl,rfl,rfl,aR,λk _ hk=>setRow_other w g k _ (λe=>hk (by rw[e]))⟩,setRow_heap w g cur _ T _ h⟩
theorem wB(id:Nat)(e:Option HE)(h:eW)(i:Nat)(e':HE)(hi:cF ([(id,e)]++h) i=some e'):cF ((id,e)::(id,none)::h) i=some e':=by
 rw[List.singleton_append,cH]at hi;rw[cH]
 by_cases hid:id=i
 .simp_all
 .rw[if_neg hid]at hi |-;rw[cH,if_neg hid];exact hi
theorem FR{T':TypeId}{x y:Operand}{id off T n:Nat}{ds vN:List DV}{d:DV}[hT:dM P T' n](hx:ev σ.env x=some (.ref id off))(hy:ev σ.env y=some d)(hh:cF σ.heap id=some (.bJ T ds))(hf:d.flat=true)(hn:Nat.beq n d.cs.length=true)(hl:Nat.ble (off+n) ds.length=true)(hd:vR ds off d.cs=vN) :
  dH P ops ⟨none,.store T' x y,ty,pos,af,none⟩ (tm x++tm y) [id] σ ⟨[],[(id,some (.bJ T vN))],[]⟩ :=
 dH.skip rfl rfl λC F γ σ' a w h1 h2 hs=>by
  obtain⟨k1,k2⟩:=AQ hs h1 hx hy;have tg:=(h2 id aR).trans hh;obtain⟨b,cs,e,hg,hb,hrl⟩:=UJ hs k1 tg;have kc:=CV k2 hs.ws.gone hf;have hn':n=d.cs.length:=Nat.eq_of_beq_eq_true hn;have hlen:=kc.len;have Em:=hrl.len;have hle:=Nat.le_of_ble_eq_true hl;have kp:=Ew (P:=P) (o:=off) T' (a.eval y) hb (by rw[hT.h,hn',<-hlen];simp) eJ kc.one;obtain⟨s1,s2⟩:=uF.setRow (lay cs off (a.eval y).cells.toList) hb;refine⟨_,aeM,?_⟩;have W:=hs.ws.GQ tg hg adW;have W2:=W.put (id0:=id) (e0:=.bJ T vN) hg ⟨b,_,rfl,s2,?_⟩ (λb' je=>?_)
  .exact W2.congr (λi e hi=>wB id _ _ i e hi) (λ_ h=>h)
  .rw[AL,<-hd,vR]
   rw[<-hlen];exact((hrl.take off).append kc).append (hrl.drop _)
  .have ho:=hs.ws.own id _ _ b' tg hg je
   refine⟨ho.1,ho.2,λi e g nq hi Tf Th=>?_⟩;rw[cH]at hi
   split at hi
   .cases hi
   .exact nq (hs.ws.apart i id e _ g _ b' hi tg Tf hg Th je)
end
end Go.Proofs.YtaafmkmdfcgeaaaGreatDoor
/-! ### part K -/
/-
 My engine,part K: guards,calls,states that hold others.
-/
namespace Go.Proofs.YtaafmkmdfcgeaaaGreatDoor
open Go.RowKit
def vX(o:Op):List Nat:=o.operands.toList.flatMap tm
theorem Hk(env:List (Nat×DV)):∀(L:List Nat) (x:Nat),look (L.filterMap λy=>(look env y).map (y,·)) x=if x∈L then look env x else none
 |[],x=>dF
 |y::L,x=>by
  have ih:=Hk env L x;rw[List.filterMap_cons];cases hl:look env y with
  |none=>
   simp only[Option.map_none]
   by_cases hm:x∈L
   all_goals simp_all
  |some d=>
   simp only[Option.map_some];rw[eK,ih]
   by_cases e:y=x
   .simp_all
   .have e':¬x=y:=λh=>e h.symm
    grind
section
variable {P:Program} {ops:Array Oper} {σ:AS} {t:Nat} {ty:TypeId} {pos:String} {af:Array Edge}
theorem nt{b:Bool}(h:b=false):(!b)=true:=nV
def KW(e:List (Nat×DV)):List Operand->Option (List DV)
 |[]=>some []
 |x::xs=>match ev e x,KW e xs with
  |some d,some ds=>some (d::ds)
  |_,_=>none
theorem yi{rt:List Nat}{e e':List (Nat×DV)}(h:∀t∈rt,look e' t=look e t):∀{xs:List Operand},(∀t∈xs.flatMap tm,t∈rt)->KW e' xs=KW e xs
 |[],_=>rfl
 |x::xs,hx=>by
  simp only[List.flatMap_cons,List.mem_append]at hx;rw[KW,KW,cP h (λt ht=>hx t (.inl ht)),yi h (λt ht=>hx t (.inr ht))]
theorem Sat.evs{C:Ctx}{F:dj}{γ:eD}{σ:AS}{a:Act}{w:World}(H:Sat C F γ σ a w):∀{xs:List Operand} {ds:List DV},KW σ.env xs=some ds->tQ F γ ds (xs.map a.eval)
 |[],ds,h=>by injection h with h;subst h;rfl
 |x::xs,ds,h=>by
  simp only[KW]at h;cases h1:Proofs.YtaafmkmdfcgeaaaGreatDoor.ev σ.env x with
  |none=>simp_all
  |some d=>
   cases h2:KW σ.env xs with
   |none=>simp_all
   |some vN=>
    rw[h1,h2]at h;injection h with h;subst h
    exact⟨_,_,rfl,H.ev h1,H.evs h2⟩
class dg(P:Program)(f:FuncId):Prop where
 h:(P.funcs[f]?).map (λfn=>(fn.name == "runtime.NumGoroutine",fn.body.isSome))=some (false,true):=by kernel_rfl
theorem xS{f:FuncId}[hf:dg P f](vs:Array Value)(w:World):(callFunc f vs).run P w = .ok (.enter f vs) w:=by
 have:=hf.h;cases hq:P.funcs[f]? with
 |none=>simp_all
 |some fn=>
  simp only[hq,Option.map_some,Option.some.injEq,Prod.mk.injEq]at this;obtain⟨h1,h2⟩:=this;have h3:¬fn.body=none:=by rintro e;simp_all
  have h4:¬fn.name = "runtime.NumGoroutine" := eJ;simp[callFunc,hq,h3,h4]
theorem JG{f:FuncId}[hf:dg P f](o:Oper)(xs:Array Operand)(ats:Array TypeId)(ho:o.op = .call ⟨.value (.func f),xs,ats⟩)(a:Act)(w:World):(execOp a.eval o).run P w = .ok (.enter f (xs.map a.eval)) w:=by
 have:a.eval (.func f) = .func (.func f) #[] #[]:=rfl;simp[execOp,ho,resolve,this,Deferred.ofValue,invoke,xS]
theorem Fa{f:FuncId}[hf:dg P f]{xs:Array Operand}{ats:Array TypeId}{ds args:List DV}{r:DV}(hc:br P f args r)(ha:KW σ.env xs.toList=some ds)(hle:lH ds args)(hp:vv args = []) :
  dH P ops ⟨some t,.call ⟨.value (.func f),xs,ats⟩,ty,pos,af,none⟩ (xs.toList.flatMap tm) [] σ ⟨[(t,r)],[],[]⟩:=by
 intro C F γ σ' a w h1 h2 h3 h4 hs K Q hK;refine wO (λc hc=>by cases hc) (JG _ xs ats rfl a w) ?_;have hv:=hle.rsT (hs.evs ((yi h1 (λ_ h=>h)).trans ha));have QI:tQ F eD.no args (xs.toList.map a.eval):=Ec args _ nV hv;have e:(xs.toList.map a.eval).toArray=xs.map a.eval:=XV;have:=hc C F γ σ'.heap σ'.used w _ hs.ws QI;rw[e]at this;refine this.mono ?_;rintro e w' ⟨v,F',rfl,k1,k2,k3⟩;exact⟨v,rfl,hK F' γ _ _ k1 ((hs.mono k1 (nW.refl _) k2).put (h4 t rfl) (k3.mono (lJ.refl _) (nW.no _)))⟩
inductive xN(f:Nat->Nat)(heap:eW):eW->Prop
 |nil:xN f heap []
 |cons {i:Nat} {e:HE} {h:eW} (he:cF heap (f i)=some (e.xT f)) (k:xN f heap h):xN f heap ((i,some e)::h)
theorem xN.spec{f:Nat->Nat}{heap h:eW}(k:xN f heap h):∀i e,cF h i=some e->cF heap (f i)=some (e.xT f):=by
 induction k with
 |nil=>intro i e he;simp[cF,look]at he
 |cons he k ih=>
  intro i e hi;rw[cH]at hi
  grind
def zx(f:Nat->Nat)(l:List Nat):Bool:=l.all λi=>l.all λj=>!Nat.beq (f i) (f j)||Nat.beq i j
theorem Fe{f:Nat->Nat}{l:List Nat}(h:zx f l=true):∀i∈l,∀j∈l,f i=f j->i=j:=by
 intro i hi j hj e;have:=List.all_eq_true.1 (List.all_eq_true.1 h i hi) j hj
 simp_all
theorem ahh{fn:FuncId}[hf:dg P fn]{xs:Array Operand}{ats:Array TypeId}{K:TZ}(f:Nat->Nat)(hc:gY P fn K){ds:List DV}(ha:KW σ.env xs.toList=some ds)(hle:lH ds (yC f K.args))(rS:xN f σ.heap K.pre)(hi:zx f (K.pre.map (·.1)++K.new)=true) :
  dH P ops ⟨some t,.call ⟨.value (.func fn),xs,ats⟩,ty,pos,af,none⟩ (xs.toList.flatMap tm) (K.pre.map (λp=>f p.1)) σ ⟨[(t,K.res.xT f)],sN f K.post,K.new.map f⟩:=by
 intro C F γ σ' a w h1 h2 h3 h4 hs K' Q hK;refine wO (λc hc=>by cases hc) (JG _ xs ats rfl a w) ?_;have hv:=hle.rsT (hs.evs ((yi h1 (λ_ h=>h)).trans ha));have e:(xs.toList.map a.eval).toArray=xs.map a.eval:=XV
 have:=hc C F γ σ'.heap σ'.used w _ f (λi e he=>by
  rw[h2 (f i) (List.mem_map.2 ⟨_,xk he,rfl⟩)];exact rS.spec i e he) (λi xW=>h3 (f i) (List.mem_map.2 ⟨i,xW,rfl⟩)) (Fe hi) hs.ws hv
 rw[e]at this;refine this.mono ?_;rintro e w' ⟨v,F',γ',rfl,k1,k2,k3,k4⟩;exact⟨v,rfl,hK F' γ' _ _ k1 ((hs.mono k1 k2 k3).put (h4 t rfl) k4)⟩
end
end Go.Proofs.YtaafmkmdfcgeaaaGreatDoor
/-! ### part L -/
/-
 My engine,part L: slices.
-/
namespace Go.Proofs.YtaafmkmdfcgeaaaGreatDoor
open Go.RowKit
def Bh(z:Value):DV:=match z with
 |.agg cs=>.agg (cs.toList.map oE)
 |v=>oE v
class lK(P:Program)(t:TypeId)(e:outParam TypeId)(sz bytes:outParam Nat)(zd:outParam DV):Prop where
 h:∃z,El P t e z sz bytes∧Bh z=zd
theorem lK.GP{P:Program}{t e:TypeId}{sz bytes:Nat}{zd:DV}(h:lK P t e sz bytes zd):P.underlying t=some (.slice e):=by obtain⟨z,h,_⟩:=h.h;exact h.under
theorem lK.size{P:Program}{t e:TypeId}{sz bytes:Nat}{zd:DV}(h:lK P t e sz bytes zd)(w:World):(sizeOf e).run P w = .ok sz w:=by
 obtain⟨z,h,_⟩:=h.h;obtain⟨i,hi,_,hs,_⟩:=h.info;simp[sizeOf,typeInfo,hi,hs]
section
variable {P:Program} {ops:Array Oper} {σ:AS} {t:Nat} {ty:TypeId} {pos:String} {af:Array Edge}
theorem IZ{T:TypeId}{e:TypeId}(hu:P.underlying T=some (.slice e))(o:Oper)(x:Operand)(ho:o.op = .call ⟨.builtin .len,#[x],#[T]⟩)(a:Act)(w:World){A:Option Addr}{n c:Nat}(hx:a.eval x = .slice A n c):(execOp a.eval o).run P w = .ok (.value (.int .i64 n)) w:=by
 simp[execOp,ho,resolve,invoke,builtin,Builtin.len_,run_underlying hu,hx,goInt]
theorem anA{T e:TypeId}{KJ yd:Nat}{zd:DV}[hT:lK P T e KJ yd zd]{x:Operand}{sz:Nat}{eC:List DV}(hx:ev σ.env x=some (.sl sz eC)):dH P ops ⟨some t,.call ⟨.builtin .len,#[x],#[T]⟩,ty,pos,af,none⟩ (tm x) [] σ ⟨[(t,.int .i64 eC.length)],[],[]⟩ :=
 dH.val rfl rfl λC F γ σ' a w h1 _ hs=>by
  have k1:=hs.ev ((cP h1 (λ_ h=>h)).trans hx);obtain⟨A,c,e,_⟩:=k1;exact⟨.int .i64 eC.length,IZ hT.GP _ x rfl a w e,dF⟩
theorem aha{T e:TypeId}{KJ yd:Nat}{zd:DV}[hT:lK P T e KJ yd zd]{x:Operand}(hx:ev σ.env x=some .cu):dH P ops ⟨some t,.call ⟨.builtin .len,#[x],#[T]⟩,ty,pos,af,none⟩ (tm x) [] σ ⟨[(t,.int .i64 0)],[],[]⟩ :=
 dH.val rfl rfl λC F γ σ' a w h1 _ hs=>by
  have k1:=hs.ev ((cP h1 (λ_ h=>h)).trans hx);exact⟨.int .i64 0,IZ hT.GP _ x rfl a w k1,dF⟩
theorem zZ{C:Ctx}{F:dj}{γ:eD}{σ':AS}{a:Act}{w:World}(hs:Sat C F γ σ' a w){id E sz:Nat}{eC:List DV}{v:Value}(hv:Rs F γ (.row id) v)(hh:cF σ'.heap id=some (.row E sz eC)) :
  ∃A c vs,v = .slice A eC.length c∧γ id=some v∧w.ownsRow 0 E sz v eC.length vs∧rm F sz eC vs:=by
 obtain⟨g,hg,vs,ho,hE⟩:=hs.ws.si id _ hh;simp only[Rs]at hv;rw[hg]at hv;injection hv with hv;subst hv
 obtain⟨A,c,e⟩:=FQ ho;exact⟨A,c,vs,e,hg,ho,hE⟩
theorem ag9{T e:TypeId}{KJ yd:Nat}{zd:DV}[hT:lK P T e KJ yd zd]{x:Operand}{id E sz:Nat}{eC:List DV}(hx:ev σ.env x=some (.row id))(hh:cF σ.heap id=some (.row E sz eC)):dH P ops ⟨some t,.call ⟨.builtin .len,#[x],#[T]⟩,ty,pos,af,none⟩ (tm x) [id] σ ⟨[(t,.int .i64 eC.length)],[],[]⟩ :=
 dH.val rfl rfl λC F γ σ' a w h1 h2 hs=>by
  have k1:=hs.ev ((cP h1 (λ_ h=>h)).trans hx);obtain⟨A,c,vs,e,_⟩:=zZ hs k1 ((h2 id aR).trans hh);exact⟨.int .i64 eC.length,IZ hT.GP _ x rfl a w e,dF⟩
def Bd(σ:AS)(x:Option Operand)(avm n:Nat):Prop:=match x with
 |none=>n=avm
 |some y=>∃k,ev σ.env y=some (.int k (n:Int))
theorem Bd.no{σ:AS}{d:Nat}:Bd σ none d d:=rfl
theorem Bd.at{σ:AS}{y:Operand}{d n:Nat}{k:IntKind}{m:Int}(h:ev σ.env y=some (.int k m))(hm:m=(n:Int)):Bd σ (some y) d n:=⟨k,by rw[h,hm]⟩
def Li:Option Operand->List Nat
 |none=>[]
 |some x=>tm x
theorem rA{k:IntKind}{n y:Nat}(h:n<=y)(cd:BoundsCode)(w:World):(Instr.sliceBound (.int k (n:Int)) y cd).run P w = .ok n w:=by
 simp[Instr.sliceBound,asIntOf,h]
theorem Bt{C:Ctx}{F:dj}{γ:eD}{σ':AS}{a:Act}{w:World}(hs:Sat C F γ σ' a w){lo hi:Option Operand}{l h len cap:Nat}(hl:Bd σ' lo 0 l)(hh:Bd σ' hi len h)(h1:l<=h)(h2:h<=cap) :
  (Instr.sliceBounds true len cap (lo.map a.eval) (hi.map a.eval) none).run P w = .ok (l,h,cap) w:=by
 have e1:∀x k n,ev σ'.env x=some (.int k n)->a.eval x = .int k n:=λx k n hx=>aes
 cases lo with
 |none=>
  cases hi with
  |none=>subst hl;subst hh;rfl
  |some y=>
   obtain⟨k,hk⟩:=hh;subst hl;simp[Instr.sliceBounds,e1 _ _ _ hk,rA h2]
 |some x=>
  obtain⟨k',Cs⟩:=hl;cases hi with
  |none=>subst hh;simp[Instr.sliceBounds,e1 _ _ _ Cs,rA h1]
  |some y=>
   obtain⟨k,hk⟩:=hh;simp[Instr.sliceBounds,e1 _ _ _ hk,e1 _ _ _ Cs,rA h2,rA h1]
theorem Bd.agree{rt:List Nat}{σ':AS}(h:∀t∈rt,look σ'.env t=look σ.env t){x:Option Operand}(hx:∀t∈Li x,t∈rt){d n:Nat}(hb:Bd σ x d n):Bd σ' x d n:=by
 cases x with
 |none=>exact hb
 |some y=>obtain⟨k,hk⟩:=hb;exact⟨k,by rw[cP h hx];exact hk⟩
theorem OL{T e:TypeId}{sz yd:Nat}{zd:DV}[hT:lK P T e sz yd zd]{x:Operand}{lo hi:Option Operand}{eC:List DV}(l h:Nat)(hx:ev σ.env x=some (.sl sz eC))(hl:Bd σ lo 0 l)(hh:Bd σ hi eC.length h)(h1:l<=h)(h2:h<=eC.length) :
  dH P ops ⟨some t,.slice T x lo hi none,ty,pos,af,none⟩ (tm x++Li lo++Li hi) [] σ ⟨[(t,.sl sz ((eC.take h).drop l))],[],[]⟩ :=
 dH.val rfl rfl λC F γ σ' a w tD _ hs=>by
  have k1:=hs.ev ((cP tD (λ_ h=>ql)).trans hx);obtain⟨A,c,e,Ao,hd⟩:=k1;have hb:=Bt (P:=P) hs (hl.agree tD (λ_ h=>ql)) (hh.agree tD (λ_ h=>ql)) h1 (Nat.le_trans h2 Ao.2.1);refine⟨.slice (if c=l then A else A.map (·.add (l*sz))) (h-l) (c-l),?_,?_⟩
  .simp[execOp,Instr.sliceAt,Instr.slice,run_underlying hT.GP,e,hb,hT.size]
  .have hlen:((eC.take h).drop l).length=h-l:=by simp;omega
   refine⟨_,c-l,by rw[hlen],⟨λhn=>?_,by have:=Ao.2.1;rw[hlen];omega,by have:=Ao.2.2;omega⟩,λnq=>?_⟩
   .have hA:A=none:=by
     split at hn
     all_goals simp_all
    have:=Ao.1 hA;omega
   .have my:l<h:=by
     simp_all
    have avn:eC≠[]:=by rintro rfl;simp_all
    obtain⟨b,o,cs,vs,rest,rfl,hF,BW,hE⟩:=hd avn;have Em:¬c=l:=by have:=Ao.2.1;omega
    have Yt:=hE.len;have hmul:h*sz<=vs.length:=by rw[Yt];exact Nat.mul_le_mul_right _ h2
    have aG6:l*sz<=h*sz:=Nat.mul_le_mul_right _ h1;refine⟨b,o+l*sz,cs,(vs.take (h*sz)).drop (l*sz),vs.drop (h*sz)++rest,?_,hF,?_,(hE.take h).drop l⟩
    .simp only[Em,if_false,Addr.add]
     simp
    .rw[<-List.drop_drop,BW,List.drop_append_of_le_length ah]
     rw[<-List.append_assoc]
     congr 1
     rw[List.drop_take];have:vs.drop (l*sz)=(vs.drop (l*sz)).take (h*sz-l*sz)++(vs.drop (l*sz)).drop (h*sz-l*sz):=(List.take_append_drop _ _).symm;rw[List.drop_drop,show l*sz+(h*sz-l*sz)=h*sz by omega]at this;exact this
theorem RD{T e:TypeId}{sz yd:Nat}{zd:DV}[hT:lK P T e sz yd zd]{x y:Operand}{eC:List DV}{k:IntKind}{n:Int}{d:DV}(i:Nat)(hx:ev σ.env x=some (.sl sz eC))(hy:ev σ.env y=some (.int k n))(hn:n=(i:Int))(hd:eC[i]? = some d)(hf:d.flat=true) :
  dH P ops ⟨some t,.indexAddr T x y,ty,pos,af,none⟩ (tm x++tm y) [] σ ⟨[(t,.iv d.cs)],[],[]⟩ :=
 dH.val rfl rfl λC F γ σ' a w tD _ hs=>by
  obtain⟨k1,k2⟩:=AQ hs tD hx hy;simp only[Rs]at k1 k2;obtain⟨A,c,e,Ao,hdd⟩:=k1
  have my:i<eC.length:=by
   rcases Nat.lt_or_ge i eC.length with h|h
   all_goals simp_all
  obtain⟨b,o,cs,vs,rest,rfl,hF,BW,hE⟩:=hdd (by rintro rfl;grind);subst hn;obtain⟨v,q1,q2,q3,q4⟩:=hE.get hd;refine⟨.pointer (some ⟨b,o+i*sz,none⟩),?_,?_⟩
  .by_cases h0:i*sz=0
   .simp[execOp,Instr.indexAt,e,k2,asIntOf,run_underlying hT.GP,my,hT.size,Addr.add,h0]
   .simp[execOp,Instr.indexAt,e,k2,asIntOf,run_underlying hT.GP,my,hT.size,Addr.add,h0]
  .have Yt:=hE.len
   have hm:(i+1)*sz<=eC.length*sz:=Nat.mul_le_mul_right _ my;rw[Nat.succ_mul]at hm;refine⟨b,o+i*sz,cs,v.cells.toList,vs.drop (i*sz+sz)++rest,rfl,hF,?_,CV q4 HD.no hf⟩;rw[<-List.drop_drop,BW,List.drop_append_of_le_length ah,<-q1,<-List.append_assoc];rw[<-List.drop_drop,List.take_append_drop]
theorem Lr{T e:TypeId}{sz yd:Nat}{zd:DV}[hT:lK P T e sz yd zd]{x y:Operand}{id E:Nat}{eC:List DV}{k:IntKind}{n:Int}(i:Nat)(hx:ev σ.env x=some (.row id))(hh:cF σ.heap id=some (.row E sz eC))(hy:ev σ.env y=some (.int k n))(hn:n=(i:Int))(hi:i<eC.length) :
  dH P ops ⟨some t,.indexAddr T x y,ty,pos,af,none⟩ (tm x++tm y) [id] σ ⟨[(t,.rp id i sz 0)],[],[]⟩ :=
 dH.val rfl rfl λC F γ σ' a w tD h2 hs=>by
  obtain⟨k1,k2⟩:=AQ hs tD hx hy;obtain⟨A,c,vs,e,hg,ho,hE⟩:=zZ hs k1 ((h2 id aR).trans hh);simp only[Rs]at k2;subst hn;rcases ho.2 with⟨h1,h0⟩|⟨b,cap,cur,h1,_,hb,r⟩
  .omega
  .rw[h1]at e hg
   injection e with e1 e2 e3;refine⟨.pointer (some ⟨b,i*sz,none⟩),?_,?_⟩
   .by_cases h0:i*sz=0
    .simp[execOp,Instr.indexAt,h1,k2,asIntOf,run_underlying hT.GP,hi,hT.size,Addr.add,h0]
    .simp[execOp,Instr.indexAt,h1,k2,asIntOf,run_underlying hT.GP,hi,hT.size,Addr.add,h0]
   .simp only[Rs];simp_all
inductive Src(σ:AS)(sz:Nat):DV->List DV->List Nat->Prop
 |sl {eC:List DV}:Src σ sz (.sl sz eC) eC []
 |cu:Src σ sz .cu [] []
 |row {id E:Nat} {eC:List DV} (h:cF σ.heap id=some (.row E sz eC)):Src σ sz (.row id) eC [id]
 |rv {id E lo n:Nat} {eC:List DV} (h:cF σ.heap id=some (.row E sz eC)) (hl:lo+n<=eC.length):Src σ sz (.rv id lo n sz) ((eC.drop lo).take n) [id]
theorem Src.read{C:Ctx}{F:dj}{γ:eD}{σ':AS}{a:Act}{w:World}(hs:Sat C F γ σ' a w){sz:Nat}{d:DV}{eC:List DV}{rh:List Nat}(h:Src σ sz d eC rh)(h2:∀id∈rh,cF σ'.heap id=cF σ.heap id){v:Value}(hv:Rs F γ d v) :
  ∃A c vs,v = .slice A eC.length c∧At w A vs∧rm F sz eC vs:=by
 cases h with
 |sl=>
  obtain⟨A,c,e,Ao,hd⟩:=hv
  by_cases nq:eC = []
  .subst nq;exact⟨A,c,[],e,At.nil _ _,dF⟩
  .obtain⟨b,o,cs,vs,rest,rfl,hF,BW,hE⟩:=hd nq
   obtain⟨t,fz,h1⟩:=hs.ws.fs b cs hF;refine⟨_,c,vs,e,At.mk (λ_=>⟨b,o,rfl,λj v hv=>?_⟩),hE⟩;have:=yj h1 o;rw[BW]at this;exact this j v ajl
 |cu=>exact⟨none,0,[],hv,At.nil _ _,dF⟩
 |row h=>
  obtain⟨A,c,vs,e,_,ho,hE⟩:=zZ hs hv ((h2 _ aR).trans h);rw[e]at ho;exact⟨A,c,vs,e,abx ho,hE⟩
 | @rv id E lo n eC h hl=>
  obtain⟨A,k,c,hg,e,hc⟩:=hv;obtain⟨g,vO,vs,ho,hE⟩:=hs.ws.si id _ ((h2 id aR).trans h);rw[hg]at vO;injection vO with vO;subst vO
  have hlen:((eC.drop lo).take n).length=n:=by rw[List.length_take,List.length_drop];omega
  refine⟨_,c-lo,(vs.drop (lo*sz)).take (n*sz),by rw[hlen];exact e,?_,(hE.drop lo).take n⟩;rcases ho.2 with⟨p,hx⟩|⟨b,cap,cur,p,_,q2,q3,q4,q5,q6⟩
  .have hn:n=0:=by omega
   subst hn;rw[Nat.zero_mul,List.take_zero];exact At.nil _ _
  .injection p with p1 p2 p3
   subst p1;subst p2;by_cases h0:c-lo=0
   .have hn:n=0:=by omega
    subst hn;rw[Nat.zero_mul,List.take_zero];exact At.nil _ _
   .rw[if_neg h0,Option.map_some,Addr.add_lit,Nat.zero_add]
    refine At.mk λ_=>⟨b,lo*sz,rfl,λj v hj=>?_⟩
    have KH:=abx ho
    have QI:vs[lo*sz+j]? = some v:=by
     rw[List.getElem?_take]at hj
     simp_all
    have:=KH.add (lo*sz+j) v QI;rw[Addr.add_lit,Nat.zero_add]at this;exact this
theorem ET{T:TypeId}(o:Oper)(x y:Operand)(ho:o.op = .call ⟨.builtin .append,#[x,y],#[T,T]⟩)(a:Act)(w:World){vx vy v:Value}{w':World}(hx:a.eval x=vx)(hy:a.eval y=vy)(hr:(Builtin.append_ #[T,T] o.type #[vx,vy]).run P w = .ok v w'):(execOp a.eval o).run P w = .ok (.value v) w':=by
 simp[execOp,ho,resolve,invoke,builtin,hx,hy,hr]
theorem UU{T e:TypeId}{sz bytes:Nat}{zd:DV}[hT:lK P T e sz bytes zd]{x y:Operand}{dy:DV}{ys:List DV}{rh:List Nat}(hx:ev σ.env x=some .cu)(hy:ev σ.env y=some dy)(hS:Src σ sz dy ys rh)(hb:ys.length*bytes<=140737488355328∧ys.length<=140737488355328) :
  dH P ops ⟨some t,.call ⟨.builtin .append,#[x,y],#[T,T]⟩,ty,pos,af,none⟩ (tm x++tm y) rh σ ⟨[(t,.row t)],[(t,some (.row e sz ys))],[t]⟩ :=
 dH.gen rfl rfl λC F γ σ' a w tD h2 h3 hs=>by
  obtain⟨k1,k2⟩:=AQ hs tD hx hy;have hn:t ∉ σ'.used:=h3 t aR;obtain⟨A,c,vs,ey,KH,hE⟩:=hS.read hs h2 k2;obtain⟨z,wM,_⟩:=hT.h;obtain⟨A',c',w',kp,ho,hg,hob⟩:=WQ (P:=P) w wM ty 0 (.slice none 0 0) 0 [] (OK _ _ _ _) A ys.length c vs hE.len KH hE.one eJ ah (Nat.zero_le _);rw[Nat.zero_add,List.nil_append]at ho;have S:uF w w' none:=abt (by simpa [Value.ownBlock]using hg);refine⟨.slice A' (0+ys.length) c',w',F,γ.up t (.slice A' ys.length c'),ET _ x y rfl a w k1 ey kp,lJ.refl _,pF _ (hs.ws.fresh hn),?_,?_⟩
  .refine(hs.ws.quiet S).add hn ⟨vs,ho,hE⟩ (λb je=>?_)
   rw[yE ho]at je
   have hbs:b=w.heap.size:=by
    rcases hob with h|h
    .simp only[Value.ownBlock]at h je;simp_all
    simp_all
   subst hbs;refine⟨?_,.inr hs.ws.size,λuS e' g' hh oV BX=>?_⟩
   .cases hF:F w.heap.size with
    |none=>rfl
    |some cs=>exact absurd (hs.ws.flt hF) (Nat.lt_irrefl _)
   .obtain⟨g1,q1,q2⟩:=hs.ws.si uS e' hh
    rw[oV]at q1;injection q1 with q1;subst q1
    exact absurd (q2.lt _ BX) (Nat.lt_irrefl _)
  .simp only[Rs,Nat.zero_add];exact uu _ _ _
theorem acq{T e:TypeId}{sz bytes:Nat}{zd:DV}[hT:lK P T e sz bytes zd]{x y:Operand}{id:Nat}{xs:List DV}{dy:DV}{ys:List DV}{rh:List Nat}(hx:ev σ.env x=some (.row id))(hh:cF σ.heap id=some (.row e sz xs))(hy:ev σ.env y=some dy)(hS:Src σ sz dy ys rh)
  (hb:(xs.length+ys.length)*bytes<=140737488355328∧xs.length+ys.length<=140737488355328) :
  dH P ops ⟨some t,.call ⟨.builtin .append,#[x,y],#[T,T]⟩,ty,pos,af,none⟩ (tm x++tm y) (id::rh) σ ⟨[(t,.row t)],[(t,some (.row e sz (xs++ys))),(id,none)],[t]⟩ :=
 dH.gen rfl rfl λC F γ σ' a w tD h2 h3 hs=>by
  obtain⟨k1,k2⟩:=AQ hs tD hx hy;have hn:t ∉ σ'.used:=h3 t aR;have tg:=(h2 id aR).trans hh;obtain⟨A0,c0,KZ,e0,La,PV,hE0⟩:=zZ hs k1 tg;obtain⟨A,c,vs,ey,KH,hE⟩:=hS.read hs (λi hi=>h2 i Pv) k2;obtain⟨z,wM,_⟩:=hT.h;obtain⟨A',c',w',kp,ho,hg,hob⟩:=WQ (P:=P) w wM ty 0 _ xs.length KZ PV A ys.length c vs hE.len KH hE.one hb.1 hb.2 (Nat.zero_le _);have S:uF w w' (fA (a.eval x)):=aen;refine⟨.slice A' (xs.length+ys.length) c',w',F,γ.up t (.slice A' (xs.length+ys.length) c'),ET _ x y rfl a w rfl ey kp,lJ.refl _,pF _ (hs.ws.fresh hn),?_,?_⟩
  .have W:=hs.ws.GQ tg La S
   refine W.add hn ⟨KZ++vs,eJ,hE0.append hE⟩ (λb je=>?_);rw[yE ho]at je;rcases hob with h|h
   .rw[je,<-yE PV]at h
    have q:=hs.ws.own id _ _ b tg La h.symm;refine⟨q.1,q.2,λuS e' g' EJ oV BX=>?_⟩;rw[cH]at EJ
    split at EJ
    .cases EJ
    .rename_i nq;exact nq (hs.ws.apart id uS _ e' _ g' b tg EJ La oV h.symm BX)
   .rw[je]at h;injection h with h;subst h
    refine⟨?_,.inr hs.ws.size,λuS e' g' EJ oV BX=>?_⟩
    .cases hF:F w.heap.size with
     |none=>rfl
     |some cs=>exact absurd (hs.ws.flt hF) (Nat.lt_irrefl _)
    .rw[cH]at EJ
     split at EJ
     .cases EJ
     .obtain⟨g1,q1,q2⟩:=hs.ws.si uS e' EJ
      rw[oV]at q1;injection q1 with q1;subst q1
      exact absurd (q2.lt _ BX) (Nat.lt_irrefl _)
  .exact uu _ _ _
theorem Xe{o:Oper}{rt rh:List Nat}{hp:eW}{nw:List Nat}{E sz:Nat}{eC:List DV}(h:dH P ops o rt rh σ ⟨[(t,.row t)],(t,some (.row E sz eC))::hp,nw⟩):dH P ops o rt rh σ ⟨[(t,.sl sz eC)],(t,none)::hp,nw⟩:=by
 intro C F γ σ' a w h1 h2 h3 h4 hs K Q hK;refine h C F γ σ' a w h1 h2 h3 h4 hs K Q (λF' γ' a' w' hF jI=>?_);have hh:cF (((t,some (.row E sz eC))::hp)++σ'.heap) t=some (.row E sz eC):=by rw[List.cons_append,cH,if_pos rfl]
 have hr:=(jI.env t (.row t) adM);have LR:=hr.2;obtain⟨F2,f1,f2,f3⟩:=jI.ws.freeze hh LR;refine hK F2 γ' a' w' (hF.trans f1) ⟨λx dx hx=>?_,f2.congr (λi e hi=>?_) (λ_ h=>h),jI.size,jI.defers⟩
 .simp only[AS.app,List.singleton_append]at hx
  rw[eK]at hx
  by_cases hxt:t=x
  .simp_all
  .rw[if_neg hxt]at hx
   have:=jI.env x dx (by simp only[AS.app,List.singleton_append];rw[eK,if_neg hxt];exact hx);exact⟨this.1,this.2.mono f1 (nW.refl _)⟩
 .simp only[AS.app,List.cons_append]at hi |-
  rw[cH]at hi |-
  by_cases hit:t=i
  .simp_all
  .rw[if_neg hit]at hi |-;rw[cH,if_neg hit];exact hi
theorem Ar{z:Value}{zd:DV}(h:Bh z=zd)(ho:∀u∈z.cells.toList,u.oneCell'=true)(F:dj):Rs F eD.no zd z:=by
 subst h;unfold Bh
 split
 .rename_i cs
  exact⟨cs,rfl,Dy F _ _ ho⟩
 .exact uE _ _ _
theorem rm.replicate{F:dj}{sz:Nat}{d:DV}{v:Value}(h1:v.cells.size=sz)(h2:∀u∈v.cells.toList,u.oneCell'=true)(h:Rs F eD.no d v):∀n,rm F sz (List.replicate n d) (List.replicate n v.cells.toList).flatten
 |0=>dF
 |n+1=>by
  exact⟨v,_,rfl,h1,h2,h,rm.replicate h1 h2 h n⟩
end
end Go.Proofs.YtaafmkmdfcgeaaaGreatDoor
/-! ### part M -/
/-
 My engine,part M: make,literals,min and max; states that hold others.
-/
namespace Go.Proofs.YtaafmkmdfcgeaaaGreatDoor
open Go.RowKit
theorem pU(z:Array Value)(hz:0<z.size)(n:Nat):(madeCells z (n*z.size)).toList=(List.replicate n z.toList).flatten:=by
 apply List.ext_getElem?;intro j
 have hfl:∀n j,(List.replicate n z.toList).flatten[j]? = if j<n*z.size then z.toList[j % z.size]? else none:=by
  intro n
  induction n with
  |zero=>simp
  |succ n ih=>
   intro j;rw[List.replicate_succ,List.flatten_cons,List.getElem?_append]
   by_cases hj:j<z.toList.length
   .rw[if_pos hj]
    have Yu:j<z.size:=ah;have:j<(n+1)*z.size:=VP;rw[if_pos this,Nat.mod_eq_of_lt Yu]
   .rw[if_neg hj,ih]
    have Yu:z.size<=j:=eJ
    have e:(j-z.toList.length) % z.size=j % z.size:=by
     rw[Array.length_toList]
     conv=>rhs;rw[<-Nat.sub_add_cancel Yu]
     rw[Nat.add_mod_right]
    rw[e,Array.length_toList]
    by_cases h:j-z.size<n*z.size
    .rw[if_pos h,if_pos VP]
    .rw[if_neg h,if_neg VP]
 rw[hfl]
 by_cases hj:j<n*z.size
 .have hm:j % z.size<z.size:=Nat.mod_lt _ hz
  simp[madeCells,hj,hm]
 .rw[if_neg hj]
  rw[List.getElem?_eq_none (by rw[Array.length_toList,size_madeCells];omega)]
section
variable {P:Program} {ops:Array Oper} {σ:AS} {t:Nat} {ty:TypeId} {pos:String} {af:Array Edge}
theorem Aq{T:TypeId}{zd:DV}{z:Value}(h:Bh z=zd)(hz:(zd.cs.all DV.one)=true):∀u∈z.cells.toList,u.oneCell'=true:=by
 subst h;intro u hu
 have e:(Bh z).cs=z.cells.toList.map oE:=by
  unfold Bh;cases z <;> simp only[Value.cells] <;> try rfl
  .rename_i a n c;cases a <;> (simp) <;> (cases n <;> cases c <;> simp[oE,DV.cs])
 rw[e]at hz;exact(uE (λ_=>none) eD.no u).one HD.no (List.all_eq_true.1 hz _ (List.mem_map.2 ⟨u,hu,rfl⟩))
theorem aku{T e:TypeId}{sz bytes:Nat}{zd:DV}[hT:lK P T e sz bytes zd]{x y:Operand}{k k':IntKind}{l c:Int}(n m:Nat)(hx:ev σ.env x=some (.int k l))(hy:ev σ.env y=some (.int k' c))(hl:l=(n:Int))(hc:c=(m:Int))(hnm:n<=m)(hb:bytes*m<=281474976710656∧m<=281474976710656)(hz:(zd.cs.all DV.one)=true) :
  dH P ops ⟨some t,.makeSlice T x y,ty,pos,af,none⟩ (tm x++tm y) [] σ ⟨[(t,.row t)],[(t,some (.row e sz (List.replicate n zd)))],[t]⟩ :=
 dH.gen rfl rfl λC F γ σ' a w tD h2 h3 hs=>by
  obtain⟨k1,k2⟩:=AQ hs tD hx hy;simp only[Rs]at k1 k2;have hn:t ∉ σ'.used:=h3 t aR;obtain⟨z,wM,Wj⟩:=hT.h;obtain⟨i,hi,Yv,DJ,HF⟩:=wM.info;have ho:=Aq (T:=T) Wj hz;subst hl hc;have kp:=run_make (P:=P) w T e i z wM.under hi Yv k k' (n:Int) (m:Int) ah ah (by rw[HF];omega) ah;refine⟨.slice (some ⟨w.heap.size,0,none⟩) n m,_,F,γ.up t (.slice (some ⟨w.heap.size,0,none⟩) n m),by simp[execOp,k1,k2,kp];rfl,lJ.refl _,pF _ (hs.ws.fresh hn),?_,?_⟩
  .refine hs.ws.Ah hn _ (λb hb=>Sz) ?_
   have GA:z.cells.size=sz:=wM.Eo;refine⟨(List.replicate n z.cells.toList).flatten,⟨by simp[GA],.inr ⟨w.heap.size,m,_,aR,Nat.zero_le _,heap_alloc_new w _,eJ,Ks,by rw[size_madeCells,DJ],?_⟩⟩,rm.replicate GA ho (Ar Wj ho F) n⟩;rw[List.length_replicate,DJ,<-GA,pU _ VN]
   have:∀(n m:Nat) (l:List Value),n<=m->((List.replicate m l).flatten).take (n*l.length)=(List.replicate n l).flatten:=by
    intro n
    induction n with
    |zero=>simp
    |succ n ih=>
     intro m l hm;obtain⟨m,rfl⟩:∃m',m=m'+1:=⟨m-1,ah⟩;rw[List.replicate_succ,List.replicate_succ,List.flatten_cons,List.flatten_cons,Nat.succ_mul,Nat.add_comm,List.take_append,List.take_of_length_le ah,Nat.add_sub_cancel_left,ih m l ah]
   have:=this n m z.cells.toList hnm;omega
  .exact uu _ _ _
theorem anx{T1 T2:TypeId}{x y:Operand}{k:IntKind}{a b:Int}(hx:ev σ.env x=some (.int k a))(hy:ev σ.env y=some (.int k b)):dH P ops ⟨some t,.call ⟨.builtin .min,#[x,y],#[T1,T2]⟩,ty,pos,af,none⟩ (tm x++tm y) [] σ ⟨[(t,.int k (if b<a then b else a))],[],[]⟩ :=
 dH.val rfl rfl λC F γ σ' ac w tD _ hs=>by
  obtain⟨k1,k2⟩:=AQ hs tD hx hy;simp only[Rs]at k1 k2;exact⟨.int k (if b<a then b else a),by simp[execOp,resolve,invoke,builtin,Builtin.min_,k1,k2,Builtin.min2],dF⟩
theorem anz{T1 T2:TypeId}{x y:Operand}{k:IntKind}{a b:Int}(hx:ev σ.env x=some (.int k a))(hy:ev σ.env y=some (.int k b)):dH P ops ⟨some t,.call ⟨.builtin .max,#[x,y],#[T1,T2]⟩,ty,pos,af,none⟩ (tm x++tm y) [] σ ⟨[(t,.int k (if b>a then b else a))],[],[]⟩ :=
 dH.val rfl rfl λC F γ σ' ac w tD _ hs=>by
  obtain⟨k1,k2⟩:=AQ hs tD hx hy;simp only[Rs]at k1 k2;exact⟨.int k (if b>a then b else a),by simp[execOp,resolve,invoke,builtin,Builtin.max_,k1,k2,Builtin.max2],dF⟩
class CPl(P:Program)(t:TypeId)(zs:outParam (List DV))(pl:outParam (List (Nat×Nat))):Prop where
 z:eP P t zs
 p:(∃fs,P.underlying t=some (.struct fs)∧(∀f∈fs.toList,(P.info? f.type).isSome)∧fs.toList.map (λf=>(f.offset,P.cellsOf f.type))=pl)∨(∃n e s,P.underlying t=some (.array n e)∧(P.info? e).map (·.size)=some s∧pl=(List.range n).map λi=>(i*s,s))
class sA(P:Program)(t:TypeId)(pl:outParam (List (Nat×Nat))):Prop where
 h:(∃fs,P.underlying t=some (.struct fs)∧(∀f∈fs.toList,(P.info? f.type).isSome)∧fs.toList.map (λf=>(f.offset,P.cellsOf f.type))=pl)∨(∃n e s,P.underlying t=some (.array n e)∧(P.info? e).map (·.size)=some s∧pl=(List.range n).map λi=>(i*s,s))
instance {P:Program}{t:TypeId}{zs:List DV}{pl:List (Nat×Nat)}[z:eP P t zs][p:sA P t pl]:CPl P t zs pl:=⟨z,p.h⟩
abbrev zI:DV:=.int .i64 0
abbrev zU:DV:=.int .u8 0
abbrev zW:DV:=.int .u64 0
abbrev zS:DV:=.str .empty
def Ij(pl:List (Nat×Nat)):List DV->List (Nat×DV)->Option (List DV)
 |cs,[]=>some cs
 |cs,(i,d)::rest=>match pl[i]? with
  |none=>none
  |some (off,size)=>bif Nat.beq d.cs.length size&&Nat.ble (off+size) cs.length&&d.flat then Ij pl (vR cs off d.cs) rest else none
def ZR(e:List (Nat×DV)):List (Nat×Operand)->Option (List (Nat×DV))
 |[]=>some []
 |(i,x)::xs=>match ev e x,ZR e xs with
  |some d,some ds=>some ((i,d)::ds)
  |_,_=>none
theorem acW(vs:List Value):∀(j off:Nat) (cells:Array Value),off+j+vs.length<=cells.size->((vs.zipIdx j).foldl (λcs (x:Value×Nat)=>cs.setIfInBounds (off+x.2) x.1) cells)=lay cells (off+j) vs:=by
 induction vs with
 |nil=>intro j off cells _;apply Array.toList_inj.1;rw[AL];simp
 |cons v vs ih=>
  intro j off cells h;simp only[List.length_cons]at h;rw[List.zipIdx_cons,List.foldl_cons,ih (j+1) off _ iC];apply Array.toList_inj.1;rw[AL,AL];have my:off+j<cells.toList.length:=iC;rw[Array.toList_setIfInBounds,List.length_cons];rw[List.set_eq_take_append_cons_drop,if_pos my]
  have e1:(cells.toList.take (off+j)++v::cells.toList.drop (off+j+1)).take (off+(j+1))=cells.toList.take (off+j)++[v]:=by
   rw[List.take_append,List.take_of_length_le iC];have:off+(j+1)-(List.take (off+j) cells.toList).length=1:=iC
   simp_all
  have e2:(cells.toList.take (off+j)++v::cells.toList.drop (off+j+1)).drop (off+(j+1)+vs.length)=cells.toList.drop (off+j+(vs.length+1)):=by
   rw[List.drop_append,List.drop_of_length_le iC,List.nil_append];have:off+(j+1)+vs.length-(List.take (off+j) cells.toList).length=vs.length+1:=iC;rw[this,List.drop_succ_cons,List.drop_drop];congr 1;omega
  simp_all
theorem Je{F:dj}{γ:eD}(hg:HD γ)(place:Nat->Option (Nat×Nat))(pl:List (Nat×Nat)):∀(AX:List (Nat×DV)) (vps:List (Nat×Value)) (zs ds:List DV) (cells:Array Value),
  (AX.map (·.1)=vps.map (·.1))->tQ F γ (AX.map (·.2)) (vps.map (·.2))->(∀i∈AX.map (·.1),∀q,pl[i]? = some q->place i=some q)->fZ F γ zs cells.toList->Ij pl zs AX=some ds->∃cs,Instr.fill place cells vps=some cs∧fZ F γ ds cs.toList
 |[],[],zs,ds,cells,_,_,_,hz,hf=>by
  injection hf with hf;subst hf;exact⟨cells,rfl,hz⟩
 |[],_::_,zs,ds,cells,h,_,_,_,_=>AV
 |_::_,[],zs,ds,cells,h,_,_,_,_=>AV
 |(i,d)::AX,(i',v)::vps,zs,ds,cells,hk,hv,hp,hz,hf=>by
  simp only[List.map_cons,List.cons.injEq]at hk;obtain⟨rfl,hk⟩:=hk;obtain⟨v',rest,⟨rfl,rfl⟩,hd,hv⟩:=hv;simp only[Ij]at hf;cases hq:pl[i]? with
  |none=>simp_all
  |some q=>
   obtain⟨off,size⟩:=q;rw[hq]at hf;simp only at hf;cases hc:(Nat.beq d.cs.length size&&Nat.ble (off+size) zs.length&&d.flat)with
   |false=>simp_all
   |true=>
    rw[hc]at hf;simp only[Bool.and_eq_true]at hc;have c1:d.cs.length=size:=Nat.eq_of_beq_eq_true hc.1.1;have c2:=Nat.le_of_ble_eq_true hc.1.2;have kc:=CV hd hg hc.2;have hl1:=kc.len;have hl2:=hz.len;have PY:v.cells.size=size:=eJ;have BW:cells.size=zs.length:=ah
    have Tc:fZ F γ (vR zs off d.cs) (lay cells off v.cells.toList).toList:=by
     rw[AL,vR,<-hl1];exact((hz.take off).append kc).append (hz.drop _)
    obtain⟨cs,r1,r2⟩:=Je hg place pl AX vps _ ds _ hk hv (λj hj=>hp j (by simp[hj])) Tc hf;refine⟨cs,?_,r2⟩;have hpl:=hp i aR _ hq;simp only[Instr.fill,hpl];have hno:¬(decide (v.cells.size≠size)||decide (off+v.cells.size>cells.size))=true:=nV;have ajK:=acW v.cells.toList 0 off cells nV;rw[Nat.add_zero]at ajK
    have:(v.cells.zipIdx.foldl (λcs (x:Value×Nat)=>cs.setIfInBounds (off+x.2) x.1) cells)=lay cells off v.cells.toList:=by
     rw[<-ajK,<-Array.foldl_toList,Array.toList_zipIdx]
    simp_all
theorem Hr{rt:List Nat}{e e':List (Nat×DV)}(h:∀t∈rt,look e' t=look e t):∀{xs:List (Nat×Operand)},(∀t∈xs.flatMap (λp=>tm p.2),t∈rt)->ZR e' xs=ZR e xs
 |[],_=>rfl
 |(i,x)::xs,hx=>by
  simp only[List.flatMap_cons,List.mem_append]at hx;rw[ZR,ZR,cP h (λt ht=>hx t (.inl ht)),Hr h (λt ht=>hx t (.inr ht))]
theorem Sat.evp{C:Ctx}{F:dj}{γ:eD}{σ:AS}{a:Act}{w:World}(H:Sat C F γ σ a w):∀{xs:List (Nat×Operand)} {ds:List (Nat×DV)},ZR σ.env xs=some ds->ds.map (·.1)=xs.map (·.1)∧tQ F γ (ds.map (·.2)) (xs.map (λp=>a.eval p.2))
 |[],ds,h=>by injection h with h;subst h;simp[tQ]
 |(i,x)::xs,ds,h=>by
  simp only[ZR]at h;cases h1:Proofs.YtaafmkmdfcgeaaaGreatDoor.ev σ.env x with
  |none=>simp_all
  |some d=>
   cases h2:ZR σ.env xs with
   |none=>simp_all
   |some vN=>
    rw[h1,h2]at h;injection h with h;subst h
    obtain⟨k1,k2⟩:=H.evp h2;simp only[List.map_cons,tQ];exact⟨by rw[k1],_,_,rfl,H.ev h1,k2⟩
theorem Rh{α β:Type}{f:α->Sem β}{g:α->β}{w:World}:∀{l:List α},(∀x∈l,(f x).run P w = .ok (g x) w)->(l.mapM f).run P w = .ok (l.map g) w
 |[],_=>aR
 |x::l,h=>by
  have h2:=Rh (l:=l) (λy hy=>h y (by simp[hy]))
  simp_all
theorem run_places{fs:Array Field}(hi:∀f∈fs.toList,(P.info? f.type).isSome)(w:World):(fs.mapM λf=>do pure (f.offset,<-sizeOf f.type):Sem (Array (Nat×Nat))).run P w = .ok (fs.toList.map λf=>(f.offset,P.cellsOf f.type)).toArray w:=by
 rw[Array.mapM_eq_mapM_toList]
 have:=Rh (P:=P) (w:=w) (f:=λf:Field=>(do pure (f.offset,<-sizeOf f.type):Sem (Nat×Nat))) (g:=λf=>(f.offset,P.cellsOf f.type)) (l:=fs.toList) (λf hf=>by
  obtain⟨i,hq⟩:=Option.isSome_iff_exists.1 (hi f hf);simp[sizeOf,typeInfo,hq,Program.cellsOf])
 simp_all
theorem OQ{T:TypeId}{zs:List DV}{pl:List (Nat×Nat)}[hP:CPl P T zs pl]{ps:Array (Nat×Operand)}{AX:List (Nat×DV)}{ds:List DV}(hz:(zs.all DV.one)=true)(he:ZR σ.env ps.toList=some AX)(hf:Ij pl zs AX=some ds) :
  dH P ops ⟨some t,.build T ps,ty,pos,af,none⟩ (ps.toList.flatMap λp=>tm p.2) [] σ ⟨[(t,.agg ds)],[],[]⟩ :=
 dH.val rfl rfl λC F γ σ' a w tD _ hs=>by
  obtain⟨k1,k2⟩:=hs.evp ((Hr tD (λ_ h=>h)).trans he);have Tc:=hP.z.h;cases hq:P.info? T with
  |none=>simp[hq]at Tc
  |some i=>
   cases hz2:i.zero with
   |none=>simp_all
   |some z=>
    simp only[hq,hz2,Option.bind_some,Option.map_some,Option.some.injEq]at Tc
    have aov:∀u∈z.cells.toList,u.oneCell'=true:=by
     intro u hu;have:=List.all_eq_true.1 hz (oE u) aeK;exact(uE F γ u).one hs.ws.gone this
    have GA:fZ F γ zs z.cells.toList:=aet;have hzv:(zeroValue T).run P w = .ok z w:=by simp[zeroValue,typeInfo,hq,hz2]
    have aly:(ps.map λ(p:Nat×Operand)=>(p.1,a.eval p.2)).toList=ps.toList.map λp=>(p.1,a.eval p.2):=aR
    rcases hP.p with⟨fs,hu,xW,hpl⟩|⟨n,e,s,hu,yl,hpl⟩
    .have hpr:=run_places (P:=P) xW w
     obtain⟨cs,r1,r2⟩:=Je hs.ws.gone (λi=>pl[i]?) pl AX (ps.toList.map λp=>(p.1,a.eval p.2)) zs ds z.cells Vw VS (λi _ q h=>h) GA hf;refine⟨.agg cs,?_,Sx⟩;simp only[execOp,Instr.build,Sem.run_bind,hzv,Result.andThen_ok,run_underlying hu w,hpr,Sem.run_pure]
     simp_all
    .cases hqe:P.info? e with
     |none=>simp[hqe]at yl
     |some ie=>
      have hse:(sizeOf e).run P w = .ok s w:=by
       have:ie.size=s:=eJ;simp[sizeOf,typeInfo,hqe,this]
      obtain⟨cs,r1,r2⟩:=Je hs.ws.gone (λi=>some (i*s,s)) pl AX (ps.toList.map λp=>(p.1,a.eval p.2)) zs ds z.cells Vw VS (λi _ q h=>by
       rw[hpl,List.getElem?_map]at h;cases hr:(List.range n)[i]? with
       |none=>simp_all
       |some j=>
        rw[hr]at h
        have:j=i:=by
         obtain⟨_,e⟩:=List.getElem?_eq_some_iff.1 hr
         simp_all
        simp_all) GA hf
      refine⟨.agg cs,?_,Sx⟩;simp only[execOp,Instr.build,Sem.run_bind,hzv,Result.andThen_ok,run_underlying hu w,hse,Sem.run_pure]
      simp_all
end
end Go.Proofs.YtaafmkmdfcgeaaaGreatDoor
/-! ### part N -/
/-
 My engine,part N: slice literals,elements of rows; states that hold others.
-/
namespace Go.Proofs.YtaafmkmdfcgeaaaGreatDoor
open Go.RowKit
theorem fZ.split{F:dj}{γ:eD}{ds es:List DV}{vs:List Value}(h:fZ F γ (ds++es) vs):fZ F γ ds (vs.take ds.length)∧fZ F γ es (vs.drop ds.length):=by
 have h1:=h.take ds.length;have h2:=h.drop ds.length
 simp_all
def ZS(sz:Nat)(d:DV):Bool:=Nat.beq d.cs.length sz&&d.flat&&d.ids.isEmpty
theorem KD{F:dj}{γ:eD}{d:DV}{vs:List Value}(hf:d.flat=true)(h:fZ F γ d.cs vs):∃v:Value,v.cells.toList=vs∧Rs F γ d v:=by
 by_cases ho:d.one=true
 .rw[DV.Pm ho]at h
  obtain⟨v,rest,rfl,h1,h2,rfl⟩:=h;exact⟨v,by rw[wW h1],h2⟩
 .cases d with
  |agg ds=>exact⟨.agg vs.toArray,rfl,by exact⟨vs.toArray,rfl,by simpa [DV.cs]using h⟩⟩
  |_=>exact absurd hf ho
theorem abu{F:dj}{γ:eD}{sz:Nat}:∀{eC:List DV} {vs:List Value},(eC.all (ZS sz))=true->fZ F γ (eC.flatMap DV.cs) vs->rm F sz eC vs
 |[],vs,_,h=>by subst h;rfl
 |d::eC,vs,hk,h=>by
  simp only[List.all_cons,Bool.and_eq_true]at hk;obtain⟨hk1,hk2⟩:=hk;simp only[ZS,Bool.and_eq_true]at hk1;have hlen:d.cs.length=sz:=Nat.eq_of_beq_eq_true hk1.1.1;have PX:d.ids = []:=eJ;obtain⟨h1,h2⟩:=h.split;obtain⟨v,e1,e2⟩:=KD hk1.1.2 h1;refine⟨v,vs.drop d.cs.length,eJ,?_,?_,wK d v eJ e2,abu hk2 h2⟩
  .have:=h1.len
   rw[<-e1,Array.length_toList]at this;omega
  .rw[e1];exact h1.one
theorem Rf{α:Type}(A Y:List α){o n sz p L:Nat}(hY:Y.length=n)(h1:o+n<=sz)(h2:p+sz<=L)(h3:L<=A.length) :
  (A.take (p+o)++Y++A.drop (p+o+n)).take L=(A.take L).take p++((((A.take L).drop p).take sz).take o++Y++(((A.take L).drop p).take sz).drop (o+n))++(A.take L).drop (p+sz):=by
 have e1:(A.take L).take p=A.take p:=nV;have e2:((A.take L).drop p).take sz=(A.drop p).take sz:=by rw[List.drop_take,List.take_take,Nat.min_eq_left ah]
 have e3:((A.drop p).take sz).take o=(A.drop p).take o:=nV;have e4:((A.drop p).take sz).drop (o+n)=(A.drop (p+o+n)).take (sz-(o+n)):=by rw[List.drop_take,List.drop_drop,Nat.add_assoc]
 have e5:(A.take L).drop (p+sz)=(A.drop (p+sz)).take (L-(p+sz)):=by rw[List.drop_take]
 have e6:(A.drop (p+o+n)).take (L-(p+o+n))=(A.drop (p+o+n)).take (sz-(o+n))++(A.drop (p+sz)).take (L-(p+sz)):=by
  have:L-(p+o+n)=(sz-(o+n))+(L-(p+sz)):=ah;rw[this,List.take_add,List.drop_drop,show p+o+n+(sz-(o+n))=p+sz by omega]
 have e7:A.take (p+o)=A.take p++(A.drop p).take o:=List.take_add;have l1:(A.take (p+o)).length=p+o:=zG;rw[e1,e2,e3,e4,e5,List.take_append,List.take_of_length_le (by rw[List.length_append,l1,hY];omega),List.length_append,l1,hY,e6,e7];simp
section
variable {P:Program} {ops:Array Oper} {σ:AS} {t:Nat} {ty:TypeId} {pos:String} {af:Array Edge}
theorem FT{T e:TypeId}{sz bytes:Nat}{zd:DV}[hT:lK P T e sz bytes zd]{n:Nat}{ps:Array (Nat×Operand)}{AX:List (Nat×DV)}(hz:(zd.cs.all DV.one)=true)(hn:Nat.ble (n*sz) 16777216=true)(he:ZR σ.env ps.toList=some AX)(hk:Nat.beq AX.length n=true)
  (hf:Ij ((List.range n).map λi=>(i*sz,sz)) (List.replicate n zd.cs).flatten AX=some ((AX.map (·.2)).flatMap DV.cs)) (Ao:(AX.map (·.2)).all (ZS sz)=true) :
  dH P ops ⟨some t,.buildSlice T n ps,ty,pos,af,none⟩ (ps.toList.flatMap λp=>tm p.2) [] σ ⟨[(t,.row t)],[(t,some (.row e sz (AX.map (·.2))))],[t]⟩ :=
 dH.gen rfl rfl λC F γ σ' a w tD h2 h3 hs=>by
  obtain⟨k1,k2⟩:=hs.evp ((Hr tD (λ_ h=>h)).trans he);have htn:t ∉ σ'.used:=h3 t aR;obtain⟨z,wM,Wj⟩:=hT.h;obtain⟨i,hi,Yv,DJ,HF⟩:=wM.info;have ho:=Aq (T:=T) Wj hz;have GA:z.cells.size=sz:=wM.Eo;have ZF:AX.length=n:=Nat.eq_of_beq_eq_true hk;have hle:=Nat.le_of_ble_eq_true hn;have aly:(ps.map λ(p:Nat×Operand)=>(p.1,a.eval p.2)).toList=ps.toList.map λp=>(p.1,a.eval p.2):=aR
  have KK:fZ F γ zd.cs z.cells.toList:=by
   have:=Ar Wj ho F
   have hfl:zd.flat=true:=by
    rw[<-Wj]at hz |-;unfold Bh at hz |-
    split
    .rfl
    .rename_i h'
     by_cases h1:(oE z).one=true
     .cases hc:oE z <;> simp_all [DV.flat,DV.one]
     .cases hc:oE z <;> simp_all [DV.flat,DV.one,DV.cs,oE]
   exact(CV this HD.no hfl).mono (lJ.refl _) (nW.no _)
  have aoI:fZ F γ (List.replicate n zd.cs).flatten (madeCells z.cells (n*z.cells.size)).toList:=by
   rw[pU _ VN];clear hn hle hf hk ZF
   induction n with
   |zero=>simp[fZ]
   |succ n ih=>rw[List.replicate_succ,List.replicate_succ,List.flatten_cons,List.flatten_cons];exact KK.append ih
  obtain⟨cs,r1,r2⟩:=Je hs.ws.gone (λi=>some (i*sz,sz)) ((List.range n).map λi=>(i*sz,sz)) AX (ps.toList.map λp=>(p.1,a.eval p.2)) _ _ _ Vw VS (λi _ q h=>by
   rw[List.getElem?_map]at h;cases hr:(List.range n)[i]? with
   |none=>rw[hr]at h;cases h
   |some j=>
    rw[hr]at h
    have:j=i:=by
     obtain⟨_,e⟩:=List.getElem?_eq_some_iff.1 hr;simpa using e.symm
    subst this;exact h) aoI hf
  have hE:=abu (F:=F) (γ:=γ) Ao r2;have Em:=hE.len;rw[List.length_map,ZF,Array.length_toList]at Em
  have kp:(execOp a.eval ⟨some t,.buildSlice T n ps,ty,pos,af,none⟩).run P w = .ok (.value (.slice (some ⟨w.heap.size,0,none⟩) n n)) (w.alloc (.cells cs e)):=by
   have hno:¬2^24<n*sz:=by
    have:(2:Nat)^24=16777216:=rfl;omega
   have hr1:Instr.fill (λi=>some (i*sz,sz)) (madeCells z.cells (n*sz)) (ps.toList.map λp=>(p.1,a.eval p.2))=some cs:=by rw[<-GA]at r1 |-;exact r1
   by_cases h0:n*sz=0
   .have hz0:madeCells z.cells (n*sz) = #[]:=by rw[h0];simp[madeCells]
    rw[hz0]at hr1;simp only[execOp,Instr.buildSlice,Sem.run_bind,run_underlying wM.under w,Result.andThen_ok,hT.size,Sem.run_pure,h0];simp[aly,hr1,newRow,show(Array.map (λ_=>(default:Value)) (Array.range 0)) = #[] from Array.eq_empty_of_size_eq_zero aR]
   .have hzv:(zeroValue e).run P w = .ok z w:=by simp[zeroValue,typeInfo,hi,Yv]
    simp only[execOp,Instr.buildSlice,Sem.run_bind,run_underlying wM.under w,Result.andThen_ok,hT.size,Sem.run_pure];simp only[madeCells]at hr1;simp[hno,h0,hzv,aly,hr1,newRow]
  refine⟨_,_,F,γ.up t (.slice (some ⟨w.heap.size,0,none⟩) n n),kp,lJ.refl _,pF _ (hs.ws.fresh htn),?_,?_⟩
  .refine hs.ws.Ah htn _ (λb hb=>adE) ?_
   refine⟨cs.toList,⟨by rw[Array.length_toList,Em,List.length_map,ZF],.inr ⟨w.heap.size,n,cs,by rw[List.length_map,ZF],Nat.zero_le _,heap_alloc_new w _,by rw[List.length_map,ZF];exact Nat.le_refl _,?_,Em,?_⟩⟩,hE⟩
   .have hp:=wM.pos
    have:n<=n*sz:=Nat.le_mul_of_pos_right n hp;unfold maxLen;omega
   .rw[List.length_map,ZF,<-Em];exact List.take_of_length_le (by rw[Array.length_toList];exact Nat.le_refl _)
  .simp only[Rs];exact uu _ _ _
theorem ai0{C:Ctx}{F:dj}{γ:eD}{σ':AS}{a:Act}{w:World}(hs:Sat C F γ σ' a w){id i sz o E:Nat}{eC:List DV}{d:DV}{v:Value}(hv:Rs F γ (.rp id i sz o) v)(hh:cF σ'.heap id=some (.row E sz eC))(hd:eC[i]? = some d) :
  ∃b n c cur vs vd,v = .pointer (some ⟨b,i*sz+o,none⟩)∧γ id=some (.slice (some ⟨b,0,none⟩) n c)∧w.heap[b]? = some (.cells cur E (0,0))∧n=eC.length∧n<=c∧c<=maxLen∧cur.size=c*sz∧cur.toList.take (n*sz)=vs∧rm F sz eC vs ∧
   (vs.drop (i*sz)).take sz=vd.cells.toList∧vd.cells.size=sz∧(∀u∈vd.cells.toList,u.oneCell'=true)∧Rs F eD.no d vd:=by
 obtain⟨g,hg,vs,ho,hE⟩:=hs.ws.si id _ hh;obtain⟨b,n,c,hgb,e⟩:=hv;rw[hg]at hgb;injection hgb with hgb;subst hgb
 rcases ho.2 with⟨h1,h0⟩|⟨b',cap,cur,h1,_,hb,r1,r2,r3,r4⟩
 .cases h1
 .injection h1 with q1 q2 q3
  injection q1 with q1;injection q1 with q1 _ _
  subst q1;subst q2;subst q3;obtain⟨vd,p1,p2,p3,p4⟩:=hE.get hd;exact⟨b,_,_,cur,vs,vd,e,hg,hb,rfl,r1,r2,r3,r4,hE,p1,p2,p3,p4⟩
theorem RB{T':TypeId}{x:Operand}{id i sz o E:Nat}{eC:List DV}{d r:DV}(hx:ev σ.env x=some (.rp id i sz o))(hh:cF σ.heap id=some (.row E sz eC))(hd:eC[i]? = some d)(hf:d.flat=true)(hl:Cp P T' (d.cs.drop o) r) :
  dH P ops ⟨some t,.load T' x,ty,pos,af,none⟩ (tm x) [id] σ ⟨[(t,r)],[],[]⟩ :=
 dH.val rfl rfl λC F γ σ' a w h1 h2 hs=>by
  have k1:=hs.ev ((cP h1 (λ_ h=>h)).trans hx);obtain⟨b,n,c,cur,vs,vd,e,hg,hb,rfl,r1,r2,r3,r4,hE,p1,p2,p3,p4⟩:=ai0 hs k1 ((h2 id aR).trans hh) hd
  have my:i<eC.length:=by
   rcases Nat.lt_or_ge i eC.length with h|h
   all_goals simp_all
  have BW:=CV p4 HD.no hf
  have hr:w.rangeAt b (i*sz+o) (vd.cells.toList.drop o):=by
   intro j v hv;rw[List.getElem?_drop]at hv
   have hj:o+j<sz:=by
    have:=(List.getElem?_eq_some_iff.1 hv).1
    simp_all
   rw[<-p1,List.getElem?_take,if_pos hj,List.getElem?_drop]at hv;rw[<-r4,List.getElem?_take]at hv;have hm:(i+1)*sz<=eC.length*sz:=Nat.mul_le_mul_right _ my;rw[Nat.succ_mul]at hm;rw[if_pos ah]at hv;rw[cell_of_row w b _ cur E (0,0) hb];rw[Nat.add_assoc];simp_all
  obtain⟨v,q1,q2,_⟩:=Jc hl hr (BW.drop o);exact⟨v,by simp[execOp,e,Instr.loadAt,Instr.sureAddr,q1],q2.mono (lJ.refl _) (nW.no _)⟩
theorem Zm{T':TypeId}{x:Operand}{id i sz o E:Nat}{eC:List DV}{d r:DV}[hT:qe P T'](hx:ev σ.env x=some (.rp id i sz o))(hh:cF σ.heap id=some (.row E sz eC))(hd:eC[i]? = some d)(hf:d.flat=true)(hl:d.cs[o]? = some r) :
  dH P ops ⟨some t,.load T' x,ty,pos,af,none⟩ (tm x) [id] σ ⟨[(t,r)],[],[]⟩:=RB hx hh hd hf (.sc hT.h eJ)
theorem Zn{T':TypeId}{x:Operand}{id i sz o E n:Nat}{eC vN:List DV}{d:DV}[hT:jM P T' n](hx:ev σ.env x=some (.rp id i sz o))(hh:cF σ.heap id=some (.row E sz eC))(hd:eC[i]? = some d)(hf:d.flat=true)(hn:Nat.ble n (d.cs.drop o).length=true)(hl:(d.cs.drop o).take n=vN) :
  dH P ops ⟨some t,.load T' x,ty,pos,af,none⟩ (tm x) [id] σ ⟨[(t,.agg vN)],[],[]⟩:=RB hx hh hd hf (.row n hT.h (Nat.le_of_ble_eq_true hn) (by rw[hl]))
theorem Zj{T':TypeId}{x y:Operand}{id i sz o E n:Nat}{eC:List DV}{d dn e':DV}[hT:dM P T' n](hx:ev σ.env x=some (.rp id i sz o))(hy:ev σ.env y=some dn)(hh:cF σ.heap id=some (.row E sz eC))(hd:eC[i]? = some d)(hf:d.flat=true)(hfn:dn.flat=true)(hn:Nat.beq n dn.cs.length=true)
  (PX:dn.ids = []) (hl:Nat.ble (o+n) sz=true) (he:e'.flat=true) (afF:vR d.cs o dn.cs=e'.cs) (yl:0<n) :
  dH P ops ⟨none,.store T' x y,ty,pos,af,none⟩ (tm x++tm y) [id] σ ⟨[],[(id,some (.row E sz (eC.set i e')))],[]⟩ :=
 dH.skip rfl rfl λC F γ σ' a w h1 h2 hs=>by
  obtain⟨k1,k2⟩:=AQ hs h1 hx hy;have tg:=(h2 id aR).trans hh;obtain⟨b,m,c,cur,vs,vd,e,hg,hb,rfl,r1,r2,r3,r4,hE,p1,p2,p3,p4⟩:=ai0 hs k1 tg hd
  have my:i<eC.length:=by
   rcases Nat.lt_or_ge i eC.length with h|h
   all_goals simp_all
  have kc:=CV k2 hs.ws.gone hfn;have hn':n=dn.cs.length:=Nat.eq_of_beq_eq_true hn;have hlen:=kc.len;have hle:=Nat.le_of_ble_eq_true hl;have hm:(i+1)*sz<=eC.length*sz:=Nat.mul_le_mul_right _ my;rw[Nat.succ_mul]at hm;have hmc:eC.length*sz<=c*sz:=Nat.mul_le_mul_right _ r1;have avp:(a.eval y).cells.size=n:=eJ;have kp:=Ew (P:=P) (o:=i*sz+o) T' (a.eval y) hb (by rw[hT.h,avp]) ah kc.one;obtain⟨s1,s2⟩:=uF.setRow (lay cur (i*sz+o) (a.eval y).cells.toList) hb;refine⟨_,aeM,?_⟩;have W:=hs.ws.GQ tg hg adW
  -- the element's new value
  have ZF:vd.cells.toList.length=sz:=ah
  have mz:fZ F eD.no (vR d.cs o dn.cs) (vd.cells.toList.take o++(a.eval y).cells.toList++vd.cells.toList.drop (o+n)):=by
   have BW:=CV p4 HD.no hf;rw[vR,<-hn']
   exact((BW.take o).append (Gx _ _ (by
    have:vv dn.cs=dn.ids:=by
     cases dn <;> simp[DV.cs,DV.ids,vv]
    simp_all) kc)).append (BW.drop _)
  rw[afF]at mz;obtain⟨ve,ve1,ve2⟩:=KD he mz;have hyl:(a.eval y).cells.toList.length=n:=ah
  have avs:ve.cells.size=sz:=by
   have:ve.cells.toList.length=sz:=by rw[ve1];simp[hyl,ZF];omega
   simpa using this
  have aoJ:=hE.set my avs (by rw[ve1];exact mz.one) ve2;have W2:=W.put (id0:=id) (e0:=.row E sz (eC.set i e')) hg ⟨_,⟨?_,.inr ⟨b,c,_,aR,Nat.zero_le _,s2,PA,r2,?_,?_⟩⟩,aoJ⟩ (λb' je=>?_)
  .exact W2.congr (λi e hi=>wB id _ _ i e hi) (λ_ h=>h)
  .have:=aoJ.len;simpa using this
  .rw[acI ah];exact r3
  . -- the cells
   have Em:cur.toList.length=c*sz:=ah;rw[List.length_set,AL,ve1,hyl,<-p1,<-r4,Nat.succ_mul];exact Rf cur.toList _ hyl hle ah ah
  .have ho:=hs.ws.own id _ _ b' tg hg je
   refine⟨ho.1,ho.2,λi e g nq hi Tf Th=>?_⟩;rw[cH]at hi
   split at hi
   .cases hi
   .exact nq (hs.ws.apart i id e _ g _ b' hi tg Tf hg Th je)
end
end Go.Proofs.YtaafmkmdfcgeaaaGreatDoor
/-! ### part O -/
/-
 My engine,part O: states that hold others.
-/
namespace Go.Proofs.YtaafmkmdfcgeaaaGreatDoor
open Go.RowKit
inductive Cq(f:Nat->Nat)(e:List (Nat×DV)):List (Nat×DV)->Prop
 |nil:Cq f e []
 |cons {t:Nat} {d d':DV} {r:List (Nat×DV)} (h:look e t=some d) (hle:iy d (d'.xT f)) (k:Cq f e r):Cq f e ((t,d')::r)
inductive HLe:HE->HE->Prop
 |refl (e:HE):HLe e e
 |bJ {T:TypeId} {ds vN:List DV} (h:lH ds vN):HLe (.bJ T ds) (.bJ T vN)
 |TE {E:TypeId} {sz:Nat} {eC:List DV}:HLe (.row E sz eC) (.TE E sz eC)
theorem HLe.si{F:dj}{γ:eD}{w:World}{e e':HE}(h:HLe e e'){g:Value}(k:Gy F γ w e g):Gy F γ w e' g:=by
 cases h with
 |refl=>exact k
 |bJ h=>obtain⟨b,cs,k1,k2,k3⟩:=k;exact⟨b,cs,k1,k2,h.rsL k3⟩
 | @TE E sz eC=>
  obtain⟨vs,ho,hE⟩:=k;rcases ho.2 with⟨h1,h0⟩|⟨b,cap,cur,h1,_,hb,r1,r2,r3,r4⟩
  .exact .inl ⟨h1,List.eq_nil_of_length_eq_zero h0⟩
  .exact .inr ⟨b,0,cap,cur,h1,hb,r1,r2,ah,eJ⟩
inductive xK(f:Nat->Nat)(h:eW):eW->Prop
 |nil:xK f h []
 |cons {i:Nat} {e e':HE} {r:eW} (he:cF h (f i)=some e) (hle:HLe e (e'.xT f)) (k:xK f h r):xK f h ((i,some e')::r)
theorem Cq.spec{f:Nat->Nat}{e e':List (Nat×DV)}(h:Cq f e e'):∀t d',look e' t=some d'->∃d,look e t=some d∧iy d (d'.xT f):=by
 induction h with
 |nil=>intro t d' h;simp[look]at h
 |cons h hle k ih=>
  intro t d' hd;rw[eK]at hd
  grind
theorem xK.spec{f:Nat->Nat}{h h':eW}(k:xK f h h'):∀i e',cF h' i=some e'->∃e,cF h (f i)=some e∧HLe e (e'.xT f):=by
 induction k with
 |nil=>intro i e he;simp[cF,look]at he
 |cons he hle k ih=>
  intro i e hi;rw[cH]at hi
  grind
def Hj(x:Nat)(l:List Nat):Bool:=l.any (Nat.beq x)
def NY(f:Nat->Nat)(u u':List Nat):Bool:=u.all λi=>Nat.blt i 9000||(Nat.beq (f i) i&&Hj i u')
def RN(σ:AS):Bool:=(σ.env.all λp=>p.2.ids.all λi=>Hj i σ.used)&&(σ.heap.all λp=>Hj p.1 σ.used&&match p.2 with
 |some e=>e.ids.all λi=>Hj i σ.used
 |none=>true)
theorem jP.of{σ σ':AS}(f:Nat->Nat)(he:Cq f σ.env σ'.env)(hh:xK f σ.heap σ'.heap)(hu:NY f σ.used σ'.used=true)(hi:zx f (σ'.heap.map (·.1))=true)(hc:RN σ'=true):jP σ σ':=by
 intro C F γ a w hs;simp only[RN,Bool.and_eq_true,List.all_eq_true]at hc
 let γ':eD:=λi=>if i∈σ'.used then γ (f i)else none
 have LQ:∀{i},i∈σ'.used->γ (f i)=γ' i:=λh=>(if_pos h:γ' _=γ (f _)).symm
 have mem:∀{i e},cF σ'.heap i=some e->i∈σ'.used:=λh=>any_beq (hc.2 _ (xk h)).1
 have aoK:∀{i e},cF σ'.heap i=some e->i∈σ'.heap.map (·.1):=λh=>List.mem_map.2 ⟨_,xk h,rfl⟩
 have avt:∀{i e},cF σ'.heap i=some e->∀x∈e.ids,γ (f x)=γ' x:=λh x hx=>LQ (any_beq (by
  have:=(hc.2 _ (xk h)).2;simp only[List.all_eq_true]at this;exact this x hx))
 have inj:=Fe hi;refine⟨F,γ',λt d hd=>?_,?_,hs.size,hs.defers⟩
 .obtain⟨d0,h1,h2⟩:=he.spec t d hd
  have:=hs.env t d0 h1;refine⟨this.1,(KC f d _ (λx hx=>LQ (any_beq (hc.1 _ (yJ hd) x hx)))).1 (h2 _ _ _ this.2)⟩
 .exact {
   si:=λi e h=>by
    obtain⟨e0,h1,h2⟩:=hh.spec i e h;obtain⟨g,k1,k2⟩:=hs.ws.si _ _ h1;exact⟨g,(LQ (mem h)).symm.trans k1,(PU f (avt h)).1 (h2.si k2)⟩
   own:=λi e g b h hg hb=>by
    obtain⟨e0,h1,h2⟩:=hh.spec i e h;exact hs.ws.own _ e0 g b h1 ((LQ (mem h)).trans hg) hb
   apart:=λi j e e' g g' b h h' hg oV hb je=>by
    obtain⟨e0,h1,_⟩:=hh.spec i e h;obtain⟨e1,h1',_⟩:=hh.spec j e' h';exact inj i (aoK h) j (aoK h') (hs.ws.apart _ _ e0 e1 g g' b h1 h1' ((LQ (mem h)).trans hg) ((LQ (mem h')).trans oV) hb je)
   fs:=hs.ws.fs,f0:=hs.ws.f0,rj:=hs.ws.rj,os:=hs.ws.os,tape:=hs.ws.tape,output:=hs.ws.output,size:=hs.ws.size,qh:=hs.ws.qh
   us:=λi g h=>by
    simp only[γ']at h
    split at h
    .assumption
    .cases h
   gone:=λi g h=>by
    simp only[γ']at h
    split at h
    .exact hs.ws.gone _ _ h
    .cases h
   g0:=λi g h=>by
    have h1:=hs.ws.g0 i g h;have h2:=hs.ws.gk i g h;have h3:=List.all_eq_true.1 hu i (hs.ws.us i g h1);simp only[Bool.or_eq_true,Bool.and_eq_true,Nat.blt_eq]at h3;rcases h3 with h3|⟨h3,h4⟩
    .omega
    .have e:f i=i:=Nat.eq_of_beq_eq_true h3
     rw[<-LQ (any_beq h4),e];exact h1
   gk:=hs.ws.gk,kn:=hs.ws.kn }
theorem yp{σ:AS}{t id:Nat}(E sz:Nat)(ht:look σ.env t=some .cu)(hi:Hj id σ.used=false):jP σ ⟨(t,.row id)::σ.env,(id,some (.row E sz []))::σ.heap,id::σ.used⟩:=λC F γ a w hs=>by
 have hn:id ∉ σ.used:=λh=>by
  have:Hj id σ.used=true:=List.any_eq_true.2 ⟨id,h,aR⟩
  simp_all
 have hle:=pF (.slice none 0 0) (hs.ws.fresh hn);have W:=hs.ws.add hn (e0:=.row E sz []) (g:=.slice none 0 0) ⟨[],OK _ _ _ _,dF⟩ (λb hb=>by simp[fA]at hb);refine⟨F,_,λt' d hd=>?_,W,hs.size,hs.defers⟩;rw[eK]at hd;have h0:=hs.env t _ ht
 split at hd
 .rename_i e1;subst e1;injection hd with hd;subst hd
  refine⟨h0.1,?_⟩;have:=h0.2;rw[this];exact uu _ _ _
 .exact⟨(hs.env t' d hd).1,(hs.env t' d hd).2.mono (lJ.refl _) hle⟩
mutual
def DV.ZJ(id sz:Nat)(eC:List DV):DV->DV
 |.row i=>bif Nat.beq i id then .sl sz eC else .row i
 |.agg ds=>.agg (Ke id sz eC ds)
 |.gh ds=>.gh (Ke id sz eC ds)
 |.FD b d=>.FD b (d.ZJ id sz eC)
 |.CG f ds=>.CG f (Ke id sz eC ds)
 |.int k n=>.int k n
 |.bool b=>.bool b
 |.str s=>.str s
 |.val v=>.val v
 |.cu=>.cu
 |.sl s e=>.sl s e
 |.fs s e=>.fs s e
 |.iv ds=>.iv ds
 |.ref i o=>.ref i o
 |.rp i j s o=>.rp i j s o
 |.sp i j s o=>.sp i j s o
 |.Nw i o n=>.Nw i o n
 |.rv i l n z=>.rv i l n z
 |.np i o=>.np i o
def Ke(id sz:Nat)(eC:List DV):List DV->List DV
 |[]=>[]
 |d::ds=>d.ZJ id sz eC::Ke id sz eC ds
end
mutual
theorem PJ{F F':dj}{γ:eD}{id sz:Nat}{eC:List DV}(hF:lJ F F')(h:∀v,γ id=some v->Rs F' γ (.sl sz eC) v):∀(d:DV) (v:Value),Rs F γ d v->Rs F' γ (d.ZJ id sz eC) v
 |.row i,v,hd=>by
  simp only[Rs]at hd;simp only[DV.ZJ]
  by_cases e:i=id
  .subst e
   have:Nat.beq i i=true:=aR;rw[this];exact h v hd
  .have:Nat.beq i id=false:=by rw[Bool.eq_false_iff];intro e';exact e (Nat.eq_of_beq_eq_true e')
   rw[this];simp only[cond_false,Rs];exact hd
 |.agg ds,v,hd=>by simp only[Rs,DV.ZJ]at hd |-;obtain⟨cs,rfl,hd⟩:=hd;exact⟨cs,rfl,PM hF h ds _ hd⟩
 |.gh ds,v,hd=>ajr
 |.FD b d,v,hd=>by simp only[Rs,DV.ZJ]at hd |-;exact⟨λe=>PJ hF h d v (hd.1 e),hd.2⟩
 |.CG f ds,v,hd=>ajr
 |.int k n,v,hd=>hd.mono hF (nW.refl _)
 |.bool b,v,hd=>hd.mono hF (nW.refl _)
 |.str s,v,hd=>hd.mono hF (nW.refl _)
 |.val x,v,hd=>hd.mono hF (nW.refl _)
 |.cu,v,hd=>hd.mono hF (nW.refl _)
 |.sl s e,v,hd=>hd.mono hF (nW.refl _)
 |.fs s e,v,hd=>hd.mono hF (nW.refl _)
 |.iv ds,v,hd=>hd.mono hF (nW.refl _)
 |.ref i o,v,hd=>hd.mono hF (nW.refl _)
 |.rp i j s o,v,hd=>hd.mono hF (nW.refl _)
 |.sp i j s o,v,hd=>hd.mono hF (nW.refl _)
 |.Nw i o n,v,hd=>hd.mono hF (nW.refl _)
 |.rv i l n z,v,hd=>hd.mono hF (nW.refl _)
 |.np i o,v,hd=>hd.mono hF (nW.refl _)
theorem PM{F F':dj}{γ:eD}{id sz:Nat}{eC:List DV}(hF:lJ F F')(h:∀v,γ id=some v->Rs F' γ (.sl sz eC) v):∀(ds:List DV) (vs:List Value),fZ F γ ds vs->fZ F' γ (Ke id sz eC ds) vs
 |[],vs,hd=>by simp only[fZ,Ke]at hd |-;exact hd
 |d::ds,vs,hd=>by
  simp only[fZ,Ke]at hd |-;obtain⟨v,rest,h1,h2,h3,h4⟩:=hd;exact⟨v,rest,h1,h2,PJ hF h d v h3,PM hF h ds _ h4⟩
theorem Yn{F F':dj}{γ:eD}{id sz:Nat}{eC:List DV}(hF:lJ F F')(h:∀v,γ id=some v->Rs F' γ (.sl sz eC) v):∀(ds:List DV) (vs:List Value),tQ F γ ds vs->tQ F' γ (Ke id sz eC ds) vs
 |[],vs,hd=>by simp only[tQ,Ke]at hd |-;exact hd
 |d::ds,vs,hd=>by
  simp only[tQ,Ke]at hd |-;obtain⟨v,rest,h1,h3,h4⟩:=hd;exact⟨v,rest,h1,PJ hF h d v h3,Yn hF h ds _ h4⟩
end
def HE.ZJ(id sz:Nat)(eC:List DV):HE->HE
 |.bJ T ds=>.bJ T (Ke id sz eC ds)
 |.row E s e=>.row E s e
 |.obj o=>.obj o
 |.mp l=>.mp l
 |.TE E sz eC=>.TE E sz eC
 |.it DL n seen=>.it DL n seen
def acS(id sz:Nat)(eC:List DV)(e:List (Nat×DV)):List (Nat×DV):=e.map λp=>(p.1,p.2.ZJ id sz eC)
def ZI(id sz:Nat)(eC:List DV)(h:eW):eW:=h.map λp=>(p.1,p.2.map (HE.ZJ id sz eC))
theorem Dl{α β:Type}(g:α->β):∀(l:List (Nat×α)) (t:Nat),look (l.map λp=>(p.1,g p.2)) t=(look l t).map g
 |[],t=>rfl
 |(k,x)::l,t=>by
  rw[List.map_cons,eK,eK,Dl g l t]
  split <;> rfl
theorem jP.freeze{σ:AS}{id E sz:Nat}{eC:List DV}(hh:cF σ.heap id=some (.row E sz eC)):jP σ ⟨acS id sz eC σ.env,(id,none)::ZI id sz eC σ.heap,σ.used⟩:=λC F γ a w hs=>by
 obtain⟨g,hg,_⟩:=hs.ws.si id _ hh;obtain⟨F',f1,f2,f3⟩:=hs.ws.freeze hh hg;have h:∀v,γ id=some v->Rs F' γ (.sl sz eC) v:=λv hv=>eJ
 refine⟨F',γ,λt d hd=>?_,?_,hs.size,hs.defers⟩
 .simp only[acS]at hd
  rw[Dl (λd=>DV.ZJ id sz eC d)]at hd;cases hl:look σ.env t with
  |none=>simp_all
  |some d0=>
   rw[hl]at hd;injection hd with hd;subst hd
   exact⟨(hs.env t d0 hl).1,PJ f1 h d0 _ (hs.env t d0 hl).2⟩
 .have key:∀i e,cF ((id,none)::ZI id sz eC σ.heap) i=some e->∃e0,cF ((id,none)::σ.heap) i=some e0∧e=e0.ZJ id sz eC:=by
   intro i e hi;rw[cH]at hi |-
   split at hi
   .cases hi
   .unfold cF at hi |-
    simp only[ZI]at hi;rw[Dl (λx=>Option.map (HE.ZJ id sz eC) x)]at hi;cases hl:look σ.heap i with
    |none=>simp_all
    |some x=>
     rw[hl]at hi;cases x with
     |none=>simp at hi
     |some e0=>
      simp_all
  exact {
   si:=λi e hi=>by
    obtain⟨e0,k1,rfl⟩:=key i e hi
    have k0:cF σ.heap i=some e0:=by
     rw[cH]at k1
     simp_all
    obtain⟨g',q1,q2⟩:=hs.ws.si i e0 k0;refine⟨g',q1,?_⟩;cases e0 with
    |bJ T ds=>obtain⟨b,cs,r1,r2,r3⟩:=q2;exact⟨b,cs,r1,r2,PM f1 h ds _ r3⟩
    |row E' s e'=>obtain⟨vs,r1,r2⟩:=q2;exact⟨vs,r1,r2.mono f1⟩
    |obj o=>exact q2
    |mp l=>obtain⟨b,es,ck,r1,r2,r3,r4⟩:=q2;exact⟨b,es,ck,r1,r2,r3.mono f1,r4⟩
    |TE E sz eC=>
     rcases q2 with q2|⟨b,off,c,cur,r1,r2,r3,r4,r5,r6⟩
     .exact .inl q2
     .exact .inr ⟨b,off,c,cur,r1,r2,r3,r4,r5,r6.mono f1⟩
    |it DL n seen=>exact q2
   own:=λi e g' b hi=>by obtain⟨e0,k1,_⟩:=key i e hi;exact f2.own i e0 g' b k1
   apart:=λi j e e' g1 g2 b hi hj=>by
    obtain⟨e0,k1,_⟩:=key i e hi;obtain⟨e1,k2,_⟩:=key j e' hj;exact f2.apart i j e0 e1 g1 g2 b k1 k2
   fs:=f2.fs,f0:=f2.f0,rj:=f2.rj,os:=f2.os,tape:=f2.tape,output:=f2.output,size:=f2.size,qh:=f2.qh,us:=f2.us,gone:=f2.gone,g0:=f2.g0,gk:=f2.gk,kn:=f2.kn }
end Go.Proofs.YtaafmkmdfcgeaaaGreatDoor
/-! ### part P -/
/-
 My engine,part P: pointers against nil.
-/
namespace Go.Proofs.YtaafmkmdfcgeaaaGreatDoor
open Go.RowKit
class Ek(P:Program)(t:TypeId):Prop where
 h:∃e,P.underlying t=some (.pointer e)
section
variable {P:Program} {ops:Array Oper} {σ:AS} {t:Nat} {ty:TypeId} {pos:String} {af:Array Edge}
theorem JF{T:TypeId}[hT:Ek P T](a:Option Addr)(w:World):(Op.equal T (.pointer a) (.pointer none)).run P w = .ok a.isNone w:=by
 obtain⟨e,he⟩:=hT.h;have:∀n,(Op.equalIn (n+1) T (.pointer a) (.pointer none)).run P w = .ok a.isNone w:=λn=>by cases a <;> simp[Op.equalIn,run_underlying he]
 exact this 9999
theorem Dd{T T':TypeId}[hT:Ek P T]{a:Act}{x:Operand}{A:Option Addr}(hx:a.eval x = .pointer A)(w:World):(execOp a.eval ⟨some t,.binOp .eql T x (.const (.pointer none)) T',ty,pos,af,none⟩).run P w = .ok (.value (.bool A.isNone)) w:=by
 have e0:a.eval (.const (.pointer none)) = .pointer none:=rfl;have e:binOp .eql T (.pointer A) (.pointer none)=(do pure (.bool (<-Op.equal T (.pointer A) (.pointer none)))):=dF;have e2:eqGuard .eql T x (.const (.pointer none)) (.pointer A) (.pointer none)=pure ():=rfl;simp only[execOp,hx,e0,e,e2,Sem.run_bind,Sem.run_pure,Result.andThen_ok,JF]
theorem HR{T T':TypeId}[hT:Ek P T]{a:Act}{x:Operand}{A:Option Addr}(hx:a.eval x = .pointer A)(w:World):(execOp a.eval ⟨some t,.binOp .neq T x (.const (.pointer none)) T',ty,pos,af,none⟩).run P w = .ok (.value (.bool (!A.isNone))) w:=by
 have e0:a.eval (.const (.pointer none)) = .pointer none:=rfl;have e:binOp .neq T (.pointer A) (.pointer none)=(do pure (.bool (!(<-Op.equal T (.pointer A) (.pointer none))))):=dF;have e2:eqGuard .neq T x (.const (.pointer none)) (.pointer A) (.pointer none)=pure ():=rfl;simp only[execOp,hx,e0,e,e2,Sem.run_bind,Sem.run_pure,Result.andThen_ok,JF]
theorem acj{T T':TypeId}[hT:Ek P T]{x:Operand}{id off:Nat}(hx:ev σ.env x=some (.ref id off)):dH P ops ⟨some t,.binOp .eql T x (.const (.pointer none)) T',ty,pos,af,none⟩ (tm x) [] σ ⟨[(t,.bool false)],[],[]⟩ :=
 dH.val rfl rfl λC F γ σ' a w h1 h2 hs=>by
  have k1:=hs.ev ((cP h1 (λ_ h=>h)).trans hx);obtain⟨b,hg,e⟩:=k1;exact⟨_,Dd e w,dF⟩
theorem aci{T T':TypeId}[hT:Ek P T]{x:Operand}{id off:Nat}(hx:ev σ.env x=some (.ref id off)):dH P ops ⟨some t,.binOp .neq T x (.const (.pointer none)) T',ty,pos,af,none⟩ (tm x) [] σ ⟨[(t,.bool true)],[],[]⟩ :=
 dH.val rfl rfl λC F γ σ' a w h1 h2 hs=>by
  have k1:=hs.ev ((cP h1 (λ_ h=>h)).trans hx);obtain⟨b,hg,e⟩:=k1;exact⟨_,HR e w,dF⟩
theorem ack{T T':TypeId}[hT:Ek P T]{x:Operand}(hx:ev σ.env x=some (.val (.pointer none))):dH P ops ⟨some t,.binOp .eql T x (.const (.pointer none)) T',ty,pos,af,none⟩ (tm x) [] σ ⟨[(t,.bool true)],[],[]⟩ :=
 dH.val rfl rfl λC F γ σ' a w h1 h2 hs=>by
  have k1:=hs.ev ((cP h1 (λ_ h=>h)).trans hx);exact⟨_,Dd k1 w,dF⟩
theorem JM{f:FuncId}{xs:Array Operand}{ds:List DV}(hx:KW σ.env xs.toList=some ds):dH P ops ⟨some t,.makeFunc (.func f) #[] xs,ty,pos,af,none⟩ (xs.toList.flatMap tm) [] σ ⟨[(t,.CG f ds)],[],[]⟩ :=
 dH.val rfl rfl λC F γ σ' a w h1 h2 hs=>by
  have k1:=hs.evs ((yi h1 (λ_ h=>h)).trans hx);refine⟨.func (.func f) #[] (xs.map a.eval),by simp[execOp,Instr.makeFunc],?_⟩;simp only[Rs]
  simp_all
inductive Fv(pre:eW):eW->Prop
 |nil:Fv pre []
 |cons {i:Nat} {e:HE} {r:eW} (h:cF pre i=some e) (k:Fv pre r):Fv pre ((i,some e)::r)
theorem Fv.spec{pre r:eW}(k:Fv pre r):∀p∈r,∃e,p.2=some e∧cF pre p.1=some e:=by
 induction k with
 |nil=>simp
 |cons h k ih=>
  simp_all
theorem uI(a b:eW)(i:Nat):cF (a++b) i=match look a i with
  |some x=>x
  |none=>cF b i:=by
 unfold cF;rw[gK];cases look a i with
 |none=>rfl
 |some x=>cases x <;> rfl
theorem Xf{dx:DV}{fn:FuncId}[hf:dg P fn]{x:Operand}{DN:List DV}{xs:Array Operand}{ats:Array TypeId}{K:TZ}(f:Nat->Nat)(n:Nat)(hc:gY P fn K){ds:List DV}(hx:ev σ.env x=some dx)(hdx:iy dx (.CG fn DN))(ha:KW σ.env xs.toList=some ds)(hle:lH (ds++DN) (yC f K.args))(rS:xN f σ.heap K.pre)(hi:zx f (K.pre.map (·.1)++K.new)=true)(QJ:Fv K.pre (K.post.drop n)) :
  dH P ops ⟨some t,.call ⟨.value x,xs,ats⟩,ty,pos,af,none⟩ (tm x++xs.toList.flatMap tm) (K.pre.map (λp=>f p.1)) σ ⟨[(t,K.res.xT f)],sN f (K.post.take n),K.new.map f⟩:=by
 intro C F γ σ' a w h1 h2 h3 h4 hs K' Q hK;have kx:=hdx _ _ _ (hs.ev ((cP h1 (λ_ h=>List.mem_append_left _ h)).trans hx));obtain⟨cs,ex,BW⟩:=kx;have ka:=hs.evs ((yi h1 (λ_ h=>List.mem_append_right _ h)).trans ha)
 have kp:(execOp a.eval ⟨some t,.call ⟨.value x,xs,ats⟩,ty,pos,af,none⟩).run P w = .ok (.enter fn (xs.map a.eval++cs)) w:=by
  simp[execOp,resolve,ex,Deferred.ofValue,invoke,xS]
 refine wO (λc hc=>by cases hc) kp ?_
 have hv:tQ F γ (ds++DN) (xs.toList.map a.eval++cs.toList):=by
  have gen:∀{d1 d2:List DV} {v1 v2:List Value},tQ F γ d1 v1->tQ F γ d2 v2->tQ F γ (d1++d2) (v1++v2):=by
   intro d1
   induction d1 with
   |nil=>intro d2 v1 v2 q1 q2;rw[q1];exact q2
   |cons d d1 ih=>
    intro d2 v1 v2 q1 q2;obtain⟨v,rest,rfl,q3,q4⟩:=q1;exact⟨v,rest++v2,rfl,q3,ih q4 q2⟩
  simp_all
 have e:(xs.toList.map a.eval++cs.toList).toArray=xs.map a.eval++cs:=aR
 have Yw:∀i e,cF K.pre i=some e->cF σ'.heap (f i)=some (e.xT f):=λi e he=>by
  rw[h2 (f i) (List.mem_map.2 ⟨_,xk he,rfl⟩)];exact rS.spec i e he
 have:=hc C F γ σ'.heap σ'.used w _ f Yw (λi xW=>h3 (f i) (List.mem_map.2 ⟨i,xW,rfl⟩)) (Fe hi) hs.ws (hle.rsT hv);rw[e]at this;refine this.mono ?_;rintro e w' ⟨v,F',γ',rfl,k1,k2,k3,k4⟩;refine⟨v,rfl,hK F' γ' _ _ k1 ((hs.mono k1 k2 (k3.congr (λi e he=>?_) (λ_ h=>h))).put (h4 t rfl) k4)⟩
 have Wl:sN f K.post=sN f (K.post.take n)++sN f (K.post.drop n):=by
  unfold sN;simp
 rw[Wl,List.append_assoc,uI];rw[uI]at he;cases hl:look (sN f (K.post.take n)) i with
 |some y=>simp_all
 |none=>
  rw[hl]at he;rw[uI];cases hl2:look (sN f (K.post.drop n)) i with
  |none=>exact he
  |some y=>
   have hm:=yJ hl2;obtain⟨p,hp1,hp2⟩:=List.mem_map.1 hm;obtain⟨e0,q1,q2⟩:=QJ.spec p hp1;injection hp2 with r1 r2
   have:=Yw p.1 e0 q2
   simp_all
theorem ahd{fn:FuncId}[hf:dg P fn]{x:Operand}{DN:List DV}{xs:Array Operand}{ats:Array TypeId}{K:TZ}(f:Nat->Nat)(n:Nat)(hc:gY P fn K){ds:List DV}(hx:ev σ.env x=some (.CG fn DN))(ha:KW σ.env xs.toList=some ds)(hle:lH (ds++DN) (yC f K.args))(rS:xN f σ.heap K.pre)(hi:zx f (K.pre.map (·.1)++K.new)=true)(QJ:Fv K.pre (K.post.drop n)) :
  dH P ops ⟨some t,.call ⟨.value x,xs,ats⟩,ty,pos,af,none⟩ (tm x++xs.toList.flatMap tm) (K.pre.map (λp=>f p.1)) σ ⟨[(t,K.res.xT f)],sN f (K.post.take n),K.new.map f⟩:=Xf f n hc hx (iy.refl _) ha hle rS hi QJ
theorem ahe{fn:FuncId}[hf:dg P fn]{xs:Array Operand}{ats:Array TypeId}{K:TZ}(f:Nat->Nat)(n:Nat)(hc:gY P fn K){ds:List DV}(ha:KW σ.env xs.toList=some ds)(hle:lH ds (yC f K.args))(rS:xN f σ.heap K.pre)(hi:zx f (K.pre.map (·.1)++K.new)=true)(QJ:Fv K.pre (K.post.drop n)) :
  dH P ops ⟨some t,.call ⟨.value (.func fn),xs,ats⟩,ty,pos,af,none⟩ (xs.toList.flatMap tm) (K.pre.map (λp=>f p.1)) σ ⟨[(t,K.res.xT f)],sN f (K.post.take n),K.new.map f⟩:=by
 intro C F γ σ' a w h1 h2 h3 h4 hs K' Q hK;have:=ahh (ops:=ops) (σ:=σ) (t:=t) (ty:=ty) (pos:=pos) (af:=af) (xs:=xs) (ats:=ats) f hc ha hle rS hi C F γ σ' a w h1 h2 h3 h4 hs K' Q (λF' γ' a' w' hF jI=>hK F' γ' a' w' hF ?_)
 .exact this
 .refine jI.congr (λt d h=>h) (λi e he=>?_) (λ_ h=>h)
  have Yw:∀i e,cF K.pre i=some e->cF σ'.heap (f i)=some (e.xT f):=λi e he=>by
   rw[h2 (f i) (List.mem_map.2 ⟨_,xk he,rfl⟩)];exact rS.spec i e he
  simp only[AS.app]at he |-
  have Wl:sN f K.post=sN f (K.post.take n)++sN f (K.post.drop n):=by
   unfold sN;simp
  rw[Wl,List.append_assoc,uI];rw[uI]at he;cases hl:look (sN f (K.post.take n)) i with
  |some y=>simp_all
  |none=>
   rw[hl]at he;rw[uI];cases hl2:look (sN f (K.post.drop n)) i with
   |none=>exact he
   |some y=>
    have hm:=yJ hl2;obtain⟨p,hp1,hp2⟩:=List.mem_map.1 hm;obtain⟨e0,q1,q2⟩:=QJ.spec p hp1;injection hp2 with r1 r2
    have:=Yw p.1 e0 q2
    simp_all
class te(P:Program)(t:TypeId)(n:outParam Nat)(e:outParam TypeId)(sz:outParam Nat):Prop where
 u:P.underlying t=some (.array n e)
 s:(P.info? e).map (·.size)=some sz
theorem te.size{t n e sz:Nat}(h:te P t n e sz)(w:World):(sizeOf e).run P w = .ok sz w:=by
 have:=h.s;cases hq:P.info? e with
 |none=>simp_all
 |some i=>
  have hs:i.size=sz:=eJ;simp[sizeOf,typeInfo,hq,hs]
theorem Ey{T n e sz:Nat}[hT:te P T n e sz]{x y:Operand}{id off:Nat}{k:IntKind}{m:Int}(i:Nat)(hx:ev σ.env x=some (.ref id off))(hy:ev σ.env y=some (.int k m))(hm:m=(i:Int))(hi:i<n) :
  dH P ops ⟨some t,.indexAddr T x y,ty,pos,af,none⟩ (tm x++tm y) [] σ ⟨[(t,.ref id (off+i*sz))],[],[]⟩ :=
 dH.val rfl rfl λC F γ σ' a w tD _ hs=>by
  obtain⟨k1,k2⟩:=AQ hs tD hx hy;simp only[Rs]at k1 k2;obtain⟨b,hg,e⟩:=k1;subst hm;refine⟨.pointer (some ⟨b,off+i*sz,none⟩),?_,Sx⟩
  by_cases h0:i*sz=0
  .simp[execOp,Instr.indexAt,e,k2,asIntOf,run_underlying hT.u,Instr.sureAddr,hi,hT.size,Addr.add,h0]
  .simp[execOp,Instr.indexAt,e,k2,asIntOf,run_underlying hT.u,Instr.sureAddr,hi,hT.size,Addr.add,h0]
theorem UR{T':TypeId}{x y:Operand}{id off T:Nat}{ds vN:List DV}{d:DV}[hT:dM P T' 1](hx:ev σ.env x=some (.ref id off))(hy:ev σ.env y=some d)(hh:cF σ.heap id=some (.bJ T ds))(ho:d.one=true)(hl:off<ds.length)(hd:ds.set off d=vN) :
  dH P ops ⟨none,.store T' x y,ty,pos,af,none⟩ (tm x++tm y) [id] σ ⟨[],[(id,some (.bJ T vN))],[]⟩:=by
 refine FR (n:=1) hx hy hh ?_ ?_ ?_ ?_
 .cases d <;> first|rfl|exact ho|rfl
 .rw[DV.Pm ho];rfl
 .rw[Nat.ble_eq];omega
 .rw[<-hd,vR,DV.Pm ho,List.set_eq_take_append_cons_drop,if_pos hl];simp
theorem wC{T':TypeId}{x y:Operand}{id off T:Nat}{ds:List DV}{d:DV}[hT:dM P T' 1](hx:ev σ.env x=some (.ref id off))(hy:ev σ.env y=some d)(hh:cF σ.heap id=some (.bJ T ds))(ho:d.one=true)(hl:Nat.blt off ds.length=true) :
  dH P ops ⟨none,.store T' x y,ty,pos,af,none⟩ (tm x++tm y) [id] σ ⟨[],[(id,some (.bJ T (ds.set off d)))],[]⟩:=UR hx hy hh ho (Nat.blt_eq ▸ hl) rfl
end
section
variable {P:Program} {ops:Array Oper} {σ:AS} {t:Nat} {ty:TypeId} {pos:String} {af:Array Edge}
theorem Rp{F:dj}(k:IntKind):∀(l:List Int),rm F 1 (l.map (DV.int k)) (l.map (Value.int k))
 |[]=>dF
 |x::l=>by
  exact⟨.int k x,l.map (Value.int k),dF,rfl,ad7,dF,Rp k l⟩
end
def au4(F:dj)(w:World):Prop:=∀b cs,F b=some cs->∃t fz,w.heap[b]? = some (.cells cs t fz)
def xt(w:World):dj:=λb=>match w.heap[b]? with
 |some (.cells cs _ _)=>some cs
 |_=>none
theorem aeU(w:World):au4 (xt w) w:=by
 intro b cs h;unfold xt at h
 split at h
 .rename_i c t fz hb;injection h with h;subst h;exact⟨t,fz,hb⟩
 .cases h
theorem ahv{P:Program}{f:FuncId}{args:List DV}{vs:List Value}{W:World}(h:br P f args (.bool true))(hk:Tbs (xt W))(hv:tQ (xt W) eD.no args vs):Calls P f vs.toArray W (λe W'=>e = .returned (.bool true)∧Ext W W'):=by
 have H:WS ⟨W,λ_=>False,xt W,0,eD.no,none,[]⟩ (xt W) eD.no [] [] W:={
  si:=λid e h=>yS
  own:=λid e g b h=>yS
  apart:=λid uS e e' g g' b h=>yS
  fs:=aeU W
  f0:=lJ.refl _
  rj:=λb cs h=>.inl h
  os:=rfl,tape:=rfl,output:=rfl
  size:=Nat.le_refl _
  qh:=λ_ _ _=>rfl
  us:=λid g h=>dI
  gone:=HD.no
  g0:=nW.refl _
  gk:=λid g h=>dI
  kn:=hk }
 refine(h _ (xt W) eD.no [] [] W vs H hv).mono ?_;rintro e w' ⟨v,F',rfl,_,K,hr⟩;simp only[Rs]at hr;exact⟨by rw[hr],⟨K.os,K.tape,K.output,K.size,λk hk=>K.qh k hk (λh=>h)⟩⟩
end Go.Proofs.YtaafmkmdfcgeaaaGreatDoor
namespace Go.Proofs.YtaafmkmdfcgeaaaGreatDoor
open Go.ChangeShapes Go.WideShapes Go.ChangeAt Go.RowKit
section
variable {H:Type} {enc:TypeId×Value->H} {P:Program}
theorem Er(hl:laidOutB P=true){W W':World}(hb:Ext W W'):∀(ts:List TypeId) (vs:List Value) (ds:List (DataW H)) (ps:List MemPlace),
  (∀t∈ts,P.readableRec t=true∧t<P.types.size)->DataW.TrodAll enc P W 0 (λ_=>true) true ts vs ds ps->(∀x∈ps,x.block<W.heap.size) ->
  DataW.TrodAll enc P W' 0 (λb=>decide (b<W.heap.size)) true ts vs ds ps
 |[],vs,ds,ps,_,h,_=>by
  obtain⟨rfl,rfl,rfl⟩:=trodAll_nil h;exact trodAll_mk0
 |t::ts,vs,ds,ps,hr,h,my=>by
  obtain⟨v0,KZ,d0,ds0,p0,q0,rfl,rfl,rfl,h0,r0⟩:=trodAll_cons h;have h1:=Below.trod hl (hr t aR).1 (hr t aR).2 h0 hb.below (λx hx=>my x Gp);have h2:=Er hl hb ts KZ ds0 q0 (λt' PW=>hr t' (by simp[PW])) r0 (λx hx=>my x Gp);exact trodAll_cons_mk h1 h2
theorem acK{f:Func}{s:ChangeSpec}{W W':World}{args:Array Value}{ds:List (DataW H)}{before:List MemPlace}{tb:TypeId}(hl:laidOutB P=true)
  (hW:DataW.Whole enc P f.params.toList s.vars false W args.toList ds [] before) (ajL:s.vars = [])
  (avu:f.resultTypes = #[tb]) (aoL:P.underlying tb=some .bool) (hr:∀t∈f.params.toList,P.readableRec t=true∧t<P.types.size)
  (hf:s.fn H ds = { results:=[.lit (.bool true)],args:=ds }) (hb:Ext W W') :
  s.post enc P f false true false false W args (.bool true) W':=by
 have hW':=hW;obtain⟨p,q,hA,hV,rfl,hfz,hnd⟩:=hW;rw[ajL]at hV;obtain⟨_,rfl⟩:=trodVars_none hV;have my:∀x∈p,x.block<W.heap.size:=λx hx=>hW'.lt x Gp
 refine⟨ds,[],p++[],[],p,[],hW',?_,?_,?_,hb.below.frame _,λh=>dI⟩
 .rw[List.append_nil,hf,avu]
  exact trodAll_cons_mk (shut_bool aoL true) trodAll_mk0
 .rw[List.append_nil,hf]
  exact Er hl hb _ _ _ _ hr hA my
 .rw[List.append_nil,hf,ajL];rfl
end
end Go.Proofs.YtaafmkmdfcgeaaaGreatDoor
namespace Go.Proofs.YtaafmkmdfcgeaaaGreatDoor
open Go.RowKit
/-! models -/
def idx{α:Type}(xs:List α)(i:Int):Option α:=if 0<=i then xs[i.toNat]? else none
theorem DW{α:Type}{xs:List α}{i:Int}{x:α}(h:idx xs i=some x):0<=i∧xs[i.toNat]? = some x:=by
 unfold idx at h
 simp_all
theorem fW{α:Type}(xs:List α)(n:Nat):idx xs (n:Int)=xs[n]? := dF
def Hu{α:Type}(p:Prop)[Decidable p](k:Option α):Option α:=if p then k else none
theorem mP{α:Type}{p:Prop}[Decidable p]{k:Option α}{r:α}(h:Hu p k=some r):p∧k=some r:=by
 unfold Hu at h
 simp_all
theorem tA{α:Type}{p:Prop}[Decidable p]{k:Option α}(h:p):Hu p k=k:=if_pos h
theorem pt{α β:Type}{a:Option α}{f:α->Option β}{r:β}(h:a.bind f=some r):∃x,a=some x∧f x=some r:=by
 cases a with
 |none=>cases h
 |some x=>simp_all
theorem AF{α:Type}{b:Bool}{x y:Option α}{r:α}(h:(if b=true then x else y)=some r):(b=true->x=some r)∧(b=false->y=some r) :=
 ⟨λe=>eJ,λe=>eJ⟩
def gb{α:Type}(b:Bool)(d:α)(a:Option α):Option α:=if b=true then a else some d
theorem HY{α:Type}{b:Bool}{d x:α}{a:Option α}(h:gb b d a=some x):b=true->a=some x:=λe=>by
 unfold gb at h;simp_all
inductive xy(S E:Type) where
 |next (s:S)
 |done (e:E)
def Bk{S E:Type}(step:S->Option (xy S E)):Nat->S->Option E
 |0,_=>none
 |n+1,s=>(step s).bind fun
  |.next s'=>Bk step n s'
  |.done e=>some e
@[irreducible] def EP{S E:Type}(step:S->Option (xy S E))(s:S):Option E:=Bk step 1180591620717411303424 s
def RT{S E:Type}(body:Nat->S->Option (xy S E)):Nat->Nat->S->Option (xy S E)
 |0,_,s=>some (.next s)
 |m+1,k,s=>(body k s).bind fun
  |.next s'=>RT body m (k+1) s'
  |.done e=>some (.done e)
def Xy{S E:Type}(mx n:Int)(body:Nat->S->Option (xy S E))(s:S):Option (xy S E):=Hu (n<=mx) (RT body n.toNat 0 s)
def Kg{S:Type}(body:Nat->S->Option S):Nat->Nat->S->Option S
 |0,_,s=>some s
 |m+1,k,s=>(body k s).bind λs'=>Kg body m (k+1) s'
def Ho{S:Type}(mx n:Int)(body:Nat->S->Option S)(s:S):Option S:=Hu (n<=mx) (Kg body n.toNat 0 s)
def arr{α:Type}(d:α)(l:List α):Nat->α:=λi=>l.getD i d
def tP{α:Type}(f:Nat->α)(i:Nat)(v:α):Nat->α:=λj=>if j=i then v else f j
def slc{α:Type}(xs:List α)(lo hi:Int):List α:=(xs.take hi.toNat).drop lo.toNat
theorem CY{n:Int}(h:0<=n):n=((n.toNat:Nat):Int):=ah
/-! loops -/
section
variable {P:Program} {nn:Nat} {Q:Exit->AS->Prop} {σ:AS} {c:Code} {S E:Type}
def QW(St:S->AS)(t:xy S E)(Q:Exit->AS->Prop):Exit->AS->Prop
 |.normal,σ=>∃s',t = .next s'∧jP σ (St s')
 |e,σ=>Q e σ
theorem Yk{step:S->Option (xy S E)}{e:E}(St:S->AS)(s0:S)(hM:EP step s0=some e)(h0:jP σ (St s0))
  (round:∀s t,step s=some t->(∀e',t = .done e'->e'=e)->gL P nn c (QW St t Q) (St s)):gL P nn (.loop c) Q σ:=by
 have hM':Bk step 1180591620717411303424 s0=some e:=by unfold EP at hM;exact hM
 refine Kz (λx:S×Nat=>St x.1) (λx=>Bk step x.2 x.1=some e) (λx=>x.2) (s0,1180591620717411303424) h0 hM' ?_;rintro⟨s,m⟩ hI;cases m with
 |zero=>cases hI
 |succ m=>
  obtain⟨t,ht,hk⟩:=pt (show(step s).bind _=some e from hI);refine DG (round s t ht (λe' he=>?_)) (λex σ' hq=>?_)
  .simp_all
  .cases ex with
   |normal=>
    obtain⟨s',rfl,hi⟩:=hq;exact⟨(s',m),hk,Nat.lt_succ_self m,hi⟩
   |_=>exact hq
def QF(St:Nat->S->AS)(k:Nat)(t:xy S E)(Q:Exit->AS->Prop):Exit->AS->Prop
 |.normal,σ=>∃s',t = .next s'∧jP σ (St (k+1) s')
 |e,σ=>Q e σ
def Wa(Q:Exit->AS->Prop):Exit->AS->Prop
 |.normal,_=>False
 |e,σ=>Q e σ
theorem aof{body:Nat->S->Option (xy S E)}{mx n:Int}{t:xy S E}(St:Nat->S->AS)(s0:S)(hM:Xy mx n body s0=some t)(h0:jP σ (St 0 s0))
  (r1:∀(k:Nat) (s:S) (t':xy S E),(k:Int)<n->n<=mx->body k s=some t'->(∀e',t' = .done e'->t = .done e')->gL P nn c (QF St k t' Q) (St k s))
  (r2:∀(k:Nat) (s:S),n<=(k:Int)->n<=mx->t = .next s->gL P nn c (Wa Q) (St k s)):gL P nn (.loop c) Q σ:=by
 obtain⟨hmx,hM⟩:=mP (show Hu (n<=mx) _=some t from hM);refine Kz (λx:Nat×S=>St x.1 x.2) (λx=>RT body (n.toNat-x.1) x.1 x.2=some t) (λx=>n.toNat-x.1) (0,s0) h0 hM ?_;rintro⟨k,s⟩ hI
 by_cases hk:(k:Int)<n
 .have e:n.toNat-k=(n.toNat-(k+1))+1:=by omega
  rw[e]at hI;obtain⟨t',ht,Cs⟩:=pt (show(body k s).bind _=some t from hI);refine DG (r1 k s t' hk hmx ht (λe' he=>?_)) (λex σ' hq=>?_)
  .simp_all
  .cases ex with
   |normal=>
    obtain⟨s',rfl,hi⟩:=hq;exact⟨(k+1,s'),Cs,eJ,hi⟩
   |_=>exact hq
 .have e:n.toNat-k=0:=by omega
  rw[e]at hI;injection hI with hI
  refine DG (r2 k s ah hmx hI.symm) (λex σ' hq=>?_);cases ex with
  |normal=>exact hq.elim
  |_=>exact hq
def QFo(St:Nat->S->AS)(k:Nat)(s':S)(Q:Exit->AS->Prop):Exit->AS->Prop
 |.normal,σ=>jP σ (St (k+1) s')
 |e,σ=>Q e σ
theorem ak4{body:Nat->S->Option S}{mx n:Int}{t:S}(St:Nat->S->AS)(s0:S)(hM:Ho mx n body s0=some t)(h0:jP σ (St 0 s0))
  (r1:∀(k:Nat) (s s':S),(k:Int)<n->n<=mx->body k s=some s'->gL P nn c (QFo St k s' Q) (St k s))
  (r2:∀(k:Nat),n<=(k:Int)->n<=mx->gL P nn c (Wa Q) (St k t)):gL P nn (.loop c) Q σ:=by
 obtain⟨hmx,hM⟩:=mP (show Hu (n<=mx) _=some t from hM);refine Kz (λx:Nat×S=>St x.1 x.2) (λx=>Kg body (n.toNat-x.1) x.1 x.2=some t) (λx=>n.toNat-x.1) (0,s0) h0 hM ?_;rintro⟨k,s⟩ hI
 by_cases hk:(k:Int)<n
 .have e:n.toNat-k=(n.toNat-(k+1))+1:=by omega
  rw[e]at hI;obtain⟨t',ht,Cs⟩:=pt (show(body k s).bind _=some t from hI);refine DG (r1 k s t' hk hmx ht) (λex σ' hq=>?_);cases ex with
  |normal=>exact⟨(k+1,t'),Cs,eJ,hq⟩
  |_=>exact hq
 .have e:n.toNat-k=0:=by omega
  rw[e]at hI;injection hI with hI
  subst hI;refine DG (r2 k ah hmx) (λex σ' hq=>?_);cases ex with
  |normal=>exact hq.elim
  |_=>exact hq
end
theorem ahz{k:Nat}{n:Int}(h:(k:Int)<n)(hx:n<=9223372036854775807):Aj .i64 ((k:Int)+1):=ah
theorem ahy{k:Nat}{n:Int}(h:(k:Int)<n)(hx:n<=18446744073709551615):Aj .u64 ((k:Int)+1):=ah
def lg(d:DV):DV:=d
theorem xV:∀l:List DV,List.map lg l=l
 |[]=>rfl
 |d::l=>by rw[List.map_cons,xV l];rfl
def bA{α:Type}(sz:Nat)(f:α->DV)(xs:List α):DV:=.sl sz (xs.map f)
theorem iy.succ(k:IntKind)(n:Nat):iy (.int k ((n:Int)+1)) (.int k ((n+1:Nat):Int)):=iy.of_eq aR
theorem Uk{σ:AS}{id rid j:Nat}{T:TypeId}{ds:List DV}(E sz:Nat)(hh:cF σ.heap id=some (.bJ T ds))(hj:ds[j]? = some .cu)(hi:Hj rid σ.used=false)(nq:Nat.beq rid id=false) :
  jP σ ⟨σ.env,(id,some (.bJ T (ds.set j (.row rid))))::(rid,some (.row E sz []))::σ.heap,rid::σ.used⟩:=λC F γ a w hs=>by
 have hn:rid ∉ σ.used:=λh=>by
  have:Hj rid σ.used=true:=List.any_eq_true.2 ⟨rid,h,aR⟩
  simp_all
 have avv:rid≠id:=λe=>eJ
 have hle:=pF (.slice none 0 0) (hs.ws.fresh hn);have W:=hs.ws.add hn (e0:=.row E sz []) (g:=.slice none 0 0) ⟨[],OK _ _ _ _,dF⟩ (λb hb=>by simp[fA]at hb);have tg:cF ((rid,some (.row E sz []))::σ.heap) id=some (.bJ T ds):=by rw[cH,if_neg avv];exact hh
 obtain⟨g,hg,b,cs,rfl,hb,hl⟩:=W.si id _ tg
 have hl':fZ F (γ.up rid (.slice none 0 0)) (ds.set j (.row rid)) cs.toList:=by
  refine EN (by rw[List.length_set];exact hl.len) (λi d hd=>?_);rw[List.getElem?_set]at hd
  by_cases DM:j=i
  .subst DM
   obtain⟨v,q1,q2,q3⟩:=hl.get hj;have IP:j<ds.length:=(List.getElem?_eq_some_iff.1 hj).1;simp[IP]at hd;subst hd;refine⟨v,q1,q2,?_⟩;rw[q3];exact uu _ _ _
  .rw[if_neg DM]at hd;exact hl.get hd
 have W2:=W.put (id0:=id) (e0:=.bJ T (ds.set j (.row rid))) hg ⟨b,cs,rfl,hb,hl'⟩ (λb' je=>by
  have ho:=W.own id _ _ b' tg hg je;exact⟨ho.1,ho.2,λi e g nq hi Tf Th=>nq (W.apart i id e _ g _ b' hi tg Tf hg Th je)⟩)
 exact⟨F,_,λt' d hd=>⟨(hs.env t' d hd).1,(hs.env t' d hd).2.mono (lJ.refl _) hle⟩,W2,hs.size,hs.defers⟩
/-! rules over typed lists -/
section
variable {P:Program} {ops:Array Oper} {σ:AS} {t:Nat} {ty:TypeId} {pos:String} {af:Array Edge}
theorem dH.cast{o:Oper}{rt rh:List Nat}{E E':An}(h:dH P ops o rt rh σ E)(e:E=E'):dH P ops o rt rh σ E':=e ▸ h
theorem abQ{T e:TypeId}{KJ yd:Nat}{zd:DV}[hT:lK P T e KJ yd zd]{x:Operand}{sz:Nat}{α:Type}{xs:List α}{f:α->DV}(hx:ev σ.env x=some (.sl sz (xs.map f))):dH P ops ⟨some t,.call ⟨.builtin .len,#[x],#[T]⟩,ty,pos,af,none⟩ (tm x) [] σ ⟨[(t,.int .i64 xs.length)],[],[]⟩ :=
 (anA hx).cast aR
theorem agL{T e:TypeId}{KJ yd:Nat}{zd:DV}[hT:lK P T e KJ yd zd]{x:Operand}{id E sz:Nat}{α:Type}{xs:List α}{f:α->DV}(hx:ev σ.env x=some (.row id))(hh:cF σ.heap id=some (.row E sz (xs.map f))):dH P ops ⟨some t,.call ⟨.builtin .len,#[x],#[T]⟩,ty,pos,af,none⟩ (tm x) [id] σ ⟨[(t,.int .i64 xs.length)],[],[]⟩ :=
 (ag9 hx hh).cast aR
theorem Dp{α:Type}{xs:List α}{f:α->DV}{n:Int}{x:α}(h:idx xs n=some x):(xs.map f)[n.toNat]? = some (f x):=by
 rw[List.getElem?_map,(DW h).2];rfl
theorem Xt{α β:Type}{xs:List α}{f:α->β}{n:Int}{x:α}(h:idx xs n=some x):n.toNat<(xs.map f).length:=by
 rw[List.length_map];exact(List.getElem?_eq_some_iff.1 (DW h).2).1
theorem Oe{T e:TypeId}{sz yd:Nat}{zd:DV}[hT:lK P T e sz yd zd]{x y:Operand}{k:IntKind}{n:Int}{α:Type}{xs:List α}{f:α->DV}{a:α}(h:idx xs n=some a)(hx:ev σ.env x=some (.sl sz (xs.map f)))(hy:ev σ.env y=some (.int k n))(hf:(f a).flat=true) :
  dH P ops ⟨some t,.indexAddr T x y,ty,pos,af,none⟩ (tm x++tm y) [] σ ⟨[(t,.iv (f a).cs)],[],[]⟩ :=
 RD n.toNat hx hy (CY (DW h).1) (Dp h) hf
theorem GX{T e:TypeId}{sz yd:Nat}{zd:DV}[hT:lK P T e sz yd zd]{x y:Operand}{id E:Nat}{k:IntKind}{n:Int}{α:Type}{xs:List α}{f:α->DV}{a:α}(h:idx xs n=some a)(hx:ev σ.env x=some (.row id))(hh:cF σ.heap id=some (.row E sz (xs.map f)))(hy:ev σ.env y=some (.int k n)) :
  dH P ops ⟨some t,.indexAddr T x y,ty,pos,af,none⟩ (tm x++tm y) [id] σ ⟨[(t,.rp id n.toNat sz 0)],[],[]⟩ :=
 Lr n.toNat hx hh hy (CY (DW h).1) (Xt h)
theorem GV{T':TypeId}{x:Operand}{id sz o E:Nat}{n:Int}{α:Type}{xs:List α}{f:α->DV}{a:α}{r:DV}[hT:qe P T'](h:idx xs n=some a)(hx:ev σ.env x=some (.rp id n.toNat sz o))(hh:cF σ.heap id=some (.row E sz (xs.map f)))(hf:(f a).flat=true)(hl:(f a).cs[o]? = some r) :
  dH P ops ⟨some t,.load T' x,ty,pos,af,none⟩ (tm x) [id] σ ⟨[(t,r)],[],[]⟩:=Zm hx hh (Dp h) hf hl
theorem GW{T':TypeId}{x:Operand}{id sz o E m:Nat}{n:Int}{α:Type}{xs:List α}{f:α->DV}{a:α}{vN:List DV}[hT:jM P T' m](h:idx xs n=some a)(hx:ev σ.env x=some (.rp id n.toNat sz o))(hh:cF σ.heap id=some (.row E sz (xs.map f)))(hf:(f a).flat=true)(hn:Nat.ble m ((f a).cs.drop o).length=true)(hl:((f a).cs.drop o).take m=vN) :
  dH P ops ⟨some t,.load T' x,ty,pos,af,none⟩ (tm x) [id] σ ⟨[(t,.agg vN)],[],[]⟩:=Zn hx hh (Dp h) hf hn hl
theorem YO{T':TypeId}{x y:Operand}{id sz o E m:Nat}{n:Int}{α:Type}{xs:List α}{f:α->DV}{a:α}(a':α){dn:DV}[hT:dM P T' m](h:idx xs n=some a)(hx:ev σ.env x=some (.rp id n.toNat sz o))(hy:ev σ.env y=some dn)(hh:cF σ.heap id=some (.row E sz (xs.map f)))(hf:(f a).flat=true)(hfn:dn.flat=true)(hn:Nat.beq m dn.cs.length=true)
  (PX:dn.ids = []) (hl:Nat.ble (o+m) sz=true) (he:(f a').flat=true) (afF:vR (f a).cs o dn.cs=(f a').cs) (yl:Nat.blt 0 m=true) :
  dH P ops ⟨none,.store T' x y,ty,pos,af,none⟩ (tm x++tm y) [id] σ ⟨[],[(id,some (.row E sz ((xs.set n.toNat a').map f)))],[]⟩ :=
 (Zj hx hy hh (Dp h) hf hfn hn PX hl he afF (Nat.blt_eq ▸ yl)).cast aR
def dK(bytes n:Nat):Prop:=n*bytes<=140737488355328∧n<=140737488355328
instance (b n:Nat):Decidable (dK b n):=inferInstanceAs (Decidable (_∧_))
theorem pL{T e:TypeId}{sz bytes:Nat}{zd:DV}[hT:lK P T e sz bytes zd]{x y:Operand}{id:Nat}{α:Type}{f:α->DV}{xs:List α}(ys:List α){dy:DV}{rh:List Nat}(hb:dK bytes (xs.length+ys.length))(hx:ev σ.env x=some (.row id))(hh:cF σ.heap id=some (.row e sz (xs.map f)))(hy:ev σ.env y=some dy)(hS:Src σ sz dy (ys.map f) rh) :
  dH P ops ⟨some t,.call ⟨.builtin .append,#[x,y],#[T,T]⟩,ty,pos,af,none⟩ (tm x++tm y) (id::rh) σ ⟨[(t,.row t)],[(t,some (.row e sz ((xs++ys).map f))),(id,none)],[t]⟩ :=
 (acq hx hh hy hS (by rw[List.length_map,List.length_map];exact hb)).cast aR
theorem Jz{T e:TypeId}{sz bytes:Nat}{zd:DV}[hT:lK P T e sz bytes zd]{x y:Operand}{α:Type}(f:α->DV)(ys:List α){dy:DV}{rh:List Nat}(hb:dK bytes ys.length)(hx:ev σ.env x=some .cu)(hy:ev σ.env y=some dy)(hS:Src σ sz dy (ys.map f) rh) :
  dH P ops ⟨some t,.call ⟨.builtin .append,#[x,y],#[T,T]⟩,ty,pos,af,none⟩ (tm x++tm y) rh σ ⟨[(t,.row t)],[(t,some (.row e sz (ys.map f)))],[t]⟩ :=
 UU hx hy hS (by rw[List.length_map];exact hb)
theorem uU{T e:TypeId}{sz bytes:Nat}{zd:DV}[hT:lK P T e sz bytes zd]{n:Nat}{ps:Array (Nat×Operand)}{AX:List (Nat×DV)}{α:Type}(f:α->DV)(ys:List α)(hz:(zd.cs.all DV.one)=true)(hn:Nat.ble (n*sz) 16777216=true)(he:ZR σ.env ps.toList=some AX)(hk:Nat.beq AX.length n=true)
  (hf:Ij ((List.range n).map λi=>(i*sz,sz)) (List.replicate n zd.cs).flatten AX=some ((AX.map (·.2)).flatMap DV.cs)) (Ao:(AX.map (·.2)).all (ZS sz)=true) (hy:AX.map (·.2)=ys.map f) :
  dH P ops ⟨some t,.buildSlice T n ps,ty,pos,af,none⟩ (ps.toList.flatMap λp=>tm p.2) [] σ ⟨[(t,.row t)],[(t,some (.row e sz (ys.map f)))],[t]⟩ :=
 (FT hz hn he hk hf Ao).cast (by rw[hy])
def kY(bytes:Nat)(l c:Int):Prop:=0<=l∧l<=c∧bytes*c<=281474976710656∧c<=281474976710656
instance (b:Nat)(l c:Int):Decidable (kY b l c):=inferInstanceAs (Decidable (_∧_))
def fC(n:Nat)(lo hi:Int):Prop:=0<=lo∧lo<=hi∧hi<=n
instance (n:Nat)(l c:Int):Decidable (fC n l c):=inferInstanceAs (Decidable (_∧_))
theorem Od{T e:TypeId}{sz yd:Nat}{zd:DV}[hT:lK P T e sz yd zd]{x a b:Operand}{k k':IntKind}{lo hi:Int}{α:Type}{xs:List α}{f:α->DV}(h:fC xs.length lo hi)(hx:ev σ.env x=some (.sl sz (xs.map f)))(ha:ev σ.env a=some (.int k lo))(hb:ev σ.env b=some (.int k' hi)) :
  dH P ops ⟨some t,.slice T x (some a) (some b) none,ty,pos,af,none⟩ (tm x++Li (some a)++Li (some b)) [] σ ⟨[(t,.sl sz ((slc xs lo hi).map f))],[],[]⟩:=by
 have h':=h;unfold fC at h';refine(OL lo.toNat hi.toNat hx (Bd.at ha ah) (Bd.at hb ah) ah eJ).cast ?_;rw[slc,List.map_drop,List.map_take]
theorem GU{T e:TypeId}{sz yd:Nat}{zd:DV}[hT:lK P T e sz yd zd]{x a:Operand}{k:IntKind}{lo:Int}{α:Type}{xs:List α}{f:α->DV}(h:fC xs.length lo xs.length)(hx:ev σ.env x=some (.sl sz (xs.map f)))(ha:ev σ.env a=some (.int k lo)) :
  dH P ops ⟨some t,.slice T x (some a) none none,ty,pos,af,none⟩ (tm x++Li (some a)++Li none) [] σ ⟨[(t,.sl sz ((xs.drop lo.toNat).map f))],[],[]⟩:=by
 have h':=h;unfold fC at h';refine(OL lo.toNat (xs.map f).length hx (Bd.at ha ah) Bd.no eJ (Nat.le_refl _)).cast ?_;rw[List.take_length,List.map_drop]
theorem Md{T e:TypeId}{sz yd:Nat}{zd:DV}[hT:lK P T e sz yd zd]{x b:Operand}{k':IntKind}{hi:Int}{α:Type}{xs:List α}{f:α->DV}(h:fC xs.length 0 hi)(hx:ev σ.env x=some (.sl sz (xs.map f)))(hb:ev σ.env b=some (.int k' hi)) :
  dH P ops ⟨some t,.slice T x none (some b) none,ty,pos,af,none⟩ (tm x++Li none++Li (some b)) [] σ ⟨[(t,.sl sz ((xs.take hi.toNat).map f))],[],[]⟩:=by
 have h':=h;unfold fC at h';refine(OL 0 hi.toNat hx Bd.no (Bd.at hb ah) ah eJ).cast ?_;simp
def akT(k:IntKind)(a b:Int):Prop:=0<=a∧0<b∧Aj k (a / b)
instance (k:IntKind)(n:Int):Decidable (Aj k n):=by cases k <;> exact inferInstanceAs (Decidable (_∧_))
instance (k:IntKind)(a b:Int):Decidable (akT k a b):=inferInstanceAs (Decidable (_∧_))
def oO(n:Nat)(i:Int):Prop:=0<=i∧i<n
instance (n:Nat)(i:Int):Decidable (oO n i):=inferInstanceAs (Decidable (_∧_))
inductive QE:DV->Bool->Bool->Prop
 |bT {b:Bool}:QE (.bool b) true b
 |bF {b:Bool}:QE (.bool b) false (!b)
 |iT {c b:Bool}:QE (.FD c (.bool b)) true (c&&b)
 |iF {c b:Bool}:QE (.FD c (.bool b)) false (c && !b)
inductive rQ:List (Nat×DV)->List Nat->List (Nat×DV)->Prop
 |nil {e:List (Nat×DV)}:rQ e [] e
 |qh {e e':List (Nat×DV)} {t:Nat} {L:List Nat} (h:rQ e L e'):rQ e (t::L) e'
 |strip {e e':List (Nat×DV)} {t:Nat} {L:List Nat} {c:Bool} {d:DV} (h:look e t=some (.FD c d)) (hc:c=true) (k:rQ e L e'):rQ e (t::L) ((t,d)::e')
 |half {e e':List (Nat×DV)} {t:Nat} {L:List Nat} {c b:Bool} {d:DV} (h:look e t=some (.FD (c&&b) d)) (hc:c=true) (k:rQ e L e'):rQ e (t::L) ((t,.FD b d)::e')
theorem rQ.spec{e:List (Nat×DV)}{L:List Nat}{e':List (Nat×DV)}(h:rQ e L e'):∀t,look e' t=look e t∨(t∈L∧∃d0 d,look e t=some d0∧look e' t=some d∧∀F γ v,Rs F γ d0 v↔Rs F γ d v):=by
 induction h with
 |nil=>simp
 |qh h ih=>
  intro t;rcases ih t with h|⟨h1,h2⟩
  all_goals simp_all
 | @strip e' t0 L c d h hc k ih=>
  intro t;rw[eK]
  by_cases ht:t0=t
  .subst ht;rw[if_pos rfl]
   refine .inr ⟨List.mem_cons_self ..,_,_,h,rfl,λF γ v=>?_⟩;subst hc;simp only[Rs];simp
  .rcases ih t with h|⟨h1,h2⟩
   all_goals simp_all
 | @half e' t0 L c b d h hc k ih=>
  intro t;rw[eK]
  by_cases ht:t0=t
  .simp_all
  .rcases ih t with h|⟨h1,h2⟩
   all_goals simp_all
theorem QE.wanted{C:Ctx}{F:dj}{γ:eD}{σ':AS}{a:Act}{w:World}(hs:Sat C F γ σ' a w){op:Op}{g gt:Nat}{want on:Bool}{gd:DV}(hG:QE gd want on)(Gz:(ops[g]?).bind (·.dst)=some gt)(je:look σ'.env gt=some gd) :
  Region.wanted ⟨some t,op,ty,pos,af,some (g,want)⟩ (yielded ops a.tmps)=on:=by
 have DP:=(hs.env gt _ je).2;have my:=(hs.env gt _ je).1;have yl:gt<a.tmps.size:=by rw[hs.size];exact my
 have cF:∀x,a.tmps.getD gt undef=x->a.tmps[gt]=x:=λx hx=>eJ
 have hW:Region.wanted ⟨some t,op,ty,pos,af,some (g,want)⟩ (yielded ops a.tmps)=(yielded ops a.tmps g==some want):=rfl;rw[hW]
 have hy:∀x,a.tmps.getD gt undef=x->yielded ops a.tmps g=match x with | .bool b=>some b|_=>none:=λx hx=>by
  unfold yielded;rw[Gz];simp only[Option.bind_some];rw[Array.getElem?_eq_getElem yl,cF x hx];cases x <;> rfl
 cases hG with
 |bT=>simp only[Rs]at DP;simp_all
 |bF=>simp only[Rs]at DP;simp_all
 |iT=>
  rename_i c b
  simp only[Rs]at DP;cases c with
  |true=>simp_all
  |false=>rw[hy _ (DP.2 rfl)];rfl
 |iF=>
  rename_i c b
  simp only[Rs]at DP;cases c with
  |true=>simp_all
  |false=>rw[hy _ (DP.2 rfl)];rfl
theorem acm{op:Op}{g gt:Nat}{want on:Bool}{gd:DV}{rt rh:List Nat}{d:DV}{ye:List (Nat×DV)}(hG:QE gd want on)(Gz:(ops[g]?).bind (·.dst)=some gt)(hb:look σ.env gt=some gd)(hS:on=true->rQ σ.env (vX op) ye)
  (h:on=true->dH P ops ⟨some t,op,ty,pos,af,none⟩ rt rh ⟨ye,σ.heap,σ.used⟩ ⟨[(t,d)],[],[]⟩):dH P ops ⟨some t,op,ty,pos,af,some (g,want)⟩ (gt::vX op++rt) rh σ ⟨[(t,.FD on d)],[],[]⟩:=by
 intro C F γ σ' a w h1 h2 h3 h4 hs K Q hK;have je:look σ'.env gt=some gd:=(h1 gt aR).trans hb;rw[QE.wanted hs hG Gz je];have ht:t<C.n:=h4 t rfl
 by_cases Ua:on=true
 .rw[if_pos Ua]
  have zb:=(hS Ua).spec;obtain⟨L,hL⟩:∃L:List (Nat×DV),∀x,look L x=if x∈vX op then look ye x else none:=⟨_,Hk ye (vX op)⟩
  have EI:Sat C F γ ⟨L++σ'.env,σ'.heap,σ'.used⟩ a w:=by
   refine⟨λx dx hx=>?_,hs.ws,hs.size,hs.defers⟩;simp only at hx;rw[gK,hL]at hx
   by_cases hm:x∈vX op
   .rw[if_pos hm]at hx
    have agree:look σ'.env x=look σ.env x:=h1 x Pu;rcases zb x with h|⟨_,d0,d',k1,k2,k3⟩
    .rw[h,agree]at hx
     refine hs.env x dx (agree.trans ?_);cases hl:look σ.env x <;> simp_all
    .rw[k2]at hx;simp at hx;subst hx
     have:=hs.env x _ (agree.trans k1);exact⟨this.1,(k3 _ _ _).1 this.2⟩
   .rw[if_neg hm]at hx;exact hs.env x dx Sq
  have key:=h Ua C F γ ⟨L++σ'.env,σ'.heap,σ'.used⟩ a w (λx hx=>?_) h2 aR h4 EI K Q (λF' γ' a' w' hF jI=>hK F' γ' a' w' hF ?_)
  .have hw:Region.wanted ⟨some t,op,ty,pos,af,none⟩ (yielded ops a.tmps)=true:=rfl
   rw[if_pos hw]at key;exact key
  .simp only
   rw[gK,hL]
   by_cases hm:x∈vX op
   .rw[if_pos hm]
    have agree:look σ'.env x=look σ.env x:=h1 x Pu;rcases zb x with h|⟨_,d0,d',k1,k2,k3⟩
    all_goals simp_all
   .rw[if_neg hm]
    rcases zb x with h|⟨hx',_⟩
    .rw[h,<-h1 x Gp];rfl
    .exact absurd hx' hm
  .refine⟨λx dx hx=>?_,jI.ws.congr (λ_ _ h=>h) (λ_ h=>h),jI.size,jI.defers⟩
   simp only[AS.app,List.singleton_append]at hx;rw[eK]at hx
   by_cases hxt:t=x
   .rw[if_pos hxt]at hx;injection hx with hx;subst hx;subst hxt
    have:=jI.env t d adM;refine⟨this.1,?_⟩;simp only[Rs];exact⟨λ_=>this.2,λh=>by rw[Ua]at h;cases h⟩
   .rw[if_neg hxt]at hx
    have get:∀d1,(look L x).or (look σ'.env x)=some d1->x<C.n∧Rs F' γ' d1 (a'.tmps.getD x undef):=λd1 h=>jI.env x d1 ajm
    rw[hL]at get
    by_cases hm:x∈vX op
    .rw[if_pos hm]at get
     rcases zb x with h|⟨_,d0,d',k1,k2,k3⟩
     all_goals simp_all
    .rw[if_neg hm]at get
     exact get dx Sq
 .have hT:on=false:=Bool.eq_false_iff.2 Ua
  subst hT;rw[if_neg aV];refine hK F γ _ _ (lJ.refl _) (hs.put ht ?_);simp only[Rs];exact⟨λh=>dI,λ_=>trivial⟩
theorem lH.rsE{F:dj}{sz:Nat}{ds vN:List DV}(h:lH ds vN):∀{vs:List Value},rm F sz ds vs->rm F sz vN vs:=by
 induction h with
 |nil=>simp
 |cons h1 k ih=>
  intro vs h;obtain⟨v,rest,r1,r2,r3,r4,r5⟩:=h;exact⟨v,rest,r1,r2,r3,h1 _ _ _ r4,ih r5⟩
theorem lH.len{ds vN:List DV}(h:lH ds vN):ds.length=vN.length:=by
 induction h with
 |nil=>rfl
 |cons _ _ ih=>simp[ih]
theorem dH.abC{o:Oper}{rt rh:List Nat}{env:List (Nat×DV)}{hp:eW}{nw:List Nat}{E sz:Nat}{eC els':List DV}(h:dH P ops o rt rh σ ⟨env,(t,some (.row E sz eC))::hp,nw⟩)(hd:lH eC els'):dH P ops o rt rh σ ⟨env,(t,some (.row E sz els'))::hp,nw⟩:=by
 intro C F γ σ' a w h1 h2 h3 h4 hs K Q hK;refine h C F γ σ' a w h1 h2 h3 h4 hs K Q (λF' γ' a' w' hF jI=>hK F' γ' a' w' hF ⟨jI.env,?_,jI.size,jI.defers⟩);have H:=jI.ws
 have back:∀i e',cF ((t,some (.row E sz els'))::(hp++σ'.heap)) i=some e'->∃e,cF ((t,some (.row E sz eC))::(hp++σ'.heap)) i=some e∧(∀F γ w g,Gy F γ w e g->Gy F γ w e' g):=λi e' hi=>by
  rw[cH]at hi |-
  by_cases hit:t=i
  .rw[if_pos hit]at hi |-;injection hi with hi;subst hi
   refine⟨_,rfl,λF γ w g hg=>?_⟩;obtain⟨vs,q1,q2⟩:=hg;exact⟨vs,by rw[<-hd.len];exact q1,hd.rsE q2⟩
  simp_all
 exact {
  si:=λi e' hi=>by
   obtain⟨e,k1,k2⟩:=back i e' hi;obtain⟨g,g1,g2⟩:=H.si i e k1
   simp_all
  own:=λi e' g b hi=>by
   obtain⟨e,k1,k2⟩:=back i e' hi;exact H.own i e g b k1
  apart:=λi i' e e' g g' b hi EH=>by
   obtain⟨e1,k1,_⟩:=back i e hi;obtain⟨e2,k2,_⟩:=back i' e' EH;exact H.apart i i' e1 e2 g g' b k1 k2
  fs:=H.fs,f0:=H.f0,rj:=H.rj,os:=H.os,tape:=H.tape,output:=H.output,size:=H.size,qh:=H.qh,us:=H.us,gone:=H.gone,g0:=H.g0,gk:=H.gk,kn:=H.kn }
theorem abS{T e:TypeId}{sz bytes:Nat}{zd:DV}[hT:lK P T e sz bytes zd]{n:Nat}{ps:Array (Nat×Operand)}{AX:List (Nat×DV)}{α:Type}(f:α->DV)(ys:List α)(hz:(zd.cs.all DV.one)=true)(hn:Nat.ble (n*sz) 16777216=true)(he:ZR σ.env ps.toList=some AX)(hk:Nat.beq AX.length n=true)
  (hf:Ij ((List.range n).map λi=>(i*sz,sz)) (List.replicate n zd.cs).flatten AX=some ((AX.map (·.2)).flatMap DV.cs)) (Ao:(AX.map (·.2)).all (ZS sz)=true) (hy:lH (AX.map (·.2)) (ys.map f)) :
  dH P ops ⟨some t,.buildSlice T n ps,ty,pos,af,none⟩ (ps.toList.flatMap λp=>tm p.2) [] σ ⟨[(t,.row t)],[(t,some (.row e sz (ys.map f)))],[t]⟩ :=
 (FT hz hn he hk hf Ao).abC hy
theorem Ze{T n e sz:Nat}[hT:te P T n e sz]{cs:Array Value}{k:IntKind}{i:Nat}(hi:i<n){v:Value}{w:World}(hp:(part e cs (i*sz)).run P w = .ok v w):(Instr.index T (.agg cs) (.int k (i:Int))).run P w = .ok v w:=by
 simp[Instr.index,asIntOf,run_underlying hT.u,hT.size,hi,hp]
theorem Xd{T n e sz:Nat}[hT:te P T n e sz][hs:qe P e]{x y:Operand}{k:IntKind}{m:Int}{ds:List DV}{d:DV}(i:Nat)(hx:ev σ.env x=some (.agg ds))(hy:ev σ.env y=some (.int k m))(hm:m=(i:Int))(hi:i<n)(hd:ds[i*sz]? = some d) :
  dH P ops ⟨some t,.index T x y,ty,pos,af,none⟩ (tm x++tm y) [] σ ⟨[(t,d)],[],[]⟩ :=
 dH.val rfl rfl λC F γ σ' a w tD h2 zb=>by
  obtain⟨k1,k2⟩:=AQ zb tD hx hy;simp only[Rs]at k1 k2;obtain⟨cs,e,hl⟩:=k1;subst hm;obtain⟨v,r1,r2⟩:=WY (.sc hs.h (by rw[head_drop];exact hd)) hl w;refine⟨v,?_,r2⟩;have:=Ze (P:=P) (T:=T) (k:=k) hi r1;simp[execOp,e,k2,this]
theorem aka{T n e:Nat}[hT:te P T n e 1][hs:qe P e]{x y:Operand}{k:IntKind}{m:Int}{α:Type}(f:α->DV)(xs:List α){a:α}(h:idx xs m=some a)(hx:ev σ.env x=some (.agg (xs.map f)))(hy:ev σ.env y=some (.int k m))(hn:xs.length=n) :
  dH P ops ⟨some t,.index T x y,ty,pos,af,none⟩ (tm x++tm y) [] σ ⟨[(t,f a)],[],[]⟩:=by
 have my:=Xt (f:=f) h;rw[List.length_map,hn]at my;exact Xd m.toNat hx hy (CY (DW h).1) my (by rw[Nat.mul_one];exact Dp h)
theorem akb{T n e:Nat}[hT:te P T n e 1][hs:qe P e]{x y:Operand}{k:IntKind}{m:Int}{ds:List DV}(g:Nat->DV)(h:oO n m)(hx:ev σ.env x=some (.agg ds))(hy:ev σ.env y=some (.int k m))(hg:ds=(List.range n).map g) :
  dH P ops ⟨some t,.index T x y,ty,pos,af,none⟩ (tm x++tm y) [] σ ⟨[(t,g m.toNat)],[],[]⟩:=by
 have h':=h;unfold oO at h';refine Xd m.toNat hx hy ah ah ?_
 simp_all
end
theorem Cq.all{f:Nat->Nat}{e:List (Nat×DV)}:∀{e':List (Nat×DV)},(e'.map λp=>look e p.1)=(e'.map λp=>some (p.2.xT f))->Cq f e e'
 |[],_=>.nil
 |(t,d)::r,h=>by
  simp only[List.map_cons,List.cons.injEq]at h;exact .cons h.1 (iy.refl _) (Cq.all h.2)
theorem xK.all{f:Nat->Nat}{e:eW}:∀{e':eW},(e'.map λp=>cF e (f p.1))=(e'.map λp=>p.2.map (HE.xT f))->(e'.all λp=>p.2.isSome)=true->xK f e e'
 |[],_,_=>.nil
 |(t,none)::r,_,k=>by simp at k
 |(t,some d)::r,h,k=>by
  simp only[List.map_cons,List.cons.injEq]at h;exact .cons h.1 (.refl _) (xK.all h.2 k)
theorem jP.sh{σ σ':AS}(f:Nat->Nat)(he:(σ'.env.map λp=>look σ.env p.1)=(σ'.env.map λp=>some (p.2.xT f)))(hh:(σ'.heap.map λp=>cF σ.heap (f p.1))=(σ'.heap.map λp=>p.2.map (HE.xT f)))(hs:(σ'.heap.all λp=>p.2.isSome)=true)(hu:NY f σ.used σ'.used=true)(hi:zx f (σ'.heap.map (·.1))=true)(hc:RN σ'=true):jP σ σ':=jP.of f (.all he) (.all hh hs) hu hi hc
theorem ar{P:Program}{n:Nat}{Q:Exit->AS->Prop}{σ:AS}{id:Nat}{ops:Array Oper}{σ':AS}{ks:List (Keys×An)}(ht:Trace P ops ops.toList σ σ' ks)(hq:Q .normal σ')(hd:qk n ops=true:=by kernel_rfl)(mz:kX σ.used (ks.map (·.2.new))=true:=by kernel_rfl):gL P n (.region id ops false) Q σ:=dV ht hd mz hq
theorem ad{P:Program}{n:Nat}{Q:Exit->AS->Prop}{σ:AS}{id:Nat}{ops:Array Oper}{σ':AS}{ks:List (Keys×An)}(hm:P.follows .mixedOrders=true)(ht:Trace P ops ops.toList σ σ' ks)(hq:Q .normal σ')(hk:Ae ops (ks.map (·.1))=true:=by kernel_rfl)(hd:qk n ops=true:=by kernel_rfl)(mz:kX σ.used (ks.map (·.2.new))=true:=by kernel_rfl):gL P n (.region id ops true) Q σ:=KA hm ht hk hd mz hq
end Go.Proofs.YtaafmkmdfcgeaaaGreatDoor
namespace Go.Proofs.YtaafmkmdfcgeaaaGreatDoor
open Go.ChangeShapes Go.WideShapes Go.ChangeAt Go.RowKit
theorem amO{k:IntKind}{n:Int}(h:(Lit.int k n).wf=true):Aj k n:=by
 cases k <;> simpa [Lit.wf,IntKind.min,IntKind.max,IntKind.signed,IntKind.bits,Aj]using h
theorem fZ.join{F:dj}{γ:eD}{ds es:List DV}{cs:List Value}{off n:Nat}(hn:off+n<=cs.length)(h1:fZ F γ ds ((cs.drop off).take n))(h2:fZ F γ es (cs.drop (off+n))):fZ F γ (ds++es) (cs.drop off):=by
 have:cs.drop off=(cs.drop off).take n++cs.drop (off+n):=by
  rw[<-List.drop_drop,List.take_append_drop]
 rw[this];exact h1.append h2
theorem fZ.done{F:dj}{γ:eD}{cs:List Value}{n:Nat}(h:cs.length=n):fZ F γ [] (cs.drop n):=by
 simp only[fZ];rw[<-h,List.drop_length]
theorem ab9{F:dj}{γ:eD}{ds:List DV}{cs:Array Value}(h:fZ F γ ds cs.toList):Rs F γ (.agg ds) (.agg cs):=by
 simp only[Rs];exact⟨cs,rfl,h⟩
section
variable {H:Type} {enc:TypeId×Value->H} {P:Program} {w:World} {fuel:Nat}
theorem pR{t:TypeId}{k:IntKind}{cs:List Value}{y:DataW H×List MemPlace}(ht:P.underlying t=some (.int k))(h:DataW.trod enc P w 0 (λ_=>true) true fuel t cs=some y):∃x:Int,fZ (xt w) eD.no [.int k x] cs∧Aj k x:=by
 obtain⟨n,rfl,_,hw⟩:=DataW.trod_int ht h;exact⟨n,Js Cn rfl,amO hw⟩
theorem agW{a:Addr}{n:Nat}{cs:List Value}(h:w.cells? 0 a n=some cs)(hn:0<n):a.spot=none:=by
 obtain⟨_,h1,h2⟩:=World.cells?_some h;have h0:=h2 0 hn;obtain⟨v0,hv0⟩:∃v,cs[0]? = some v:=⟨_,List.getElem?_eq_getElem ah⟩;rw[hv0,Addr.add_zero']at h0;unfold World.cell? at h0
 split at h0
 .cases hs:a.spot with
  |none=>rfl
  |some s=>simp[hs]at h0
 .cases h0
theorem adv{b o n i:Nat}{cs:List Value}(h:w.cells? 0 (Addr.add ⟨b,o,none⟩ i) n=some cs)(hn:0<n) :
  ∃bJ t fz,w.heap[b]? = some (.cells bJ t fz)∧(bJ.toList.drop (o+i)).take n=cs:=by
 rw[Addr.add_mid]at h;obtain⟨_,h1,h2⟩:=World.cells?_some h
 have key:∀j,j<n->∃bJ t fz,w.heap[b]? = some (.cells bJ t fz)∧bJ[o+i+j]? = cs[j]? := by
  intro j hj;have h0:=h2 j hj;obtain⟨v0,hv0⟩:∃v,cs[j]? = some v:=⟨_,List.getElem?_eq_getElem ah⟩;rw[hv0,Addr.add_mid]at h0;unfold World.cell? at h0
  split at h0
  .rename_i c t fz hc
   simp at h0;exact⟨c,t,fz,hc,by rw[hv0];exact h0⟩
  .cases h0
 obtain⟨bJ,t,fz,hb,_⟩:=key 0 hn;refine⟨bJ,t,fz,hb,?_⟩;apply List.ext_getElem?;intro j;rw[List.getElem?_take,List.getElem?_drop]
 by_cases hj:j<n
 .obtain⟨avw,t2,fz2,q1,q2⟩:=key j hj
  rw[hb]at q1;injection q1 with q1;injection q1 with q1 _ _;subst q1
  rw[if_pos hj,<-q2];simp
 .rw[if_neg hj,List.getElem?_eq_none ah]
theorem tV{t e:TypeId}{sz:Nat}{cs:List Value}{y:DataW H×List MemPlace}{α:Type}{dv:α->DV}{ok:α->Prop}(ht:P.underlying t=some (.slice e))(hc:P.cellsOf e=sz)(hz:0<sz)(hf:∀x,(dv x).flat=true)
  (LS:∀(fuel:Nat) (cs:List Value) (y:DataW H×List MemPlace),DataW.trod enc P w 0 (λ_=>true) true fuel e cs=some y->∃x,fZ (xt w) eD.no (dv x).cs cs∧ok x)
  (h:DataW.trod enc P w 0 (λ_=>true) true fuel t cs=some y):∃xs:List α,fZ (xt w) eD.no [.sl sz (xs.map dv)] cs∧(xs.length<=9223372036854775807∧∀x∈xs,ok x):=by
 rcases Go.Deep.open_slice ht h with⟨rfl,_⟩|⟨a,len,cap,m,n,D,Pl,rfl,hb,hl,hm,hmm,_,Yx⟩
 .refine⟨[],Js ?_ rfl,aR,aR⟩
  simp only[Rs];exact⟨none,0,rfl,⟨λ_=>⟨rfl,rfl⟩,Nat.le_refl _,aV⟩,λh=>absurd rfl h⟩
 .rw[if_pos rfl]at hmm
  rw[hc]at Yx;have hml:maxLen=9223372036854775807:=rfl;rcases Nat.eq_zero_or_pos len with h0|hlen
  .subst h0
   refine⟨[],Js ?_ rfl,aR,aR⟩;simp only[Rs];exact⟨some a,cap,rfl,⟨(λh=>dI),Nat.zero_le _,ah⟩,λh=>absurd rfl h⟩
  obtain⟨b,o,sp⟩:=a
  have hsp:sp=none:=by
   obtain⟨cs',c1,_⟩:=Yx 0 ah;rw[Nat.zero_mul,Addr.add_zero']at c1;exact agW c1 hz
  subst hsp
  have main:∀k,k<=len->∃xs:List α,xs.length=k∧(∀x∈xs,ok x)∧∃vs:List Value,rm (xt w) sz (xs.map dv) vs∧(0<k->∃bJ t fz,w.heap[b]? = some (.cells bJ t fz)∧(bJ.toList.drop o).take (k*sz)=vs):=by
   intro k
   induction k with
   |zero=>intro _;exact⟨[],rfl,aR,[],by simp[rm],λh=>absurd h ah⟩
   |succ k ih=>
    intro hk;obtain⟨xs,h1,h2,vs,h3,h4⟩:=ih ah;obtain⟨cs',c1,c2⟩:=Yx k ah;obtain⟨x,r1,r2⟩:=LS n cs' _ c2;obtain⟨v,v1,v2⟩:=KD (hf x) r1;obtain⟨bJ,t',fz,b1,b3⟩:=adv c1 hz
    have yl:v.cells.size=sz:=by
     have:=(World.cells?_some c1).2.1;rw[<-Array.length_toList,v1];exact this
    have hE:rm (xt w) sz [dv x] v.cells.toList:=abw yl (by rw[v1];exact r1.one) v2;refine⟨xs++[x],Pt,λy hy=>?_,vs++v.cells.toList,?_,λ_=>⟨bJ,t',fz,b1,?_⟩⟩
    .rcases List.mem_append.1 hy with hy|hy
     .exact h2 y hy
     .rw[List.mem_singleton]at hy;subst hy;exact r2
    .rw[List.map_append];exact h3.append hE
    .rw[Nat.succ_mul,List.take_add,v1]
     congr 1
     .by_cases hk0:0<k
      .obtain⟨avw,t2,fz2,q1,q3⟩:=h4 hk0
       rw[b1]at q1;injection q1 with q1;injection q1 with q1 _ _;subst q1;exact q3
      .have:k=0:=by omega
       subst this;have:=h3.len;simp only[List.length_map,h1,Nat.zero_mul]at this;rw[List.eq_nil_of_length_eq_zero this];simp
     .rw[List.drop_drop,b3]
  obtain⟨xs,h1,h2,vs,h3,h4⟩:=main len (Nat.le_refl _);refine⟨xs,Js ?_ rfl,ah,h2⟩;simp only[Rs];refine⟨some ⟨b,o,none⟩,cap,Pt,⟨(λh=>dI),by simp[h1];omega,ah⟩,λnq=>?_⟩;obtain⟨bJ,t',fz,b1,b3⟩:=h4 hlen;exact⟨b,o,bJ,vs,(bJ.toList.drop o).drop (len*sz),rfl,by simp[xt,b1],by rw[<-b3,List.take_append_drop],h3⟩
end
end Go.Proofs.YtaafmkmdfcgeaaaGreatDoor

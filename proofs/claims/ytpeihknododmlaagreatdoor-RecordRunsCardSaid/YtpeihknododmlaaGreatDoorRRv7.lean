/- Part 7 of what the claim leans on. -/
import Derived.Test.YtpeihknododmlaaGreatDoorRRv6
set_option maxRecDepth 100000
set_option linter.unusedVariables false
set_option linter.unusedSimpArgs false
set_option maxHeartbeats 4000000
namespace Go.Proofs.YtpeihknododmlaaGreatDoor
open Go.Proofs.Tryz
theorem WT{I T:Nat}(h1:1≤I)(h3:I≤3)(t1:T≤1):(vj I T).Pairwise (fun a b=>a.bn≠b.bn):=by
 unfold vj;rw[List.pairwise_append,List.pairwise_append];refine⟨⟨?_,by simp,?_⟩,?_,?_⟩
 ·rw[List.pairwise_map]
  refine(List.pairwise_lt_range (n:=I)).imp_of_mem (fun {a b} ha hb hab e=>?_);have:=List.mem_range.1 ha;have:=List.mem_range.1 hb;have:=vG (by omega) (by omega) (by omega) (by omega) e;omega
 ·intro a ha b hb e
  obtain⟨i,hi,rfl⟩:=List.mem_map.1 ha;have:=List.mem_range.1 hi;simp at hb;subst hb;have:=vG (by omega) (by omega) (by omega) (by omega) e;omega
 ·rw[List.pairwise_map]
  refine(List.pairwise_lt_range (n:=T)).imp_of_mem (fun {a b} ha hb hab e=>?_);have:=List.mem_range.1 ha;have:=List.mem_range.1 hb;omega
 ·intro a ha b hb e
  obtain⟨i,hi,rfl⟩:=List.mem_map.1 hb;have:=List.mem_range.1 hi;rcases List.mem_append.1 ha with ha|ha
  ·obtain⟨j,hj,rfl⟩:=List.mem_map.1 ha
   have:=List.mem_range.1 hj;have:=vG (by omega) (by omega) (by omega) (by omega) e;omega
  ·simp at ha;subst ha
   have:=vG (by omega) (by omega) (by omega) (by omega) e;omega
theorem RT{α:Type}{R:α→α→Prop}{l:List α}(h:l.Pairwise R){j:Nat}{x a:α}(hx:l[j]? = some x)(ha:a∈l.take j):R a x:=by
 obtain⟨i,hi,rfl⟩:=List.getElem_of_mem ha;rw[List.length_take]at hi;obtain⟨hj,rfl⟩:=List.getElem?_eq_some_iff.1 hx;rw[List.getElem_take];exact(List.pairwise_iff_getElem.1 h) i j (by omega) hj (by omega)
theorem aed{I T own:Nat}{gP:List (List Int)}{f:bj}{r0:List Int}(hf:Dk gP f){x:aM}(hx:Wl f.aR.length gP own I T r0 x){j:Nat}(hj:(j:Int)<(x.aX.length:Int)){c:aG}(hc:xW f c){v:List br}{k:Nat}{h:br}{u:bQ}(hu:x.aX[j]? = some u)(hk:u.bP[k]? = some h) :
  Wp (mn [⟨u.bP.take k⟩] h.bn) (fun q=>q.2=false)∧Wp (mn (x.aX.take j) h.bn) (fun q=>((!q.2)||((q.1.dM.length:Int)==(h.dM.length:Int)))=true):=by
 have um:=List.mem_of_getElem? hu;obtain⟨p,p2,rp,k3,DL,Gd,_⟩:=hx.hs u um k h hk;have hul:=(hx.h1 u um).2;have r3:=(hf.ar r0 (List.mem_of_getElem? hx.ar)).2.1;have v2:=hx.v2
 constructor
 ·refine(Au (by simp) (fun w hw=>?_)).imp ?_
  ·simp at hw;subst hw;dsimp only;rw[List.length_take];omega
  ·rintro⟨y,q⟩ (⟨rfl,⟨w,w1,w2⟩,hn⟩|⟨rfl,_⟩)
   ·exfalso
    simp at w1;subst w1;dsimp only at w2 hn;obtain⟨i,hi,rfl⟩:=List.getElem_of_mem w2;rw[List.length_take]at hi;rw[List.getElem_take]at hn;obtain⟨_,_,_,i3,afZ,_⟩:=hx.hs u um i _ (List.getElem?_eq_getElem (by omega));rw[DL,afZ]at hn;have:=vG (by omega) (by omega) (by omega) (by omega) hn;omega
   ·rfl
 ·refine(Au (by rw[List.length_take];omega) (fun w hw=>by have:=(hx.h1 w (List.mem_of_mem_take hw)).2;omega)).imp ?_
  rintro⟨y,q⟩ (⟨rfl,⟨w,w1,w2⟩,hn⟩|⟨rfl,_⟩)
  ·dsimp only at w2 hn ⊢
   obtain⟨i,hi,rfl⟩:=List.getElem_of_mem w2;obtain⟨p',_,rp',i3,afZ,ap2,_⟩:=hx.hs w (List.mem_of_mem_take w1) i _ (List.getElem?_eq_getElem hi);rw[DL,afZ]at hn;have:=vG (by omega) (by omega) (by omega) (by omega) hn;obtain rfl:i=k:=this.2;rw[rp]at rp';have:=Option.some.inj rp';rw[Gd,ap2];simp only[List.length_map,List.length_range];simp;omega
  ·rfl
theorem ab9{gP:List (List Int)}{f:bj}(hf:Dk gP f){i:Nat}(hi:i<f.aF.length){c:aG}(hc:xW f c):Wp (jw (i:Int) c) (xW f):=by
 obtain⟨I,T,r0,hx⟩:=hf.cs i _ (List.getElem?_eq_getElem hi);have n3:=hf.n3;have f2:=hf.f2;have v2:=hx.v2;have vl:=hx.Qu;have i1:=hx.i1;have i3:=hx.i3;have t1:=hx.t1;have r3:=(hf.ar r0 (List.mem_of_getElem? hx.ar)).2.1;unfold jw;rw[hc.1];refine aA (gR _ _ |>.trans (List.getElem?_eq_getElem hi)) ?_;have hcn:=hx.name;have z1:(f.aF[i]).bn.size=1:=by rw[hcn];rfl
 generalize f.aF[i]=x at hx hcn z1 v2 vl ⊢;refine aK (by simp only[ByteArray.size_append,Af,List.length_cons,List.length_nil];omega) (wat hc.2 (ak (fun hb=>by cases hb) (fun _=>?_)));have hk:∀w,xW f { c with BI:=w }:=fun w=>hc
 dsimp only;rw[hc.1];refine aK (by unfold eN;omega) ?_;refine au (P:=fun q=>q.2=false) ((yF (by rw[List.length_take];omega)).imp ?_) ?_
 ·rintro⟨y,q⟩ (⟨_,h1,h2⟩|⟨rfl,_⟩)
  ·exfalso
   dsimp only at h1 h2;rw[Int.toNat_natCast]at h1;obtain⟨j,hj,rfl⟩:=List.getElem_of_mem h1;rw[List.length_take]at hj;rw[List.getElem_take]at h2;obtain⟨_,_,_,g⟩:=hf.cs j _ (List.getElem?_eq_getElem (by omega));rw[g.name,hcn]at h2;have:=LV (by omega) (by omega) h2;omega
  ·rfl
 rintro⟨y,q⟩ rfl;dsimp only;refine au (P:=(· = false)) (ia (fun _=>(Fa (by omega)).imp ?_) (fun h=>by cases h)) ?_
 ·rintro r (⟨_,a,ha,e⟩|⟨rfl,_⟩)
  ·exfalso
   obtain⟨j,hj,rfl⟩:=List.getElem_of_mem ha;rw[hf.fn j _ (List.getElem?_eq_getElem hj),hcn]at e;exact ah9 e.symm
  ·rfl
 rintro r rfl;refine Qs rfl ?_;refine eI (fun _ s=>xW f s) (by unfold m64;omega) ⟨rfl,hc.2⟩ ?_ ?_
 ·intro j s hj hs
  refine bJ hj (fun v w1 w2=>?_)
  obtain⟨d,k,hd,hkk,hvn,hdn⟩:∃d k:Nat,d<256∧k<200∧v.bn=nm d k∧d≠102:=by
   rw[hx.vars]at w2;rcases zC w2 with⟨i,hi,rfl⟩ | rfl|⟨i,hi,rfl⟩
   ·exact⟨120,i,by omega,by omega,rfl,by omega⟩
   ·exact⟨98,0,by omega,by omega,rfl,by omega⟩
   ·exact⟨116,i,by omega,by omega,rfl,by omega⟩
  have z2:v.bn.size=2:=by rw[hvn];rfl
  refine aK (by simp only[ByteArray.size_append,Af,List.length_cons,List.length_nil];omega) (aK (by simp only[ByteArray.size_append,Af,List.length_cons,List.length_nil];omega) (aK (by simp only[ByteArray.size_append,Af,List.length_cons,List.length_nil];omega) (wat hs.2 (ak (fun hb=>by cases hb) (fun _=>aK (by unfold eN;omega) ?_)))));refine au (P:=fun q=>q.2=false) ((CA (by rw[List.length_take];omega)).imp ?_) ?_
  ·rintro⟨y,q⟩ (⟨_,h1,h2⟩|⟨rfl,_⟩)
   ·exfalso
    dsimp only at h1 h2;rw[Int.toNat_natCast,hx.vars]at h1;rw[hx.vars]at w1;exact RT (WT i1 i3 t1) w1 h1 h2
   ·rfl
  rintro⟨y,q⟩ rfl;dsimp only;rw[hs.1];refine au (P:=(· = false)) (ia (fun _=>?_) (fun h=>by cases h)) ?_
  ·rw[hvn]
   refine(EZ f2 hf.fn hd hkk).imp ?_;rintro r (⟨_,h3,_⟩|⟨rfl,_⟩)
   ·exact absurd h3 hdn
   ·rfl
  rintro r rfl;exact Qs rfl (ax (ah ⟨rfl,hs.2⟩))
 intro s hs;refine eI (fun _ s=>xW f s) (by unfold m64;omega) hs ?_ (fun s hs=>aI (ah hs));intro j s hj hs;refine bJ hj (fun u u1 u2=>?_);have hul:=(hx.h1 u u2).2;refine eI (fun _ s=>xW f s) (by unfold m64;omega) hs ?_ (fun s hs=>ax (ah hs));intro k s hkj hs;refine bJ hkj (fun h e1 e2=>?_);have hh:=hx.hs u u2 k h e1
 have z2:h.bn.size=2:=by
  obtain⟨_,_,_,_,DL,_⟩:=hh;rw[DL];rfl
 obtain⟨g1,g2⟩:=aed (v:=[]) hf hx hj hs u1 e1;refine aK (by simp only[ByteArray.size_append,Af,List.length_cons,List.length_nil];omega) (aK (by simp only[ByteArray.size_append,Af,List.length_cons,List.length_nil];omega) (aK (by simp only[ByteArray.size_append,Af,List.length_cons,List.length_nil];omega) (aK (by simp only[ByteArray.size_append,Af,List.length_cons,List.length_nil];omega) ?_)));refine au (Cd (by omega) (by omega)) (fun st yL=>?_);refine aK (by simp only[ByteArray.size_append,Af,List.length_cons,List.length_nil];omega) (wat hs.2 (ak (fun hb=>by cases hb) (fun _=>aK (by unfold eN;omega) (aV ?_))));rw[Int.toNat_natCast];refine au g1 ?_;rintro⟨y,q⟩ rfl;refine Qs rfl (aK (by unfold eN;omega) ?_);rw[Int.toNat_natCast];refine au g2 ?_;rintro⟨y,q⟩ hq;refine Qs hq ?_;refine au (Cd (by omega) (by omega)) (fun st2 aF7=>?_);refine aK (by simp only[ByteArray.size_append,Af,List.length_cons,List.length_nil];omega) ?_;refine au (aQ (Yj (c:={ s with BI:=_ }) hf hx hh (by simp only[ByteArray.size_append,Af,List.length_cons,List.length_nil];omega) hs)) (fun q hq=>ax (ah hq))
theorem XZ{n:Nat}(hn:1≤n)(hn3:n≤3){ks:List (Nat×Int)}(h1:(ks.map (·.1)).Pairwise (· < ·))(h2:∀p∈ks,p.1<n*n∧1≤p.2∧p.2≤3):(ks.map fun p=>(⟨cn (p.1 / n),cn (p.1 % n),p.2⟩:cv)).Pairwise (fun a b=>¬(a.gS=b.gS∧a.uS=b.uS)):=by
 rw[List.pairwise_map]at h1 ⊢;refine h1.imp_of_mem (fun {a b} ha hb hab e=>?_);dsimp only at e;have ha:=(h2 a ha).1;have hb:=(h2 b hb).1;have d1:a.1 / n<n:=Nat.div_lt_of_lt_mul ha;have d2:b.1 / n<n:=Nat.div_lt_of_lt_mul hb;have d3:a.1 % n<n:=Nat.mod_lt _ (by omega);have d4:b.1 % n<n:=Nat.mod_lt _ (by omega);have e1:=LV (by omega) (by omega) e.1;have e2:=LV (by omega) (by omega) e.2;have a1:=Nat.div_add_mod a.1 n;have b1:=Nat.div_add_mod b.1 n;rw[e1,e2,b1]at a1;omega
theorem UL{l:List cv}{x:cv}(hl:l.length≤1000)(h:∀a∈l,¬(a.gS=x.gS∧a.uS=x.uS)):eu l x=some false:=by
 unfold eu fC;refine ca (au (P:=(· = -1)) (aQ (eI (fun _ _=>True) (by unfold m64;omega) trivial ?_ (fun _ _=>aI (ah rfl)))) (fun r e=>by subst e;exact aI (ah rfl)));intro j _ hj _;refine bJ hj (fun a a1 a2=>?_);unfold mW;refine od (aQ (aI (ah ?_)));rw[zw,zw];refine ak (fun hb=>?_) (fun _=>ax (ah trivial));rw[Bool.and_eq_true,decide_eq_true_eq,decide_eq_true_eq]at hb;exact absurd hb (h a a2)
theorem Yr{gP:List (List Int)}{f:bj}(hf:Dk gP f){c:aG}(hc:xW f c):Wp (lH c) (xW f):=by
 have f2:=hf.f2;unfold lH;rw[hc.1];refine eI (fun _ s=>xW f s) (by unfold m64;omega) hc ?_ (fun s hs=>aI (ah hs));intro j s hj hs;refine bJ hj (fun x x1 x2=>?_);have hn:=hf.fn j x x1;have z:x.bn.size=2:=by rw[hn];rfl
 refine aK (by simp only[ByteArray.size_append,Af,List.length_cons,List.length_nil];omega) (wat hs.2 (ak (fun hb=>by cases hb) (fun _=>?_)));dsimp only;rw[hs.1];refine aK (by unfold eN;omega) ?_;refine au (P:=(· = false)) ((Fa (by rw[List.length_take];omega)).imp ?_) ?_
 ·rintro r (⟨_,a,ha,e⟩|⟨rfl,_⟩)
  ·exfalso
   rw[Int.toNat_natCast]at ha;obtain⟨i,hi,rfl⟩:=List.getElem_of_mem ha;rw[List.length_take]at hi;rw[List.getElem_take,hf.fn i _ (List.getElem?_eq_getElem (by omega)),hn]at e;have:=vG (by omega) (by omega) (by omega) (by omega) e;omega
  ·rfl
 rintro r rfl;exact Qs rfl (ax (ah ⟨rfl,hs.2⟩))
theorem XY{gP:List (List Int)}{f:bj}(hf:Dk gP f){c:aG}(hc:xW f c):Wp (lG c) (xW f):=by
 have n1:=hf.n1;have n3:=hf.n3;have l9:=hf.JG;unfold lG;rw[hc.1];refine eI (fun _ s=>xW f s) (by unfold m64;omega) hc ?_ (fun s hs=>aI (ah hs));intro j s hj hs;refine bJ hj (fun x x1 x2=>?_);obtain⟨a,b,ha,hb,hfr,VL,_⟩:=l9.2 x x2;have z1:x.gS.size=1:=by rw[hfr];rfl
 have z2:x.uS.size=1:=by rw[VL];rfl
 refine aK (by simp only[ByteArray.size_append,Af,List.length_cons,List.length_nil];omega) (aK (by simp only[ByteArray.size_append,Af,List.length_cons,List.length_nil];omega) (aK (by simp only[ByteArray.size_append,Af,List.length_cons,List.length_nil];omega) (wat hs.2 (ak (fun hb=>by cases hb) (fun _=>aV ?_)))));have mm:xW f { s with BI:=(((⟨#[108,105,110,107,32]⟩++x.gS)++⟨#[32]⟩)++x.uS) }:=hs;refine cw (fun _ s=>xW f s) (by unfold m64;simp) mm ?_ ?_
 ·intro i s hi hs
  refine bJ hi (fun y y1 y2=>?_);rw[hs.1]
  obtain⟨m,hm,rfl⟩:∃m,m<f.aF.length∧y=cn m:=by
   simp at y2;rcases y2 with rfl|rfl
   ·exact⟨a,ha,hfr⟩
   ·exact⟨b,hb,VL⟩
  refine au (yF (by omega)) ?_;rintro⟨y,q⟩ (⟨rfl,_⟩|⟨_,h⟩)
  ·exact Qs rfl (ax (ah hs))
  ·exfalso
   obtain⟨_,_,_,g⟩:=hf.cs m _ (List.getElem?_eq_getElem hm);exact h _ (List.getElem_mem hm) g.name
 ·intro s hs
  rw[hs.1];refine aK (by unfold eN;omega) ?_
  refine aA (x:=false) (by
   unfold cl;refine UL (by rw[List.length_take];omega) (fun a ha=>?_);obtain⟨ks,k1,k2,k3⟩:=hf.lk;rw[Int.toNat_natCast]at ha;rw[k3]at ha x1;exact RT (XZ n1 n3 k1 k2) x1 ha) ?_
  exact Qs rfl (ax (ah hs))
theorem WW{gP:List (List Int)}{f:bj}(hf:Dk gP f):Wp (wT f) fun r=>r.2=0:=by
 have n3:=hf.n3;unfold wT;refine aA (HO hf) (wrp ?_);have h0:xW f (aG.mk f ⟨#[102,108,101,101,116]⟩ (oA.mk ByteArray.empty ByteArray.empty 0)):=⟨rfl,rfl⟩;refine au (aQ (Yr hf h0)) (fun c hc=>?_);refine au (aQ (XY hf hc)) (fun c hc=>?_);refine cw (fun _ s=>xW f s) (by unfold m64;omega) hc ?_ (fun s hs=>ah hs.2);intro j s hj hs;exact au (aQ (ab9 hf (by omega) hs)) (fun c hc=>ax (ah hc))
open Go.RowKit
attribute [local irreducible] ik du bx iM oE dL eN iJ
structure az where
 fV:bj
 cV:List (List ByteArray)
 lQ:Int
 iK:List ByteArray
 cC:List ByteArray
 dB:List ByteArray
 eH:List ByteArray
 cE:List aC
structure dQ where
 ew:ByteArray
 adC:ByteArray
 JL:Int
 rG:Int
def Qq(x:dQ):List DV:=[.str x.ew,.str x.adC,.int .i64 x.JL,.int .i64 x.rG]
def dQ.dv(x:dQ):DV:=.agg (Qq x)
def tb1:List dQ:=[(dQ.mk ByteArray.empty ByteArray.empty 0 0),(dQ.mk ⟨#[99,111,110,115,116]⟩ ⟨#[78]⟩ 0 1),(dQ.mk ⟨#[118,97,114]⟩ ⟨#[65]⟩ 0 1),(dQ.mk ⟨#[112,97,114,97,109]⟩ ⟨#[65]⟩ 0 1),(dQ.mk ⟨#[102,108,97,103]⟩ ⟨#[65]⟩ 0 1),(dQ.mk ⟨#[110,111,119]⟩ ByteArray.empty 0 1),(dQ.mk ⟨#[103,101,116]⟩ ⟨#[65]⟩ 1 1),(dQ.mk ⟨#[104,97,115]⟩ ⟨#[65]⟩ 1 1),(dQ.mk ⟨#[115,105,122,101]⟩ ⟨#[65]⟩ 0 1),(dQ.mk ⟨#[110,101,103]⟩ ByteArray.empty 1 1),(dQ.mk ⟨#[110,111,116]⟩ ByteArray.empty 1 1),(dQ.mk ⟨#[109,117,108]⟩ ByteArray.empty 2 1),(dQ.mk ⟨#[100,105,118]⟩ ByteArray.empty 2 1),(dQ.mk ⟨#[109,111,100]⟩ ByteArray.empty 2 1),(dQ.mk ⟨#[97,100,100]⟩ ByteArray.empty 2 1),(dQ.mk ⟨#[115,117,98]⟩ ByteArray.empty 2 1),(dQ.mk ⟨#[101,113]⟩ ByteArray.empty 2 1),(dQ.mk ⟨#[110,101]⟩ ByteArray.empty 2 1),(dQ.mk ⟨#[108,116]⟩ ByteArray.empty 2 1),(dQ.mk ⟨#[108,101]⟩ ByteArray.empty 2 1),(dQ.mk ⟨#[103,116]⟩ ByteArray.empty 2 1),(dQ.mk ⟨#[103,101]⟩ ByteArray.empty 2 1),(dQ.mk ⟨#[97,110,100]⟩ ByteArray.empty 2 1),(dQ.mk ⟨#[111,114]⟩ ByteArray.empty 2 1),(dQ.mk ⟨#[115,101,116,118,97,114]⟩ ⟨#[65]⟩ 1 0),(dQ.mk ⟨#[112,117,116]⟩ ⟨#[65]⟩ 2 0),(dQ.mk ⟨#[100,101,108,101,116,101]⟩ ⟨#[65]⟩ 1 0),(dQ.mk ⟨#[106,117,109,112]⟩ ⟨#[65]⟩ 0 0),(dQ.mk ⟨#[98,114,97,110,99,104]⟩ ⟨#[65]⟩ 1 0),(dQ.mk ⟨#[99,111,115,116]⟩ ByteArray.empty 0 0),(dQ.mk ⟨#[115,101,110,100]⟩ ⟨#[65,66,78]⟩ 0 0),(dQ.mk ⟨#[97,102,116,101,114]⟩ ⟨#[66,78]⟩ 1 0),(dQ.mk ⟨#[115,116,111,114,101]⟩ ⟨#[66]⟩ 2 0),(dQ.mk ⟨#[102,101,116,99,104]⟩ ⟨#[65,66]⟩ 1 0),(dQ.mk ⟨#[115,116,111,112]⟩ ByteArray.empty 0 0)]
instance:Tb 1 4 dQ.dv tb1:=⟨by kernel_rfl,by kernel_rfl⟩
def az.b0(x:az)(d4:DV)(d6:DV)(d7:DV)(d8:DV)(d10:DV):List DV:=[.str x.fV.bn,.sl 2 (List.map nC x.fV.aR),.sl 3 (List.map qA x.fV.fP),.sl 3 (List.map oK x.fV.aF),d4,.int .i64 x.lQ,d6,d7,d8,.sl 1 (List.map DV.str x.eH),d10]
def az.b2(x:az)(d4:DV)(d6:DV)(d7:DV)(d8:DV):List DV:=[.str x.fV.bn,.sl 2 (List.map nC x.fV.aR),.sl 3 (List.map qA x.fV.fP),.sl 3 (List.map oK x.fV.aF),d4,.int .i64 x.lQ,d6,d7,d8,.sl 1 (List.map DV.str x.eH),.sl 4 (List.map fw x.cE)]
noncomputable def bO(x1:aC)(o0:az):Option (Int×az) :=
 eT 11 (bA 4 fw) [x1] fun v1=>
 Ck (dL 32 (o0.cE.length+List.length v1))<|
 rX [(50000,12)] (some ((IntKind.wrap .i64 ((List.length (o0.cE++v1):Int)-1)),({ o0 with cE:=(o0.cE++v1) }:az)))
instance LS{x1 o0}:MA (bO x1 o0) prog 355 (fun _=>7) fun r=>⟨[.ref 100000 0,.agg (Br x1)],[(100000,some (.bC 295 (az.b0 o0 (.row 100001) (.row 100002) (.row 100003) (.row 100004) (.row 100005)))),(100001,some (.R 176 1 (bA 1 DV.str) o0.cV)),(100002,some (.R 9 1 DV.str o0.iK)),(100003,some (.R 9 1 DV.str o0.cC)),(100004,some (.R 9 1 DV.str o0.dB)),(100005,some (.R 357 4 fw o0.cE))],.I r.1,[(100000,some (.bC 295 (az.b0 r.2 (.row 100001) (.row 100002) (.row 100003) (.row 100004) (.row 50000)))),(100001,some (.R 176 1 (bA 1 DV.str) r.2.cV)),(100002,some (.R 9 1 DV.str r.2.iK)),(100003,some (.R 9 1 DV.str r.2.cC)),(100004,some (.R 9 1 DV.str r.2.dB)),(50000,some (.R 357 4 fw r.2.cE)),(100005,none)],[50000]⟩:=⟨fun hM=>by unfold bO at hM;exact ab func355 ntmps355⟩
noncomputable def mQ(x1:ByteArray)(o0:az):Option az :=
 Bi (eh o0.eH x1) fun v2=>
 If (decide (0≤v2)) (
  Bi (cl 17 [(50000,10001)] (bO (aC.mk 3 v2 0 0) o0)) fun v4=>
  rX [(50000,10001)] (some v4.2))<|
 Bi (cl 23 [(100000,100002)] (db x1 o0.iK)) fun v6=>
 If (decide (0≤v6)) (
  Bi (cl 29 [(50000,10002)] (bO (aC.mk 2 v6 0 0) o0)) fun v8=>
  rX [(50000,10002)] (some v8.2))<|
 Bi (cl 36 [(100000,100004)] (db x1 o0.dB)) fun v10=>
 Bi (cl 38 [(50000,10003)] (bO (aC.mk 4 v10 0 0) o0)) fun v12=>
 rX [(50000,10003)] (some v12.2)
instance LR{x1 o0}:MA (mQ x1 o0) prog 393 (fun _=>7) fun r=>⟨[.ref 100000 0,.str x1],[(100000,some (.bC 295 (az.b0 o0 (.row 100001) (.row 100002) (.row 100003) (.row 100004) (.row 100005)))),(100001,some (.R 176 1 (bA 1 DV.str) o0.cV)),(100002,some (.R 9 1 DV.str o0.iK)),(100003,some (.R 9 1 DV.str o0.cC)),(100004,some (.R 9 1 DV.str o0.dB)),(100005,some (.R 357 4 fw o0.cE))],.gW [],[(100000,some (.bC 295 (az.b0 r (.row 100001) (.row 100002) (.row 100003) (.row 100004) (.row 50000)))),(100001,some (.R 176 1 (bA 1 DV.str) r.cV)),(100002,some (.R 9 1 DV.str r.iK)),(100003,some (.R 9 1 DV.str r.cC)),(100004,some (.R 9 1 DV.str r.dB)),(50000,some (.R 357 4 fw r.cE)),(100005,none)],[50000]⟩:=⟨fun hM=>by unfold mQ at hM;exact ae func393 ntmps393⟩
@[reducible] noncomputable def jO(x1:aB)(v2:az)(Cn:Bool):Option az :=
 If Cn (
  Bi (cl 56 [(100000,100003)] (db x1.bn v2.cC)) fun qs=>
  Bi (cl 58 [(100005,10007),(50000,10008)] (bO (aC.mk x1.cU qs 0 0) v2)) fun qt=>
  rX [(50000,10008)] (some qt.2))<|
 Bi (cl 14 [(100005,10007),(50000,10009)] (bO (aC.mk x1.cU 0 0 0) v2)) fun xw=>
 rX [(50000,10009)] (some xw.2)
noncomputable def lS(sf_code_compiler_exprs_a:(List DV)→az→Option az)(x1:aB)(o0:az):Option az :=
 Bi (cl 7 [(50000,10001)] (sf_code_compiler_exprs_a x1.bR o0)) fun v2=>
 If (x1.cU==1) (
  Bi (cl 21 [(100005,10001),(50000,10002)] (bO (aC.mk 1 0 0 x1.gN) v2)) fun v4=>
  rX [(50000,10002)] (some v4.2))<|
 If (x1.cU==2) (
  Bi (cl 26 [(100005,10001),(50000,10003)] (bO (aC.mk 1 0 0 1) v2)) fun v6=>
  rX [(50000,10003)] (some v6.2))<|
 If (x1.cU==3) (
  Bi (cl 31 [(100005,10001),(50000,10004)] (bO (aC.mk 1 0 0 0) v2)) fun v8=>
  rX [(50000,10004)] (some v8.2))<|
 If (x1.cU==4) (
  Bi (cl 36 [(100005,10001),(50000,10005)] (bO (aC.mk 5 0 0 0) v2)) fun v10=>
  rX [(50000,10005)] (some v10.2))<|
 If (x1.cU==5) (
  Bi (cl 42 [(100005,10001),(50000,10006)] (mQ x1.bn v2)) fun v12=>
  rX [(50000,10006)] (some v12))<|
 jn (jO x1 v2) 14 [100000,100001,100002,100003,100004,100005] [0,3] [3,100001,100002,100003,100004] (fun s t=>(43,.bool s)::t) (fun _ t=>(10007,some (.R 357 4 fw v2.cE))::(100000,some (.bC 295 (az.b0 v2 (.row 100001) (.row 100002) (.row 100003) (.row 100004) (.row 10007))))::t)<|
 If (x1.cU==6) (
  nX [] [(10007,10001)] (jO x1 v2 (x1.cU==6)))<|
 If (x1.cU==7) (
  nX [] [(10007,10001)] (jO x1 v2 (x1.cU==7)))<|
 nX [] [(10007,10001)] (jO x1 v2 (x1.cU==8))
instance Kc{sf_code_compiler_exprs_a:(List DV)→az→Option az}[ih_code_compiler_exprs_a:∀{x1 o0},MA (sf_code_compiler_exprs_a x1 o0) prog 356 (fun _=>7) fun r=>⟨[.ref 100000 0,.L 4 mh x1],[(100000,some (.bC 295 (az.b0 o0 (.row 100001) (.row 100002) (.row 100003) (.row 100004) (.row 100005)))),(100001,some (.R 176 1 (bA 1 DV.str) o0.cV)),(100002,some (.R 9 1 DV.str o0.iK)),(100003,some (.R 9 1 DV.str o0.cC)),(100004,some (.R 9 1 DV.str o0.dB)),(100005,some (.R 357 4 fw o0.cE))],.gW [],[(100000,some (.bC 295 (az.b0 r (.row 100001) (.row 100002) (.row 100003) (.row 100004) (.row 50000)))),(100001,some (.R 176 1 (bA 1 DV.str) r.cV)),(100002,some (.R 9 1 DV.str r.iK)),(100003,some (.R 9 1 DV.str r.cC)),(100004,some (.R 9 1 DV.str r.dB)),(50000,some (.R 357 4 fw r.cE)),(100005,none)],[50000]⟩]{x1 o0}:MA (lS sf_code_compiler_exprs_a x1 o0) prog 381 (fun _=>7) fun r=>⟨[.ref 100000 0,.agg (kH x1)],[(100000,some (.bC 295 (az.b0 o0 (.row 100001) (.row 100002) (.row 100003) (.row 100004) (.row 100005)))),(100001,some (.R 176 1 (bA 1 DV.str) o0.cV)),(100002,some (.R 9 1 DV.str o0.iK)),(100003,some (.R 9 1 DV.str o0.cC)),(100004,some (.R 9 1 DV.str o0.dB)),(100005,some (.R 357 4 fw o0.cE))],.gW [],[(100000,some (.bC 295 (az.b0 r (.row 100001) (.row 100002) (.row 100003) (.row 100004) (.row 50000)))),(100001,some (.R 176 1 (bA 1 DV.str) r.cV)),(100002,some (.R 9 1 DV.str r.iK)),(100003,some (.R 9 1 DV.str r.cC)),(100004,some (.R 9 1 DV.str r.dB)),(50000,some (.R 357 4 fw r.cE)),(100005,none)],[50000]⟩:=⟨fun hM=>by unfold lS at hM;exact ae func381 ntmps381⟩
noncomputable def kr(sf_code_compiler_exprs_a:(List DV)→az→Option az)(x1:List DV)(o0:az):Option az :=
 fL (o0.fV,o0.cV,o0.lQ,o0.iK,o0.cC,o0.dB,o0.eH,o0.cE) 8 [100000,100001,100002,100003,100004,100005] [0,6,7] [] i2 (fun s t=>(10001,some (.R 357 4 fw s.2.2.2.2.2.2.2))::(100000,some (.bC 295 [.str s.1.bn,.L 2 nC s.1.aR,.L 3 qA s.1.fP,.L 3 oK s.1.aF,.row 100001,.I s.2.2.1,.row 100002,.row 100003,.row 100004,.L 1 DV.str s.2.2.2.2.2.2.1,.row 10001]))::(100001,some (.R 176 1 (bA 1 DV.str) s.2.1))::(100002,some (.R 9 1 DV.str s.2.2.2.1))::(100003,some (.R 9 1 DV.str s.2.2.2.2.1))::(100004,some (.R 9 1 DV.str s.2.2.2.2.2.1))::t) [] [(10001,100005)] m64 (x1.length:Int) (fun k1 wH=>
  Bi (idx x1 (k1:Int)) fun v12=>
  Bi (aB.dec v12) fun mU=>
  Bi (cl 14 [(100005,10001),(50000,10002)] ((lS sf_code_compiler_exprs_a) mU (az.mk wH.1 wH.2.1 wH.2.2.1 wH.2.2.2.1 wH.2.2.2.2.1 wH.2.2.2.2.2.1 wH.2.2.2.2.2.2.1 wH.2.2.2.2.2.2.2))) fun pF=>
  nX [] [(10001,10002)] (some (pF.fV,pF.cV,pF.lQ,pF.iK,pF.cC,pF.dB,pF.eH,pF.cE))) fun wH=>
 rX [(50000,10001)] (some (az.mk wH.1 wH.2.1 wH.2.2.1 wH.2.2.2.1 wH.2.2.2.2.1 wH.2.2.2.2.2.1 wH.2.2.2.2.2.2.1 wH.2.2.2.2.2.2.2))
theorem zP{sf_code_compiler_exprs_a:(List DV)→az→Option az}[ih_code_compiler_exprs_a:∀{x1 o0},MA (sf_code_compiler_exprs_a x1 o0) prog 356 (fun _=>7) fun r=>⟨[.ref 100000 0,.L 4 mh x1],[(100000,some (.bC 295 (az.b0 o0 (.row 100001) (.row 100002) (.row 100003) (.row 100004) (.row 100005)))),(100001,some (.R 176 1 (bA 1 DV.str) o0.cV)),(100002,some (.R 9 1 DV.str o0.iK)),(100003,some (.R 9 1 DV.str o0.cC)),(100004,some (.R 9 1 DV.str o0.dB)),(100005,some (.R 357 4 fw o0.cE))],.gW [],[(100000,some (.bC 295 (az.b0 r (.row 100001) (.row 100002) (.row 100003) (.row 100004) (.row 50000)))),(100001,some (.R 176 1 (bA 1 DV.str) r.cV)),(100002,some (.R 9 1 DV.str r.iK)),(100003,some (.R 9 1 DV.str r.cC)),(100004,some (.R 9 1 DV.str r.dB)),(50000,some (.R 357 4 fw r.cE)),(100005,none)],[50000]⟩]{x1 o0}:MA (kr sf_code_compiler_exprs_a x1 o0) prog 356 (fun _=>7) fun r=>⟨[.ref 100000 0,.L 4 mh x1],[(100000,some (.bC 295 (az.b0 o0 (.row 100001) (.row 100002) (.row 100003) (.row 100004) (.row 100005)))),(100001,some (.R 176 1 (bA 1 DV.str) o0.cV)),(100002,some (.R 9 1 DV.str o0.iK)),(100003,some (.R 9 1 DV.str o0.cC)),(100004,some (.R 9 1 DV.str o0.dB)),(100005,some (.R 357 4 fw o0.cE))],.gW [],[(100000,some (.bC 295 (az.b0 r (.row 100001) (.row 100002) (.row 100003) (.row 100004) (.row 50000)))),(100001,some (.R 176 1 (bA 1 DV.str) r.cV)),(100002,some (.R 9 1 DV.str r.iK)),(100003,some (.R 9 1 DV.str r.cC)),(100004,some (.R 9 1 DV.str r.dB)),(50000,some (.R 357 4 fw r.cE)),(100005,none)],[50000]⟩:=⟨fun hM=>by unfold kr at hM;exact ae func356 ntmps356⟩
noncomputable def iC:Nat→(List DV)→az→Option az
 |0,_,_=>none
 |fu+1,x1,o0=>kr (iC fu) x1 o0
instance Kb(fu:Nat){x1 o0}:MA (iC fu x1 o0) prog 356 (fun _=>7) fun r=>⟨[.ref 100000 0,.L 4 mh x1],[(100000,some (.bC 295 (az.b0 o0 (.row 100001) (.row 100002) (.row 100003) (.row 100004) (.row 100005)))),(100001,some (.R 176 1 (bA 1 DV.str) o0.cV)),(100002,some (.R 9 1 DV.str o0.iK)),(100003,some (.R 9 1 DV.str o0.cC)),(100004,some (.R 9 1 DV.str o0.dB)),(100005,some (.R 357 4 fw o0.cE))],.gW [],[(100000,some (.bC 295 (az.b0 r (.row 100001) (.row 100002) (.row 100003) (.row 100004) (.row 50000)))),(100001,some (.R 176 1 (bA 1 DV.str) r.cV)),(100002,some (.R 9 1 DV.str r.iK)),(100003,some (.R 9 1 DV.str r.cC)),(100004,some (.R 9 1 DV.str r.dB)),(50000,some (.R 357 4 fw r.cE)),(100005,none)],[50000]⟩:=by
 induction fu generalizing x1 o0 with
 |zero=>exact⟨fun h=>by cases h⟩
 |succ fu ih=>exact zP (sf_code_compiler_exprs_a:=iC fu)
noncomputable def kC(x0:aM)(o0:bf):Option Bool :=
 rX [] (some (x0.bn.toList==o0.bn.toList))
instance FD{x0 o0}:MA (kC x0 o0) prog 359 (fun _=>0) fun r=>⟨[.agg (zk x0),.ref 100000 0],[(100000,some (.bC 332 (sP o0)))],.bool r,[(100000,some (.bC 332 (sP o0)))],[]⟩:=⟨fun hM=>by unfold kC at hM;exact ab func359 ntmps359⟩
noncomputable def dN(x0:List aM)(o0:bf):Option Int :=
 fO (E:=Int) () 8 [100000] [0,1,7] [100000] i2 i2 [] [] m64 (x0.length:Int) (fun k1 _=>
  Bi (idx x0 (k1:Int)) fun v4=>
  Bi (cl 16 [] (kC v4 o0)) fun v6=>
  If v6 (
   rX [] (some (.done (k1:Int))))<|
  nX [] [] (some (.next ()))) fun
  |.next _=>
   rX [] (some (-1))
  |.done r=>some r
instance xA{x0 o0}:MA (dN x0 o0) prog 358 (fun _=>0) fun r=>⟨[.L 3 oK x0,.Dh 359 [.ref 100000 0]],[(100000,some (.bC 332 (sP o0)))],.I r,[(100000,some (.bC 332 (sP o0)))],[]⟩:=⟨fun hM=>by unfold dN at hM;exact ab func358 ntmps358⟩
noncomputable def hQ(sf_code_compiler_body_a:(List DV)→az→Option az)(x1:List DV)(o0:az):Option (Int×az) :=
 If ((x1.length:Int)==0) (
  rX [(50000,100005)] (some ((o0.cE.length:Int),o0)))<|
 Bi (cl 17 [(50000,10001)] (bO (aC.mk 27 0 0 0) o0)) fun v2=>
 Bi (cl 25 [(100005,10001),(50000,10002)] (sf_code_compiler_body_a x1 v2.2)) fun v4=>
 Bi (idx v4.cE v2.1) fun v6=>
 eT 37 fw ({ v6 with gA:=(v4.cE.length:Int) }:aC) fun v7=>
 rX [(50000,10002)] (some ((v2.2.cE.length:Int),({ v4 with cE:=(List.set v4.cE (Int.toNat v2.1) v7) }:az)))
instance IV{sf_code_compiler_body_a:(List DV)→az→Option az}[ih_code_compiler_body_a:∀{x1 o0},MA (sf_code_compiler_body_a x1 o0) prog 253 (fun _=>7) fun r=>⟨[.ref 100000 0,.L 6 mh x1],[(100000,some (.bC 295 (az.b0 o0 (.row 100001) (.row 100002) (.row 100003) (.row 100004) (.row 100005)))),(100001,some (.R 176 1 (bA 1 DV.str) o0.cV)),(100002,some (.R 9 1 DV.str o0.iK)),(100003,some (.R 9 1 DV.str o0.cC)),(100004,some (.R 9 1 DV.str o0.dB)),(100005,some (.R 357 4 fw o0.cE))],.gW [],[(100000,some (.bC 295 (az.b0 r (.row 100001) (.row 100002) (.row 100003) (.row 100004) (.row 50000)))),(100001,some (.R 176 1 (bA 1 DV.str) r.cV)),(100002,some (.R 9 1 DV.str r.iK)),(100003,some (.R 9 1 DV.str r.cC)),(100004,some (.R 9 1 DV.str r.dB)),(50000,some (.R 357 4 fw r.cE)),(100005,none)],[50000]⟩]{x1 o0}:MA (hQ sf_code_compiler_body_a x1 o0) prog 357 (fun _=>7) fun r=>⟨[.ref 100000 0,.L 6 mh x1],[(100000,some (.bC 295 (az.b0 o0 (.row 100001) (.row 100002) (.row 100003) (.row 100004) (.row 100005)))),(100001,some (.R 176 1 (bA 1 DV.str) o0.cV)),(100002,some (.R 9 1 DV.str o0.iK)),(100003,some (.R 9 1 DV.str o0.cC)),(100004,some (.R 9 1 DV.str o0.dB)),(100005,some (.R 357 4 fw o0.cE))],.I r.1,[(100000,some (.bC 295 (az.b0 r.2 (.row 100001) (.row 100002) (.row 100003) (.row 100004) (.row 50000)))),(100001,some (.R 176 1 (bA 1 DV.str) r.2.cV)),(100002,some (.R 9 1 DV.str r.2.iK)),(100003,some (.R 9 1 DV.str r.2.cC)),(100004,some (.R 9 1 DV.str r.2.dB)),(50000,some (.R 357 4 fw r.2.cE)),(100005,none)],[50000]⟩:=⟨fun hM=>by unfold hQ at hM;exact ab func357 ntmps357⟩
noncomputable def jg(sf_code_compiler_body_a:(List DV)→az→Option az)(x1:bf)(o0:az):Option az :=
 Bi (cl 15 [(50000,10001)] (bO (aC.mk 29 0 0 0) o0)) fun v2=>
 Bi (cl 19 [(100005,10001),(50000,10002)] ((iC 64) x1.jV v2.2)) fun v4=>
 If (x1.bw==1) (
  Bi (cl 31 [(100000,100002)] (db x1.bn v4.iK)) fun v6=>
  Bi (cl 33 [(100005,10002),(50000,10003)] (bO (aC.mk 24 v6 0 0) v4)) fun v8=>
  rX [(50000,10003)] (some v8.2))<|
 If (x1.bw==2) (
  Bi (cl 43 [(100000,100003)] (db x1.bn v4.cC)) fun v10=>
  Bi (cl 45 [(100005,10002),(50000,10004)] (bO (aC.mk 25 v10 0 0) v4)) fun v12=>
  rX [(50000,10004)] (some v12.2))<|
 If (x1.bw==3) (
  Bi (cl 55 [(100000,100003)] (db x1.bn v4.cC)) fun qm=>
  Bi (cl 57 [(100005,10002),(50000,10005)] (bO (aC.mk 26 qm 0 0) v4)) fun pF=>
  rX [(50000,10005)] (some pF.2))<|
 If (x1.bw==4) (
  Bi (cl 62 [(100005,10002),(50000,10006)] (bO (aC.mk 28 0 0 0) v4)) fun ob=>
  Bi (cl 66 [(100005,10006),(50000,10007)] (sf_code_compiler_body_a x1.vW ob.2)) fun v20=>
  Bi (cl 70 [(100005,10007),(50000,10008)] ((hQ sf_code_compiler_body_a) x1.uU v20)) fun vX=>
  Bi (idx vX.2.cE ob.1) fun v24=>
  eT 78 fw ({ v24 with gA:=vX.1 }:aC) fun vY=>
  rX [(50000,10008)] (some ({ vX.2 with cE:=(List.set vX.2.cE (Int.toNat ob.1) vY) }:az)))<|
 If (x1.bw==5) (
  Bi (cl 83 [(100005,10002),(50000,10009)] (bO (aC.mk 28 0 0 0) v4)) fun FZ=>
  Bi (cl 87 [(100005,10009),(50000,10010)] (sf_code_compiler_body_a x1.vW FZ.2)) fun GA=>
  Bi (cl 91 [(100005,10010),(50000,10011)] (bO (aC.mk 27 v2.1 0 0) GA)) fun v31=>
  Bi (idx v31.2.cE FZ.1) fun HU=>
  eT 103 fw ({ HU with gA:=(v31.2.cE.length:Int) }:aC) fun Kw=>
  rX [(50000,10011)] (some ({ v31.2 with cE:=(List.set v31.2.cE (Int.toNat FZ.1) Kw) }:az)))<|
 If (x1.bw==6) (
  Bi (cl 112 [(100000,3)] (dN v4.fV.aF x1)) fun Mv=>
  Bi (idx v4.cV Mv) fun Nn=>
  Bi (eh Nn x1.bM) fun v40=>
  Bi (cl 129 [(100005,10002),(50000,10012)] (bO (aC.mk 30 Mv v40 (x1.jV.length:Int)) v4)) fun En=>
  rX [(50000,10012)] (some En.2))<|
 If (x1.bw==7) (
  Bi (idx v4.cV v4.lQ) fun TM=>
  Bi (eh TM x1.bM) fun v46=>
  Bi (cl 151 [(100005,10002),(50000,10013)] (bO (aC.mk 31 0 v46 (IntKind.wrap .i64 ((x1.jV.length:Int)-1))) v4)) fun Gb=>
  rX [(50000,10013)] (some Gb.2))<|
 If (x1.bw==8) (
  Bi (cl 156 [(100005,10002),(50000,10014)] (bO (aC.mk 32 0 0 0) v4)) fun Nq=>
  Bi (cl 160 [(100005,10014),(50000,10015)] ((hQ sf_code_compiler_body_a) x1.uU Nq.2)) fun GB=>
  Bi (idx GB.2.cE Nq.1) fun v54=>
  eT 168 fw ({ v54 with gB:=GB.1 }:aC) fun VN=>
  rX [(50000,10015)] (some ({ GB.2 with cE:=(List.set GB.2.cE (Int.toNat Nq.1) VN) }:az)))<|
 If (x1.bw==9) (
  Bi (cl 178 [(100000,100002)] (db x1.bn v4.iK)) fun VO=>
  Bi (cl 180 [(100005,10002),(50000,10016)] (bO (aC.mk 33 VO 0 0) v4)) fun v59=>
  Bi (cl 184 [(100005,10016),(50000,10017)] ((hQ sf_code_compiler_body_a) x1.uU v59.2)) fun v61=>
  Bi (idx v61.2.cE v59.1) fun v63=>
  eT 192 fw ({ v63 with gB:=v61.1 }:aC) fun TN=>
  rX [(50000,10017)] (some ({ v61.2 with cE:=(List.set v61.2.cE (Int.toNat v59.1) TN) }:az)))<|
 If (x1.bw==10) (
  Bi (cl 197 [(100005,10002),(50000,10018)] (bO (aC.mk 34 0 0 0) v4)) fun v66=>
  rX [(50000,10018)] (some v66.2))<|
 rX [(50000,10002)] (some v4)
instance FU{sf_code_compiler_body_a:(List DV)→az→Option az}[ih_code_compiler_body_a:∀{x1 o0},MA (sf_code_compiler_body_a x1 o0) prog 253 (fun _=>7) fun r=>⟨[.ref 100000 0,.L 6 mh x1],[(100000,some (.bC 295 (az.b0 o0 (.row 100001) (.row 100002) (.row 100003) (.row 100004) (.row 100005)))),(100001,some (.R 176 1 (bA 1 DV.str) o0.cV)),(100002,some (.R 9 1 DV.str o0.iK)),(100003,some (.R 9 1 DV.str o0.cC)),(100004,some (.R 9 1 DV.str o0.dB)),(100005,some (.R 357 4 fw o0.cE))],.gW [],[(100000,some (.bC 295 (az.b0 r (.row 100001) (.row 100002) (.row 100003) (.row 100004) (.row 50000)))),(100001,some (.R 176 1 (bA 1 DV.str) r.cV)),(100002,some (.R 9 1 DV.str r.iK)),(100003,some (.R 9 1 DV.str r.cC)),(100004,some (.R 9 1 DV.str r.dB)),(50000,some (.R 357 4 fw r.cE)),(100005,none)],[50000]⟩]{x1 o0}:MA (jg sf_code_compiler_body_a x1 o0) prog 317 (fun _=>7) fun r=>⟨[.ref 100000 0,.agg (sP x1)],[(100000,some (.bC 295 (az.b0 o0 (.row 100001) (.row 100002) (.row 100003) (.row 100004) (.row 100005)))),(100001,some (.R 176 1 (bA 1 DV.str) o0.cV)),(100002,some (.R 9 1 DV.str o0.iK)),(100003,some (.R 9 1 DV.str o0.cC)),(100004,some (.R 9 1 DV.str o0.dB)),(100005,some (.R 357 4 fw o0.cE))],.gW [],[(100000,some (.bC 295 (az.b0 r (.row 100001) (.row 100002) (.row 100003) (.row 100004) (.row 50000)))),(100001,some (.R 176 1 (bA 1 DV.str) r.cV)),(100002,some (.R 9 1 DV.str r.iK)),(100003,some (.R 9 1 DV.str r.cC)),(100004,some (.R 9 1 DV.str r.dB)),(50000,some (.R 357 4 fw r.cE)),(100005,none)],[50000]⟩:=⟨fun hM=>by unfold jg at hM;exact ae func317 ntmps317⟩
noncomputable def kZ(sf_code_compiler_body_a:(List DV)→az→Option az)(x1:List DV)(o0:az):Option az :=
 fL (o0.fV,o0.cV,o0.lQ,o0.iK,o0.cC,o0.dB,o0.eH,o0.cE) 8 [100000,100001,100002,100003,100004,100005] [0,6,7] [] i2 (fun s t=>(10001,some (.R 357 4 fw s.2.2.2.2.2.2.2))::(100000,some (.bC 295 [.str s.1.bn,.L 2 nC s.1.aR,.L 3 qA s.1.fP,.L 3 oK s.1.aF,.row 100001,.I s.2.2.1,.row 100002,.row 100003,.row 100004,.L 1 DV.str s.2.2.2.2.2.2.1,.row 10001]))::(100001,some (.R 176 1 (bA 1 DV.str) s.2.1))::(100002,some (.R 9 1 DV.str s.2.2.2.1))::(100003,some (.R 9 1 DV.str s.2.2.2.2.1))::(100004,some (.R 9 1 DV.str s.2.2.2.2.2.1))::t) [] [(10001,100005)] m64 (x1.length:Int) (fun k1 wH=>
  Bi (idx x1 (k1:Int)) fun v12=>
  Bi (bf.dec v12) fun mU=>
  Bi (cl 14 [(100005,10001),(50000,10002)] ((jg sf_code_compiler_body_a) mU (az.mk wH.1 wH.2.1 wH.2.2.1 wH.2.2.2.1 wH.2.2.2.2.1 wH.2.2.2.2.2.1 wH.2.2.2.2.2.2.1 wH.2.2.2.2.2.2.2))) fun pF=>
  nX [] [(10001,10002)] (some (pF.fV,pF.cV,pF.lQ,pF.iK,pF.cC,pF.dB,pF.eH,pF.cE))) fun wH=>
 rX [(50000,10001)] (some (az.mk wH.1 wH.2.1 wH.2.2.1 wH.2.2.2.1 wH.2.2.2.2.1 wH.2.2.2.2.2.1 wH.2.2.2.2.2.2.1 wH.2.2.2.2.2.2.2))
theorem Aw{sf_code_compiler_body_a:(List DV)→az→Option az}[ih_code_compiler_body_a:∀{x1 o0},MA (sf_code_compiler_body_a x1 o0) prog 253 (fun _=>7) fun r=>⟨[.ref 100000 0,.L 6 mh x1],[(100000,some (.bC 295 (az.b0 o0 (.row 100001) (.row 100002) (.row 100003) (.row 100004) (.row 100005)))),(100001,some (.R 176 1 (bA 1 DV.str) o0.cV)),(100002,some (.R 9 1 DV.str o0.iK)),(100003,some (.R 9 1 DV.str o0.cC)),(100004,some (.R 9 1 DV.str o0.dB)),(100005,some (.R 357 4 fw o0.cE))],.gW [],[(100000,some (.bC 295 (az.b0 r (.row 100001) (.row 100002) (.row 100003) (.row 100004) (.row 50000)))),(100001,some (.R 176 1 (bA 1 DV.str) r.cV)),(100002,some (.R 9 1 DV.str r.iK)),(100003,some (.R 9 1 DV.str r.cC)),(100004,some (.R 9 1 DV.str r.dB)),(50000,some (.R 357 4 fw r.cE)),(100005,none)],[50000]⟩]{x1 o0}:MA (kZ sf_code_compiler_body_a x1 o0) prog 253 (fun _=>7) fun r=>⟨[.ref 100000 0,.L 6 mh x1],[(100000,some (.bC 295 (az.b0 o0 (.row 100001) (.row 100002) (.row 100003) (.row 100004) (.row 100005)))),(100001,some (.R 176 1 (bA 1 DV.str) o0.cV)),(100002,some (.R 9 1 DV.str o0.iK)),(100003,some (.R 9 1 DV.str o0.cC)),(100004,some (.R 9 1 DV.str o0.dB)),(100005,some (.R 357 4 fw o0.cE))],.gW [],[(100000,some (.bC 295 (az.b0 r (.row 100001) (.row 100002) (.row 100003) (.row 100004) (.row 50000)))),(100001,some (.R 176 1 (bA 1 DV.str) r.cV)),(100002,some (.R 9 1 DV.str r.iK)),(100003,some (.R 9 1 DV.str r.cC)),(100004,some (.R 9 1 DV.str r.dB)),(50000,some (.R 357 4 fw r.cE)),(100005,none)],[50000]⟩:=⟨fun hM=>by unfold kZ at hM;exact ae func253 ntmps253⟩
noncomputable def ji:Nat→(List DV)→az→Option az
 |0,_,_=>none
 |fu+1,x1,o0=>kZ (ji fu) x1 o0
instance LU(fu:Nat){x1 o0}:MA (ji fu x1 o0) prog 253 (fun _=>7) fun r=>⟨[.ref 100000 0,.L 6 mh x1],[(100000,some (.bC 295 (az.b0 o0 (.row 100001) (.row 100002) (.row 100003) (.row 100004) (.row 100005)))),(100001,some (.R 176 1 (bA 1 DV.str) o0.cV)),(100002,some (.R 9 1 DV.str o0.iK)),(100003,some (.R 9 1 DV.str o0.cC)),(100004,some (.R 9 1 DV.str o0.dB)),(100005,some (.R 357 4 fw o0.cE))],.gW [],[(100000,some (.bC 295 (az.b0 r (.row 100001) (.row 100002) (.row 100003) (.row 100004) (.row 50000)))),(100001,some (.R 176 1 (bA 1 DV.str) r.cV)),(100002,some (.R 9 1 DV.str r.iK)),(100003,some (.R 9 1 DV.str r.cC)),(100004,some (.R 9 1 DV.str r.dB)),(50000,some (.R 357 4 fw r.cE)),(100005,none)],[50000]⟩:=by
 induction fu generalizing x1 o0 with
 |zero=>exact⟨fun h=>by cases h⟩
 |succ fu ih=>exact Aw (sf_code_compiler_body_a:=ji fu)
noncomputable def uW(x0:Int):Option dQ :=
 If (decide (34<x0)) (
  some (dQ.mk ByteArray.empty ByteArray.empty 0 0))<|
 Bi (idx tb1 x0) fun v2=>
 some v2
instance aaA{x0}:MC (uW x0) fun r=>bx prog 283 [.int .u8 x0] (.agg (Qq r)):=⟨fun hM=>by unfold uW at hM;exact pb func283 ntmps283⟩
noncomputable def mi(x0:Int)(x1:Int)(o0:List Int):Option (Bool×(List Int)) :=
 Bi (idx o0 x0) fun v2=>
 eT 23 (DV.int .i64) x1 fun v3=>
 rX [] (some (((decide (v2<0))||(v2==x1)),(List.set o0 (Int.toNat x0) v3)))
instance Rp{x0 x1 o0}:MA (mi x0 x1 o0) prog 282 (fun _=>2) fun r=>⟨[.I x0,.I x1,.ref 100000 0],[(100000,some (.bC 141 [.row 100001])),(100001,some (.R 3 1 (DV.int .i64) o0))],.bool r.1,[(100000,some (.bC 141 [.row 100001])),(100001,some (.R 3 1 (DV.int .i64) r.2))],[]⟩:=⟨fun hM=>by unfold mi at hM;exact ab func282 ntmps282⟩
@[reducible] noncomputable def xj(s1:Unit):Option (Int×Bool) :=
 some (0,false)
@[reducible] noncomputable def qc(x0:aC)(s4:Bool):Option (Int×Bool) :=
 If s4 (
  some (x0.gB,true))<|
 nX [] [] (xj ())
@[reducible] noncomputable def qd(x0:aC)(s5:Bool):Option (Int×Bool) :=
 If s5 (
  some (x0.gA,true))<|
 jn (qc x0) 5 [] [1] [1] (fun s t=>(11,.bool s)::t) i2<|
 If (x0.cU==32) (
  nX [] [] (qc x0 (x0.cU==32)))<|
 nX [] [] (qc x0 (x0.cU==33))
noncomputable def la(x0:aC):Option (Int×Bool) :=
 jn xj 1 [] [] [] i2 i2<|
 jn (qd x0) 2 [] [1,5] [1] (fun s t=>(6,.bool s)::t) i2<|
 If (x0.cU==27) (
  nX [] [] (qd x0 (x0.cU==27)))<|
 nX [] [] (qd x0 (x0.cU==28))
instance Qb{x0}:MC (la x0) fun r=>bx prog 281 [.agg (Br x0)] (.gW [.I r.1,.bool r.2]):=⟨fun hM=>by unfold la at hM;exact pb func281 ntmps281⟩
@[reducible] noncomputable def rU(k5:Nat)(a6:Int)(a7:List Int)(v12:aC)(qs:Int)(qt:dQ)(ue:Int):Option (xV (Int×(List Int)) (Int×Bool)) :=
 Bi (idx (List.set a7 (Int.toNat (k5:Int)) qs) (k5:Int)) fun v20=>
 If ((decide (v20<ue))||((v12.cU==34)&&(v20 != 0))) (
  some (.done (0,false)))<|
 If ((v12.cU != 27)&&(v12.cU != 34)) (
  Bi (cl 108 [(100000,4),(100001,10003)] (mi ((k5:Int)+1) (IntKind.wrap .i64 ((IntKind.wrap .i64 (v20-ue))+qt.rG)) (List.set a7 (Int.toNat (k5:Int)) qs))) fun vX=>
  If (((v12.cU != 27)&&(v12.cU != 34))&&(!vX.1)) (
   some (.done (0,false)))<|
  Bi (la v12) fun v24=>
  If v24.2 (
   Bi (cl 121 [(100000,4),(100001,10003)] (mi v24.1 (IntKind.wrap .i64 ((IntKind.wrap .i64 (v20-ue))+qt.rG)) vX.2)) fun yN=>
   If (v24.2&&(!yN.1)) (
    some (.done (0,false)))<|
   nX [] [(10002,10003)] (some (.next ((if (IntKind.wrap .i64 ((IntKind.wrap .i64 (v20-ue))+qt.rG))>(if v20>a6 then v20 else a6)then(IntKind.wrap .i64 ((IntKind.wrap .i64 (v20-ue))+qt.rG))else(if v20>a6 then v20 else a6)),yN.2))))<|
  If (v24.2&&false) (
   some (.done (0,false)))<|
  nX [] [(10002,10003)] (some (.next ((if (IntKind.wrap .i64 ((IntKind.wrap .i64 (v20-ue))+qt.rG))>(if v20>a6 then v20 else a6)then(IntKind.wrap .i64 ((IntKind.wrap .i64 (v20-ue))+qt.rG))else(if v20>a6 then v20 else a6)),vX.2))))<|
 If (((v12.cU != 27)&&(v12.cU != 34))&&false) (
  some (.done (0,false)))<|
 Bi (la v12) fun vX=>
 If vX.2 (
  Bi (cl 121 [(100000,4),(100001,10003)] (mi vX.1 (IntKind.wrap .i64 ((IntKind.wrap .i64 (v20-ue))+qt.rG)) (List.set a7 (Int.toNat (k5:Int)) qs))) fun v24=>
  If (vX.2&&(!v24.1)) (
   some (.done (0,false)))<|
  nX [] [(10002,10003)] (some (.next ((if (IntKind.wrap .i64 ((IntKind.wrap .i64 (v20-ue))+qt.rG))>(if v20>a6 then v20 else a6)then(IntKind.wrap .i64 ((IntKind.wrap .i64 (v20-ue))+qt.rG))else(if v20>a6 then v20 else a6)),v24.2))))<|
 If (vX.2&&false) (
  some (.done (0,false)))<|
 nX [] [(10002,10003)] (some (.next ((if (IntKind.wrap .i64 ((IntKind.wrap .i64 (v20-ue))+qt.rG))>(if v20>a6 then v20 else a6)then(IntKind.wrap .i64 ((IntKind.wrap .i64 (v20-ue))+qt.rG))else(if v20>a6 then v20 else a6)),(List.set a7 (Int.toNat (k5:Int)) qs))))
noncomputable def tQ(x0:List aC):Option (Int×Bool) :=
 Ck (iJ 8 (IntKind.wrap .i64 ((x0.length:Int)+1)) (IntKind.wrap .i64 ((x0.length:Int)+1)))<|
 eT 16 (DV.int .i64) 0 fun _=>
 fL (List.replicate (Int.toNat (IntKind.wrap .i64 ((x0.length:Int)+1))) (0:Int)) 19 [] [0,2,4,18] [] i2 (fun s t=>(4,some (.bC 141 [.row 10001]))::(10001,some (.R 3 1 (DV.int .i64) s))::t) [] [(10001,16)] m64 (List.length (List.replicate (Int.toNat (IntKind.wrap .i64 ((x0.length:Int)+1))) (0:Int)):Int) (fun k2 s4=>
  Bi (idx s4 (k2:Int)) fun GA=>
  eT 24 (DV.int .i64) (-1) fun v30=>
  nX [] [] (some (List.set s4 (Int.toNat (k2:Int)) v30))) fun s4=>
 fO (E:=Int×Bool) (0,s4) 29 [] [0,4,6,27,28] [] (fun s t=>(2,.I s.1)::t) (fun s t=>(4,some (.bC 141 [.row 10002]))::(10002,some (.R 3 1 (DV.int .i64) s.2))::t) [] [(10002,10001)] m64 (x0.length:Int) (fun k5 s8=>
  Bi (idx x0 (k5:Int)) fun v12=>
  Bi (idx s8.2 (k5:Int)) fun qm=>
  eT 41 (DV.int .i64) (if 0>qm then 0 else qm) fun qs=>
  Bi (uW v12.cU) fun qt=>
  jn (rU k5 s8.1 s8.2 v12 qs qt) 13 [] [0,2,4,6,7,8,9,27,28,29] [8] i2 (fun s t=>(4,some (.bC 141 [.row 10003]))::(9,some (.bC 473 (Qq ({ qt with JL:=s }:dQ))))::(10003,some (.R 3 1 (DV.int .i64) (List.set s8.2 (Int.toNat (k5:Int)) qs)))::t)<|
  If ((v12.cU==30)||(v12.cU==31)) (
   nX [] [(10003,10002)] (rU k5 s8.1 s8.2 v12 qs qt (IntKind.wrap .i64 (qt.JL+v12.gN))))<|
  nX [] [(10003,10002)] (rU k5 s8.1 s8.2 v12 qs qt qt.JL)) fun
  |.next s8=>
   Bi (idx s8.2 (x0.length:Int)) fun v10=>
   some (s8.1,(decide (v10≤0)))
  |.done r=>some r
instance YI{x0}:MC (tQ x0) fun r=>bx prog 219 [.L 4 fw x0] (.gW [.I r.1,.bool r.2]):=⟨fun hM=>by unfold tQ at hM;exact pb func219 ntmps219⟩
noncomputable def lR(x1:br)(o0:az):Option (cD×az) :=
 wk [.c 100000 46002 10 357 4]<|
 Bi (cl 18 [(100005,46002),(50000,10001)] ((ji 64) x1.xc ({ o0 with eH:=x1.dM,cE:=([]:List aC) }:az))) fun v2=>
 wk [.z 10001]<|
 Bi (tQ v2.cE) fun v4=>
 rX [] (some ((cD.mk (x1.dM.length:Int) v4.1 v2.cE),v2))
instance Ka{x1 o0}:MA (lR x1 o0) prog 182 (fun _=>5) fun r=>⟨[.ref 100000 0,.agg (zX x1)],[(100000,some (.bC 295 (az.b2 o0 (.row 100001) (.row 100002) (.row 100003) (.row 100004)))),(100001,some (.R 176 1 (bA 1 DV.str) o0.cV)),(100002,some (.R 9 1 DV.str o0.iK)),(100003,some (.R 9 1 DV.str o0.cC)),(100004,some (.R 9 1 DV.str o0.dB))],.agg (CN r.1),[(100000,some (.bC 295 (az.b2 r.2 (.row 100001) (.row 100002) (.row 100003) (.row 100004)))),(100001,some (.R 176 1 (bA 1 DV.str) r.2.cV)),(100002,some (.R 9 1 DV.str r.2.iK)),(100003,some (.R 9 1 DV.str r.2.cC)),(100004,some (.R 9 1 DV.str r.2.dB))],[]⟩:=⟨fun hM=>by unfold lR at hM;exact ab func182 ntmps182⟩
noncomputable def jh(x1:Int)(o0:az):Option (gg×az) :=
 Bi (idx o0.fV.aF x1) fun v2=>
 wk [.c 100000 46004 6 9 1,.c 100000 46005 7 9 1,.c 100000 46006 8 9 1]<|
 fL ([]:List ByteArray) 45 [100000,100001,100002,100003,100004] [0,1,4,5,43,44] [4,5,100001] i2 (fun s t=>(10001,some (.R 9 1 DV.str ([]:List ByteArray)))::(10002,some (.R 9 1 DV.str ([]:List ByteArray)))::(10003,some (.R 9 1 DV.str s))::(100000,some (.bC 295 (az.b2 ({ o0 with lQ:=x1 }:az) (.row 100001) (.row 10001) (.row 10002) (.row 10003))))::t) [] [(10001,46004),(10002,46005),(10003,46006)] m64 (o0.fV.aR.length:Int) (fun k3 s5=>
  Bi (idx o0.fV.aR (k3:Int)) fun v69=>
  eT 56 (bA 1 DV.str) [v69.bn] fun v70=>
  Ck (dL 16 (s5.length+List.length v70))<|
  nX [] [(10003,57)] (some (s5++v70))) fun s5=>
 fL (([]:List ByteArray),([]:List ByteArray)) 64 [100000,100001,100002,100003,100004] [0,1,4,5,62,63] [4,5,100001] i2 (fun s t=>(10004,some (.R 9 1 DV.str s.1))::(10005,some (.R 9 1 DV.str s.2))::(10006,some (.R 9 1 DV.str s5))::(100000,some (.bC 295 (az.b2 ({ o0 with lQ:=x1 }:az) (.row 100001) (.row 10004) (.row 10005) (.row 10006))))::t) [] [(10004,10001),(10005,10002),(10006,10003)] m64 (v2.ez.length:Int) (fun k6 s9=>
  Bi (idx v2.ez (k6:Int)) fun v63=>
  If (v63.tu==3) (
   eT 78 (bA 1 DV.str) [v63.bn] fun TN=>
   Ck (dL 16 (s9.2.length+List.length TN))<|
   nX [] [(10005,79)] (some (s9.1,(s9.2++TN))))<|
  eT 89 (bA 1 DV.str) [v63.bn] fun v66=>
  Ck (dL 16 (s9.1.length+List.length v66))<|
  nX [] [(10004,90)] (some ((s9.1++v66),s9.2))) fun s9=>
 Bi (idx o0.cV x1) fun v11=>
 Ck (iJ 40 (v11.length:Int) (v11.length:Int))<|
 eT 105 sR (cD.mk 0 0 []) fun _=>
 Ck (iJ 1 (v11.length:Int) (v11.length:Int))<|
 eT 109 DV.bool false fun _=>
 fL ((List.replicate (Int.toNat (v11.length:Int)) (cD.mk 0 0 [])),(List.replicate (Int.toNat (v11.length:Int)) false),o0.fV,o0.cV,x1,s9.1,s9.2,s5,o0.eH,o0.cE,([]:List (List cD)),([]:List (List Bool))) 113 [100000,100001,100002,100003,100004] [0,4,10,111,112] [4] (fun _ t=>(11,.row 10007)::(12,.row 10008)::t) (fun s t=>(10,some (.bC 303 [.L 1 DV.str v11,.row 10012,.row 10013]))::(10007,some (.R 263 3 sR s.1))::(10008,some (.R 4 1 DV.bool s.2.1))::(10009,some (.R 9 1 DV.str s.2.2.2.2.2.1))::(10010,some (.R 9 1 DV.str s.2.2.2.2.2.2.1))::(10011,some (.R 9 1 DV.str s.2.2.2.2.2.2.2.1))::(10012,some (.R 379 1 (bA 3 sR) s.2.2.2.2.2.2.2.2.2.2.1))::(10013,some (.R 140 1 (bA 1 DV.bool) s.2.2.2.2.2.2.2.2.2.2.2))::(100000,some (.bC 295 [.str s.2.2.1.bn,.L 2 nC s.2.2.1.aR,.L 3 qA s.2.2.1.fP,.L 3 oK s.2.2.1.aF,.row 100001,.I s.2.2.2.2.1,.row 10009,.row 10010,.row 10011,.L 1 DV.str s.2.2.2.2.2.2.2.2.1,.L 4 fw s.2.2.2.2.2.2.2.2.2.1]))::(100001,some (.R 176 1 (bA 1 DV.str) s.2.2.2.1))::t) [.c 10 10021 1 379 1,.c 10 10022 2 140 1] [(10007,105),(10008,109),(10009,10004),(10010,10005),(10011,10006),(10012,10021),(10013,10022)] m64 (v2.aX.length:Int) (fun k14 ue=>
  Bi (idx v2.aX (k14:Int)) fun GA=>
  fL (ue.1,ue.2.1,ue.2.2.1,ue.2.2.2.1,ue.2.2.2.2.1,ue.2.2.2.2.2.1,ue.2.2.2.2.2.2.1,ue.2.2.2.2.2.2.2.1,ue.2.2.2.2.2.2.2.2.1,ue.2.2.2.2.2.2.2.2.2.1) 120 [100000,100001,100002,100003,100004] [0,4,10,111,112,113,118,119] [4] (fun _ t=>(11,.row 10014)::(12,.row 10015)::t) (fun s t=>(10,some (.bC 303 [.L 1 DV.str v11,.row 10019,.row 10020]))::(10014,some (.R 263 3 sR s.1))::(10015,some (.R 4 1 DV.bool s.2.1))::(10016,some (.R 9 1 DV.str s.2.2.2.2.2.1))::(10017,some (.R 9 1 DV.str s.2.2.2.2.2.2.1))::(10018,some (.R 9 1 DV.str s.2.2.2.2.2.2.2.1))::(10019,some (.R 379 1 (bA 3 sR) ue.2.2.2.2.2.2.2.2.2.2.1))::(10020,some (.R 140 1 (bA 1 DV.bool) ue.2.2.2.2.2.2.2.2.2.2.2))::(100000,some (.bC 295 [.str s.2.2.1.bn,.L 2 nC s.2.2.1.aR,.L 3 qA s.2.2.1.fP,.L 3 oK s.2.2.1.aF,.row 100001,.I s.2.2.2.2.1,.row 10016,.row 10017,.row 10018,.L 1 DV.str s.2.2.2.2.2.2.2.2.1,.L 4 fw s.2.2.2.2.2.2.2.2.2]))::(100001,some (.R 176 1 (bA 1 DV.str) s.2.2.2.1))::t) [] [(10014,10007),(10015,10008),(10016,10009),(10017,10010),(10018,10011),(10019,10012),(10020,10013)] m64 (GA.bP.length:Int) (fun k30 Gf=>
   Bi (idx GA.bP (k30:Int)) fun v51=>
   Bi (eh v11 v51.bn) fun v53=>
   Bi (cl 135 [(100002,10016),(100003,10017),(100004,10018)] (lR v51 (az.mk Gf.2.2.1 Gf.2.2.2.1 Gf.2.2.2.2.1 Gf.2.2.2.2.2.1 Gf.2.2.2.2.2.2.1 Gf.2.2.2.2.2.2.2.1 Gf.2.2.2.2.2.2.2.2.1 Gf.2.2.2.2.2.2.2.2.2))) fun VN=>
   Bi (idx Gf.1 v53) fun VO=>
   eT 136 sR VN.1 fun v58=>
   Bi (idx Gf.2.1 v53) fun v60=>
   eT 137 DV.bool true fun v61=>
   nX [] [] (some ((List.set Gf.1 (Int.toNat v53) v58),(List.set Gf.2.1 (Int.toNat v53) v61),VN.2.fV,VN.2.cV,VN.2.lQ,VN.2.iK,VN.2.cC,VN.2.dB,VN.2.eH,VN.2.cE))) fun Gf=>
  Bi (cl 142 [(100000,10014),(50000,142)] (eV Gf.1)) fun TG=>
  eT 143 (bA 1 (bA 3 sR)) [TG] fun TM=>
  Ck (dL 24 (ue.2.2.2.2.2.2.2.2.2.2.1.length+List.length TM))<|
  Bi (cl 148 [(100000,10015),(50000,148)] (iv Gf.2.1)) fun xv=>
  eT 149 (bA 1 (bA 1 DV.bool)) [xv] fun Gb=>
  Ck (dL 24 (ue.2.2.2.2.2.2.2.2.2.2.2.length+List.length Gb))<|
  nX [] [(10007,10014),(10008,10015),(10009,10016),(10010,10017),(10011,10018),(10012,144),(10013,150)] (some (Gf.1,Gf.2.1,Gf.2.2.1,Gf.2.2.2.1,Gf.2.2.2.2.1,Gf.2.2.2.2.2.1,Gf.2.2.2.2.2.2.1,Gf.2.2.2.2.2.2.2.1,Gf.2.2.2.2.2.2.2.2.1,Gf.2.2.2.2.2.2.2.2.2,(ue.2.2.2.2.2.2.2.2.2.2.1++TM),(ue.2.2.2.2.2.2.2.2.2.2.2++Gb)))) fun ue=>
 wk [.z 10012,.z 10013]<|rC [4] [4] [(50000,10009),(50001,10010),(50002,10011)] (some ((gg.mk v11 ue.2.2.2.2.2.2.2.2.2.2.1 ue.2.2.2.2.2.2.2.2.2.2.2),(az.mk ue.2.2.1 ue.2.2.2.1 ue.2.2.2.2.1 ue.2.2.2.2.2.1 ue.2.2.2.2.2.2.1 ue.2.2.2.2.2.2.2.1 ue.2.2.2.2.2.2.2.2.1 ue.2.2.2.2.2.2.2.2.2.1)))
instance FV{x1 o0}:MA (jh x1 o0) prog 122 (fun _=>8) fun r=>⟨[.ref 100000 0,.I x1],[(100000,some (.bC 295 (az.b2 o0 (.row 100001) (.row 100002) (.row 100003) (.row 100004)))),(100001,some (.R 176 1 (bA 1 DV.str) o0.cV)),(100002,some (.R 9 1 DV.str o0.iK)),(100003,some (.R 9 1 DV.str o0.cC)),(100004,some (.R 9 1 DV.str o0.dB))],.agg (Wv r.1),[(100000,some (.bC 295 (az.b2 r.2 (.row 100001) (.row 50000) (.row 50001) (.row 50002)))),(100001,some (.R 176 1 (bA 1 DV.str) r.2.cV)),(50000,some (.R 9 1 DV.str r.2.iK)),(50001,some (.R 9 1 DV.str r.2.cC)),(50002,some (.R 9 1 DV.str r.2.dB)),(100002,none),(100003,none),(100004,none)],[50000,50001,50002]⟩:=⟨fun hM=>by unfold jh at hM;exact abz func122 ntmps122 (wz [142,148])⟩
noncomputable def vL(x0:bj):Option ((jv)⊕(Int)) :=
 Bi (rl x0) fun v2=>
 If (v2 != 0) (
  rX [] (some (.inr v2)))<|
 Bi (wT x0) fun v4=>
 If (v4.2 != 0) (
  rX [] (some (.inr v4.2)))<|
 wk [.c 27 49704 4 176 1,.c 27 49706 6 9 1,.c 27 49707 7 9 1,.c 27 49708 8 9 1,.c 27 49710 10 357 4]<|
 fL ([]:List (List ByteArray)) 31 [] [1,7,29,30] [1] i2 (fun s t=>(27,some (.bC 295 [.str x0.bn,.L 2 nC x0.aR,.L 3 qA x0.fP,.L 3 oK x0.aF,.row 10001,.I 0,.row 10002,.row 10003,.row 10004,.bq,.row 10005]))::(10001,some (.R 176 1 (bA 1 DV.str) s))::(10002,some (.R 9 1 DV.str ([]:List ByteArray)))::(10003,some (.R 9 1 DV.str ([]:List ByteArray)))::(10004,some (.R 9 1 DV.str ([]:List ByteArray)))::(10005,some (.R 357 4 fw ([]:List aC)))::t) [] [(10001,49704),(10002,49706),(10003,49707),(10004,49708),(10005,49710)] m64 (x0.aF.length:Int) (fun k5 s7=>
  Bi (idx x0.aF (k5:Int)) fun v24=>
  Bi (yG v24) fun yN=>
  eT 42 (bA 1 (bA 1 DV.str)) [yN] fun FZ=>
  Ck (dL 24 (s7.length+List.length FZ))<|
  nX [] [(10001,43)] (some (s7++FZ))) fun s7=>
 fL (x0,s7,0,([]:List ByteArray),([]:List ByteArray),([]:List ByteArray),([]:List ByteArray),([]:List aC),([]:List gg)) 52 [] [7,10,51] [] i2 (fun s t=>(27,some (.bC 295 [.str s.1.bn,.L 2 nC s.1.aR,.L 3 qA s.1.fP,.L 3 oK s.1.aF,.row 10006,.I s.2.2.1,.row 10007,.row 10008,.row 10009,.L 1 DV.str s.2.2.2.2.2.2.1,.L 4 fw s.2.2.2.2.2.2.2.1]))::(48,some (.bC 299 [.row 10011]))::(10006,some (.R 176 1 (bA 1 DV.str) s.2.1))::(10007,some (.R 9 1 DV.str s.2.2.2.1))::(10008,some (.R 9 1 DV.str s.2.2.2.2.1))::(10009,some (.R 9 1 DV.str s.2.2.2.2.2.1))::(10011,some (.R 303 3 Ql s.2.2.2.2.2.2.2.2))::t) [.z 10005,.c 48 10015 0 303 3] [(10006,10001),(10007,10002),(10008,10003),(10009,10004),(10011,10015)] m64 (x0.aF.length:Int) (fun k8 sK=>
  Bi (cl 62 [(100000,27),(100001,10006),(100002,10007),(100003,10008),(100004,10009),(50000,10012),(50001,10013),(50002,10014)] (jh (k8:Int) (az.mk sK.1 sK.2.1 sK.2.2.1 sK.2.2.2.1 sK.2.2.2.2.1 sK.2.2.2.2.2.1 sK.2.2.2.2.2.2.1 sK.2.2.2.2.2.2.2.1))) fun v20=>
  eT 63 (bA 3 Ql) [v20.1] fun v21=>
  Ck (dL 72 (sK.2.2.2.2.2.2.2.2.length+List.length v21))<|
  nX [] [(10007,10012),(10008,10013),(10009,10014),(10011,64)] (some (v20.2.fV,v20.2.cV,v20.2.lQ,v20.2.iK,v20.2.cC,v20.2.dB,v20.2.eH,v20.2.cE,(sK.2.2.2.2.2.2.2.2++v21)))) fun sK=>
 wk [.z 10011,.b 48]<|rX [] (some (.inl (jv.mk sK.2.2.2.2.2.2.2.2)))
instance YK{x0}:MA (vL x0) prog 77 (fun | .inl _=>0 | .inr _=>0) fun | .inl r=>⟨[.agg (tX x0)],[],.gW [.jA (KF r),.I 0],[],[]⟩ | .inr r=>⟨[.agg (tX x0)],[],.gW [.val (.pointer none),.I r],[],[]⟩:=⟨fun {r} hM=>by unfold vL at hM;rcases r with r|r <;> exact ab func77 ntmps77⟩
end Go.Proofs.YtpeihknododmlaaGreatDoor
namespace Go.Proofs.YtpeihknododmlaaGreatDoor
open Go.Proofs.Tryz
def lz(o:Int):Int:=if o=6∨o=7∨o=9∨o=10∨o=24∨o=26∨o=28∨o=31∨o=33 then 1 else if (11≤o∧o≤23)∨o=25∨o=32 then 2 else 0
def eS(o:Int):Int:=if 1≤o∧o≤23 then 1 else 0
def fJ(x:aC):Int:=lz x.cU+(if x.cU=30∨x.cU=31 then x.gN else 0)
def pG(x:aC):Option Int:=if x.cU=27∨x.cU=28 then some x.gA else if x.cU=32∨x.cU=33 then some x.gB else none
structure HIn(H:List Int)(top:Int)(i:Nat)(x:aC)(h:Int):Prop where
 at_:H[i]? = some h
 pos:0≤h
 pop:fJ x≤h
 stop:x.cU=34→h=0
 anq:h≤top
 agQ:h-fJ x+eS x.cU≤top
 next:x.cU≠27→x.cU≠34→H[i+1]? = some (h-fJ x+eS x.cU)
 jump:∀t:Int,pG x=some t→H[t.toNat]? = some (h-fJ x+eS x.cU)
def HS(cs:List aC)(H:List Int)(top:Int)(k:Nat):Prop:=∀(i:Nat) (x:aC),i<k→cs[i]? = some x→∃h,HIn H top i x h
def Dm(H J:List Int):Prop:=J.length=H.length∧∀(j:Nat) (h:Int),H[j]? = some h→0≤h→J[j]? = some h
theorem Dm.refl(H:List Int):Dm H H:=⟨rfl,fun _ _ h _=>h⟩
theorem Dm.trans{H J K:List Int}(a:Dm H J)(b:Dm J K):Dm H K:=⟨b.1.trans a.1,fun j h x y=>b.2 j h (a.2 j h x y) y⟩
theorem Dm.set{H:List Int}{i:Nat}{v w:Int}(h:H[i]? = some w)(hv:w<0∨w=v):Dm H (H.set i v):=by
 refine⟨List.length_set,fun j x hx h0=>?_⟩;rw[List.getElem?_set]
 by_cases e:i=j
 ·subst e
  rw[h]at hx;obtain rfl:=Option.some.inj hx;rw[if_pos rfl,if_pos (List.getElem?_eq_some_iff.1 h).1];rcases hv with hv|hv
  ·omega
  ·rw[hv]
 ·rw[if_neg e];exact hx
theorem HIn.ext{H J:List Int}{top ada:Int}{i:Nat}{x:aC}{h:Int}(a:HIn H top i x h)(b:Dm H J)(ht:top≤ada)(h0:0≤eS x.cU):HIn J ada i x h:=by
 obtain⟨a1,a2,a3,a4,a5,a6,a7,a8⟩:=a;exact⟨b.2 _ _ a1 a2,a2,a3,a4,by omega,by omega,fun p q=>b.2 _ _ (a7 p q) (by omega),fun t e=>b.2 _ _ (a8 t e) (by omega)⟩
theorem Fv(o:Int):0≤eS o:=by unfold eS;split <;> decide
theorem QP(o:Int):eS o≤1:=by unfold eS;split <;> decide
theorem CT(o:Int):0≤lz o:=by unfold lz;split;decide;split <;> decide
structure IOk(N:Nat)(x:aC):Prop where
 op0:1≤x.cU
 op1:x.cU≤34
 a0:-1≤x.gA
 a1:x.gA≤1000000
 b0:-1≤x.gB
 b1:x.gB≤1000000
 n0:0≤x.gN
 n1:x.gN≤8
 snd:x.cU=30→0≤x.gA∧x.gA<N∧x.gB≤6
 aft:x.cU=31→x.gB≤6
def Zp(L:Nat)(x:aC):Prop:=∀t:Int,pG x=some t→0≤t∧t≤L
def CI(N:Nat)(l:List aC):Prop:=∀x∈l,IOk N x∧Zp l.length x
theorem Zp.mono{L M:Nat}{x:aC}(h:Zp L x)(k:L≤M):Zp M x:=fun t e=>by have:=h t e;omega
theorem CI.nil{N:Nat}:CI N []:=fun x h=>by simp at h
theorem CI.snoc{N:Nat}{l:List aC}{x:aC}(h:CI N l)(a:IOk N x)(b:Zp (l.length+1) x):CI N (l++[x]):=by
 intro y hy;rw[List.length_append,List.length_singleton];rcases List.mem_append.1 hy with hy|hy
 ·exact⟨(h y hy).1,(h y hy).2.mono (by omega)⟩
 ·simp at hy;subst hy;exact⟨a,b⟩
theorem mem_set{α:Type}{l:List α}{i:Nat}{v x:α}(h:x∈l.set i v):x∈l∨x=v:=List.mem_or_eq_of_mem_set h
theorem CI.set{N:Nat}{l:List aC}{i:Nat}{x:aC}(h:CI N l)(a:IOk N x)(b:Zp l.length x):CI N (l.set i x):=by
 intro y hy;rw[List.length_set];rcases mem_set hy with hy|rfl
 ·exact h y hy
 ·exact⟨a,b⟩
structure Cr(N:Nat)(c r:az)(m:Nat):Prop where
 eq:r = { c with cE:=r.cE }
 ci:CI N r.cE
 ge:c.cE.length≤r.cE.length
 le:r.cE.length≤c.cE.length+m
 pre:∀(j:Nat),j<c.cE.length→r.cE[j]? = c.cE[j]?
theorem Cr.refl{N:Nat}{c:az}(h:CI N c.cE):Cr N c c 0:=⟨rfl,h,Nat.le_refl _,Nat.le_refl _,fun _ _=>rfl⟩
theorem Cr.trans{N:Nat}{a b c:az}{m n:Nat}(h:Cr N a b m)(k:Cr N b c n):Cr N a c (m+n):=by
 have h1:=h.le;have h2:=k.le;have h3:=h.ge;have h4:=k.ge;exact⟨by have e1:=k.eq;have e2:=h.eq;rw[e1,e2],k.ci,by omega,by omega,fun j hj=>by rw[k.pre j (by omega),h.pre j hj]⟩
theorem Cr.mono{N:Nat}{a b:az}{m n:Nat}(h:Cr N a b m)(k:m≤n):Cr N a b n:=⟨h.eq,h.ci,h.ge,by have:=h.le;omega,h.pre⟩
structure Vx(f:bj)(c:az):Prop where
 fl:c.fV=f
 hl:c.cV.length=f.aF.length
 h6:∀l∈c.cV,l.length≤6
 aeD:0≤c.lQ
 aeC:c.lQ<f.aF.length
 v:c.iK.length≤1000
 t:c.cC.length≤1000
 g:c.dB.length≤1000
 p:c.eH.length≤1000
theorem Cr.Si{f:bj}{N:Nat}{c r:az}{m:Nat}(h:Cr N c r m)(k:Vx f c):Vx f r:=by
 rw[h.eq];exact⟨k.fl,k.hl,k.h6,k.aeD,k.aeC,k.v,k.t,k.g,k.p⟩
theorem SY{N:Nat}{x:aC}{c:az}(hc:CI N c.cE)(hl:c.cE.length≤100000)(a:IOk N x)(b:Zp (c.cE.length+1) x):Wp (bO x c) fun q=>q.1=(c.cE.length:Int)∧q.2.cE=c.cE++[x]∧Cr N c q.2 1:=by
 unfold bO;refine aV (aK (xt (by omega) (by decide)) (aI (ah ⟨?_,rfl,rfl,hc.snoc a b,?_,?_,?_⟩)))
 ·dsimp only
  rw[List.length_append,List.length_singleton,wrap_i64 (by omega) (by omega)];omega
 ·dsimp only;rw[List.length_append];omega
 ·dsimp only;rw[List.length_append,List.length_singleton];omega
 ·intro j hj;dsimp only;rw[List.getElem?_append_left hj]
theorem Cs{L:Nat}{x:aC}(h:x.cU≠27∧x.cU≠28∧x.cU≠32∧x.cU≠33):Zp L x:=by
 intro t e;unfold pG at e;rw[if_neg (by omega),if_neg (by omega)]at e;cases e
theorem wq{l:List ByteArray}{x:ByteArray}(hl:l.length≤1000):Wp (db x l) fun r=>-1≤r∧r<l.length∧(x∈l→0≤r):=by
 unfold db;refine eI (fun j _=>∀(k:Nat) (a:ByteArray),k<j→l[k]? = some a→a≠x) (by unfold m64;omega) (fun k a h=>by omega) ?_ ?_
 ·intro j _ hj hI
  refine bJ hj (fun a a1 a2=>?_);rw[zw];refine ak (fun hb=>aI (ah ?_)) (fun hb=>ax (ah ?_))
  ·exact ah ⟨by omega,hj,fun _=>by omega⟩
  ·intro k b hk iO
   rcases Nat.lt_or_ge k j with h|h
   ·exact hI k b h iO
   ·obtain rfl:k=j:=by omega
    rw[a1]at iO;obtain rfl:=Option.some.inj iO;exact fun e=>of_decide_eq_false hb e.symm
 ·intro _ hI
  rw[Int.toNat_natCast]at hI;refine aI (ah ⟨by omega,by omega,fun ha=>?_⟩);obtain⟨k,hk,e⟩:=List.getElem_of_mem ha;exact absurd e (hI k _ hk (List.getElem?_eq_getElem hk))
theorem BX{l:List ByteArray}{x:ByteArray}(hl:l.length≤1000):Wp (eh l x) fun r=>-1≤r∧r<l.length∧(x∈l→0≤r):=by
 refine(NL hl).imp ?_;rintro r (⟨k,rfl,h⟩|⟨rfl,h⟩)
 ·have:=(List.getElem?_eq_some_iff.1 h).1
  exact⟨by omega,by omega,fun _=>by omega⟩
 ·exact⟨by omega,by omega,fun e=>absurd e h⟩
section
variable {N:Nat} {f:bj} {c:az}
theorem Ic{o a n:Int}(h1:1≤o)(h2:o≤34)(h3:o≠30∧o≠31)(ha:-1≤a∧a≤1000000)(hn:0≤n∧n≤8):IOk N ⟨o,a,0,n⟩:=⟨h1,h2,ha.1,ha.2,show(-1:Int)≤0 by decide,show(0:Int)≤1000000 by decide,hn.1,hn.2,fun e=>absurd e h3.1,fun e=>absurd e h3.2⟩
theorem yE{x:aC}{t:Nat}{l l2:Rn}(hc:CI N c.cE)(hl:c.cE.length≤100000)(a:IOk N x)(b:Zp (c.cE.length+1) x):Wp (Bi (cl t l (bO x c)) fun v=>rX l2 (some v.2)) fun r=>Cr N c r 1 :=
 au (aQ (SY hc hl a b)) (fun _ h=>aI (ah h.2.2))
theorem abG{x:ByteArray}(hs:Vx f c)(hc:CI N c.cE)(hl:c.cE.length≤100000):Wp (mQ x c) fun r=>Cr N c r 1:=by
 have:=hs.p;have:=hs.v;have:=hs.g;unfold mQ;refine au (BX hs.p) ?_;rintro v ⟨v1,v2,_⟩;refine ak (fun _=>yE hc hl (Ic (by decide) (by decide) (by decide) (by omega) (by decide)) (Cs (by dsimp only;decide))) (fun _=>?_);refine au (aQ (wq hs.v)) ?_;rintro v ⟨v1,v2,_⟩;refine ak (fun _=>yE hc hl (Ic (by decide) (by decide) (by decide) (by omega) (by decide)) (Cs (by dsimp only;decide))) (fun _=>?_);refine au (aQ (wq hs.g)) ?_;rintro v ⟨v1,v2,_⟩;exact yE hc hl (Ic (by decide) (by decide) (by decide) (by omega) (by decide)) (Cs (by dsimp only;decide))
theorem Yu{sf:List DV→az→Option az}{C:SN}{t u:Bool}{op n:Int}{s:ByteArray}{k m:Nat}{l:List DV}(sh:Sh C t op s n u k)(hs:Vx f c)(hl:c.cE.length+m≤100000)(h:Wp (sf l c) fun r=>Cr N c r m):Wp (lS sf ⟨op,s,n,l⟩ c) fun r=>Cr N c r (m+1):=by
 unfold lS;have ho:=sh.op;refine au (aQ h) (fun r hr=>?_);have VH:=hr.le;have FY:=hr.Si hs;have one:∀{o:Option az},Wp o (fun q=>Cr N r q 1)→Wp o (fun q=>Cr N c q (m+1)):=fun h=>h.imp fun q k=>hr.trans k
 have hn:op=1→0≤n∧n≤8:=by
  intro e;cases sh <;> omega
 refine ak (fun hb=>one (yE hr.ci (by omega) (Ic (by decide) (by decide) (by decide) (by omega) (hn (by simpa using hb))) (Cs (by dsimp only;decide)))) (fun Ky=>?_);refine ak (fun hb=>one (yE hr.ci (by omega) (Ic (by decide) (by decide) (by decide) (by omega) (by decide)) (Cs (by dsimp only;decide)))) (fun Co=>?_);refine ak (fun hb=>one (yE hr.ci (by omega) (Ic (by decide) (by decide) (by decide) (by omega) (by decide)) (Cs (by dsimp only;decide)))) (fun Gc=>?_);refine ak (fun hb=>one (yE hr.ci (by omega) (Ic (by decide) (by decide) (by decide) (by omega) (by decide)) (Cs (by dsimp only;decide)))) (fun Il=>?_);refine ak (fun hb=>one (au (aQ (abG FY hr.ci (by omega))) (fun q hq=>aI (ah hq)))) (fun Wr=>?_)
 have k1:∀b,Wp (jO ⟨op,s,n,l⟩ r b) (fun q=>Cr N c q (m+1)):=by
  intro b;refine one (ak (fun _=>?_) (fun _=>?_))
  ·have:=FY.t
   refine au (aQ (wq FY.t)) ?_;rintro v ⟨v1,v2,_⟩;exact yE hr.ci (by omega) (Ic ho.1 (by dsimp only;omega) (by dsimp only;omega) (by omega) (by decide)) (Cs (by dsimp only;omega))
  ·exact yE hr.ci (by omega) (Ic ho.1 (by dsimp only;omega) (by dsimp only;omega) (by decide) (by decide)) (Cs (by dsimp only;omega))
 exact cS (ak (fun _=>ax (k1 _)) (fun _=>ak (fun _=>ax (k1 _)) (fun _=>ax (k1 _))))
theorem Ys{C:SN}:∀(d fu:Nat) {l:List DV} {c:az},d<fu→d≤6→(∀e∈l,∃t,WE C Ct d t e)→l.length≤3→Vx f c→CI N c.cE→c.cE.length+l.length*3^d≤90000→Wp (iC fu l c) fun r=>Cr N c r (l.length*3^d):=by
 intro d
 induction d with
 |zero=>
  intro fu l c hf hd he hl hs hc Cw;obtain⟨g,rfl⟩:∃g,fu=g+1:=⟨fu-1,by omega⟩
  have:l = []:=by
   cases l with
   |nil=>rfl
   |cons a t=>obtain⟨_,h⟩:=he a (by simp);cases h
  subst this;unfold iC kr;refine cw (fun _ s=>az.mk s.1 s.2.1 s.2.2.1 s.2.2.2.1 s.2.2.2.2.1 s.2.2.2.2.2.1 s.2.2.2.2.2.2.1 s.2.2.2.2.2.2.2=c) (by unfold m64;simp) rfl (fun j _ hj _=>by simp at hj;omega) (fun s h=>aI (ah ?_));rw[h];exact(Cr.refl hc).mono (by simp)
 |succ d ih=>
  intro fu l c hf hd he hl hs hc Cw;obtain⟨g,rfl⟩:∃g,fu=g+1:=⟨fu-1,by omega⟩;have p2:3^d≤243:=Nat.pow_le_pow_right (n:=3) (by omega) (show d≤5 by omega);have p1:1≤3^d:=Nat.one_le_pow _ _ (by omega);have p3:3^(d+1)=3*3^d:=by rw[Nat.pow_succ,Nat.mul_comm]
  unfold iC kr;refine cw (fun j s=>Cr N c (az.mk s.1 s.2.1 s.2.2.1 s.2.2.2.1 s.2.2.2.2.1 s.2.2.2.2.2.1 s.2.2.2.2.2.2.1 s.2.2.2.2.2.2.2) (j*3^(d+1))) (by unfold m64;omega) ((Cr.refl hc).mono (by simp)) ?_ (fun s h=>aI (ah (by rw[Int.toNat_natCast]at h;exact h)));intro j s hj hI;refine bJ hj (fun x x1 x2=>?_);obtain⟨t,hx⟩:=he x x2;obtain⟨sh,Pu,ha⟩:=hx;have hlk:=sh.c2;rw[←Pu]at hlk;refine aA (Bm _) ?_;generalize (az.mk s.1 s.2.1 s.2.2.1 s.2.2.2.1 s.2.2.2.2.1 s.2.2.2.2.2.1 s.2.2.2.2.2.2.1 s.2.2.2.2.2.2.2)=q at hI ⊢;have hq:=hI.le;have hj3:j*3^(d+1)≤3*729:=Nat.mul_le_mul (by omega) (by omega);have hj4:(j+1)*3^(d+1)≤l.length*3^(d+1):=Nat.mul_le_mul_right _ (by omega);rw[Nat.add_mul,Nat.one_mul]at hj4;refine au (P:=fun r=>Cr N q r (2*3^d+1)) (aQ (Yu (m:=2*3^d) sh (hI.Si hs) (by omega) ?_)) (fun r hr=>ax (ah ?_))
  ·refine(ih g (by omega) (by omega) (fun e he=>⟨_,ha e he⟩) (by omega) (hI.Si hs) hI.ci ?_).imp (fun r hr=>hr.mono ?_)
   ·have:=Nat.mul_le_mul_right (3^d) hlk;omega
   ·exact Nat.mul_le_mul_right _ hlk
  ·refine(hI.trans hr).mono ?_
   rw[Nat.add_mul];omega
end
section
variable {N:Nat} {f:bj} {c:az}
theorem Cr.patch{q:az}{m i:Nat}{y:aC}(h:Cr N c q m)(hi:c.cE.length≤i)(a:IOk N y)(b:Zp q.cE.length y):Cr N c { q with cE:=q.cE.set i y } m:=by
 refine⟨by have:=h.eq;rw[this],h.ci.set a b,by dsimp only;rw[List.length_set];exact h.ge,by dsimp only;rw[List.length_set];exact h.le,fun j hj=>?_⟩;dsimp only;rw[List.getElem?_set_ne (by omega)];exact h.pre j hj
theorem Hw{x:aC}{t:Nat}{l:Rn}{β:Type}{k:Int×az→Option β}{Q:β→Prop}(hc:CI N c.cE)(hl:c.cE.length≤100000)(a:IOk N x)(b:Zp (c.cE.length+1) x)
  (g:∀r:az,Cr N c r 1→r.cE[c.cE.length]? = some x→r.cE.length=c.cE.length+1→Wp (k ((c.cE.length:Int),r)) Q):Wp (Bi (cl t l (bO x c)) k) Q:=by
 refine au (aQ (SY hc hl a b)) ?_;rintro⟨q1,q2⟩ ⟨rfl,h2,h3⟩;dsimp only at h2 h3;exact g q2 h3 (by rw[h2];simp) (by rw[h2];simp)
theorem YH{s:bf}(n3:f.aF.length≤1000)(hn:∃x∈f.aF,x.bn=s.bn):Wp (dN f.aF s) fun r=>0≤r∧r<f.aF.length:=by
 unfold dN;refine eI (fun j _=>∀(k:Nat) (a:aM),k<j→f.aF[k]? = some a→a.bn≠s.bn) (by unfold m64;omega) (fun k a h=>by omega) ?_ ?_
 ·intro j _ hj hI
  refine bJ hj (fun a a1 a2=>?_);unfold kC;refine od (aQ (aI (ah ?_)));rw[zw];refine ak (fun hb=>aI (ah ?_)) (fun hb=>ax (ah ?_))
  ·exact ah ⟨by omega,hj⟩
  ·intro k b hk iO
   rcases Nat.lt_or_ge k j with h|h
   ·exact hI k b h iO
   ·obtain rfl:k=j:=by omega
    rw[a1]at iO;obtain rfl:=Option.some.inj iO;exact of_decide_eq_false hb
 ·intro _ hI
  exfalso
  rw[Int.toNat_natCast]at hI;obtain⟨x,hx,e⟩:=hn;obtain⟨k,hk,rfl⟩:=List.getElem_of_mem hx;exact hI k _ hk (List.getElem?_eq_getElem hk) e
def afd(N:Nat)(f:bj)(B:Nat→List DV→Prop)(sf:List DV→az→Option az):Prop:=∀(a:Nat) (l:List DV) (c:az),B a l→a≤12→Vx f c→CI N c.cE→c.cE.length+2200*a≤60000→Wp (sf l c) fun r=>Cr N c r (2200*a)
theorem Hb{B:Nat→List DV→Prop}{sf:List DV→az→Option az}(hB:afd N f B sf){a:Nat}{l:List DV}(hl:B a l)(ha:a≤12)(hs:Vx f c)(hc:CI N c.cE)(Cw:c.cE.length+2200*a+1≤60000) :
  Wp (hQ sf l c) fun q=>Cr N c q.2 (2200*a+1)∧0≤q.1∧q.1≤q.2.cE.length:=by
 unfold hQ;refine ak (fun _=>aI (ah ⟨(Cr.refl hc).mono (by omega),by omega,Int.le_refl _⟩)) (fun _=>?_);refine Hw hc (by omega) (Ic (by decide) (by decide) (by decide) (by decide) (by decide)) (fun t e=>by unfold pG at e;simp at e;omega) (fun r hr hx hrl=>?_);have hle:=hr.le;refine au (aQ (hB a l r hl ha (hr.Si hs) hr.ci (by omega))) (fun q hq=>?_);have g1:=hq.ge;have g2:=hq.le;have hx2:q.cE[c.cE.length]? = some ⟨27,0,0,0⟩:=by rw[hq.pre _ (by omega)];exact hx
 refine aA (gR _ _ |>.trans hx2) (aV (aI (ah ?_)));rw[Int.toNat_natCast];dsimp only;refine⟨((hr.trans hq).patch (Nat.le_refl _) ⟨by dsimp only;decide,by dsimp only;decide,by dsimp only;omega,by dsimp only;omega,by dsimp only;decide,by dsimp only;decide,by dsimp only;decide,by dsimp only;decide,fun e=>by simp at e,fun e=>by simp at e⟩ (fun t e=>?_)).mono (by omega),by omega,by rw[List.length_set];omega⟩;unfold pG at e;simp at e;omega
theorem abc{C:SN}{B:Nat→List DV→Prop}{sf:List DV→az→Option az}(hB:afd f.aF.length f B sf)(hN:f.aF.length≤1000)(Wm:∀i,i<C.gP.length→∃x∈f.aF,x.bn=cn i){k:Int}{n h:ByteArray}{t:Bool}{m a b:Nat}{p q:Bool}{l s z:List DV}(sh:Ss C k n h t m p q)(hl:l.length=m)(he:∀e∈l,WE C Ct 6 t e)(h1:B a s)(h2:B b z)(hab:1+a+b≤12)(hs:Vx f c)(hc:CI f.aF.length c.cE)(Cw:c.cE.length+2200*(1+a+b)≤60000) :
  Wp (jg sf ⟨k,n,h,l,s,z⟩ c) fun r=>Cr f.aF.length c r (2200*(1+a+b)):=by
 have m3:=sh.c3;unfold jg;refine Hw hc (by omega) (Ic (by decide) (by decide) (by decide) (by decide) (by decide)) (Cs (by dsimp only;decide)) (fun r0 hr0 _ l0=>?_);have hll:l.length*3^6≤3*729:=Nat.mul_le_mul (by omega) (by decide);refine au (aQ (Ys 6 64 (by omega) (by omega) (fun e h=>⟨t,he e h⟩) (by dsimp only;omega) (hr0.Si hs) hr0.ci (by dsimp only;omega))) (fun r1 aje=>?_);have VH:Cr f.aF.length c r1 2188:=(hr0.trans aje).mono (by dsimp only;omega);clear aje;have s1:=VH.Si hs;have c1:=VH.ci;have e1:=VH.le;have e1':=VH.ge;have f1:=s1.v;have f2:=s1.t
 -- one emission ends the statement
 have one:∀{o:Option az},Wp o (fun q=>Cr f.aF.length r1 q 1)→Wp o (fun q=>Cr f.aF.length c q (2200*(1+a+b))):=fun h=>h.imp fun q k=>(VH.trans k).mono (by omega)
 have two:∀{o:Option az},Wp o (fun q=>Cr f.aF.length r1 q (2200*(a+b)+3))→Wp o (fun q=>Cr f.aF.length c q (2200*(1+a+b))):=fun h=>h.imp fun q k=>(VH.trans k).mono (by omega)
 refine ak (fun _=>?_) (fun _=>?_)
 ·refine au (aQ (wq f1)) ?_
  rintro v ⟨v1,v2,_⟩;exact one (yE c1 (by omega) (Ic (by decide) (by decide) (by decide) (by omega) (by decide)) (Cs (by dsimp only;decide)))
 refine ak (fun _=>?_) (fun _=>?_)
 ·refine au (aQ (wq f2)) ?_
  rintro v ⟨v1,v2,_⟩;exact one (yE c1 (by omega) (Ic (by decide) (by decide) (by decide) (by omega) (by decide)) (Cs (by dsimp only;decide)))
 refine ak (fun _=>?_) (fun _=>?_)
 ·refine au (aQ (wq f2)) ?_
  rintro v ⟨v1,v2,_⟩;exact one (yE c1 (by omega) (Ic (by decide) (by decide) (by decide) (by omega) (by decide)) (Cs (by dsimp only;decide)))
 refine ak (fun _=>two ?_) (fun _=>?_)
 ·refine Hw c1 (by omega) (Ic (by decide) (by decide) (by decide) (by decide) (by decide)) (fun t e=>by unfold pG at e;simp at e;omega) (fun r2 Kv hx ZR=>?_)
  refine au (aQ (hB a s r2 h1 (by omega) (Kv.Si s1) Kv.ci (by omega))) (fun r3 VP=>?_);have g3:=VP.ge;have g3':=VP.le;refine au (aQ (Hb hB h2 (by omega) (VP.Si (Kv.Si s1)) VP.ci (by omega))) ?_;rintro⟨to,r4⟩ ⟨Im,to0,to1⟩;dsimp only at Im to0 to1 ⊢;have g4:=Im.ge;have g4':=Im.le;have hx2:r4.cE[r1.cE.length]? = some ⟨28,0,0,0⟩:=by rw[Im.pre _ (by omega),VP.pre _ (by omega)];exact hx
  refine aA (gR _ _ |>.trans hx2) (aV (aI (ah ?_)));rw[Int.toNat_natCast];refine(((Kv.trans VP).trans Im).patch (Nat.le_refl _) (Ic (by decide) (by decide) (by decide) (by omega) (by decide)) (fun t e=>?_)).mono (by omega);unfold pG at e;simp at e;omega
 refine ak (fun _=>two ?_) (fun _=>?_)
 ·refine Hw c1 (by omega) (Ic (by decide) (by decide) (by decide) (by decide) (by decide)) (fun t e=>by unfold pG at e;simp at e;omega) (fun r2 Kv hx ZR=>?_)
  refine au (aQ (hB a s r2 h1 (by omega) (Kv.Si s1) Kv.ci (by omega))) (fun r3 VP=>?_);have g3:=VP.ge;have g3':=VP.le;refine Hw VP.ci (by omega) (Ic (by decide) (by decide) (by decide) (by omega) (by decide)) (fun t e=>by unfold pG at e;simp at e;omega) (fun r4 Im _ hl4=>?_);have g4:=Im.ge;have g4':=Im.le;have hx2:r4.cE[r1.cE.length]? = some ⟨28,0,0,0⟩:=by rw[Im.pre _ (by omega),VP.pre _ (by omega)];exact hx
  refine aA (gR _ _ |>.trans hx2) (aV (aI (ah ?_)));rw[Int.toNat_natCast];refine(((Kv.trans VP).trans Im).patch (Nat.le_refl _) (Ic (by decide) (by decide) (by decide) (by dsimp only;omega) (by decide)) (fun t e=>?_)).mono (by omega);unfold pG at e;simp at e;omega
 refine ak (fun hb=>?_) (fun _=>?_)
 ·have hk:k=6:=by simpa using hb
  subst hk;cases sh with
  | @send i hh _ r a1 a2 a3=>
   rw[s1.fl];refine au (aQ (YH hN (Wm i (List.getElem?_eq_some_iff.1 a1).1))) ?_;rintro v ⟨v0,v1⟩;refine fI v0 (by rw[s1.hl];exact v1) (fun hd d1 d2=>?_);have h6:=s1.h6 hd d2;refine au (BX (by omega)) ?_;rintro w ⟨w0,w1,_⟩;exact one (yE c1 (by omega) ⟨by dsimp only;decide,by dsimp only;decide,by dsimp only;omega,by dsimp only;omega,by dsimp only;omega,by dsimp only;omega,by dsimp only;omega,by dsimp only;omega,fun _=>⟨v0,v1,by dsimp only;omega⟩,fun e=>by simp at e⟩ (Cs (by dsimp only;decide)))
 refine ak (fun hb=>?_) (fun _=>?_)
 ·have hk:k=7:=by simpa using hb
  subst hk;cases sh with
  | @aft hh cc r a1 a2 a3=>
   refine fI s1.aeD (by rw[s1.hl];exact s1.aeC) (fun hd d1 d2=>?_);have h6:=s1.h6 hd d2;refine au (BX (by omega)) ?_;rintro w ⟨w0,w1,_⟩;dsimp only;rw[wrap_i64 (by omega) (by omega)];exact one (yE c1 (by omega) ⟨by dsimp only;decide,by dsimp only;decide,by dsimp only;omega,by dsimp only;omega,by dsimp only;omega,by dsimp only;omega,by dsimp only;omega,by dsimp only;omega,fun e=>by simp at e,fun _=>by dsimp only;omega⟩ (Cs (by dsimp only;decide)))
 refine ak (fun _=>two ?_) (fun _=>?_)
 ·refine Hw c1 (by omega) (Ic (by decide) (by decide) (by decide) (by decide) (by decide)) (fun t e=>by unfold pG at e;simp at e;omega) (fun r2 Kv hx ZR=>?_)
  refine au (aQ (Hb hB h2 (by omega) (Kv.Si s1) Kv.ci (by dsimp only;omega))) ?_;rintro⟨to,r4⟩ ⟨Im,to0,to1⟩;dsimp only at Im to0 to1 ⊢;have g4:=Im.ge;have g4':=Im.le;have hx2:r4.cE[r1.cE.length]? = some ⟨32,0,0,0⟩:=by rw[Im.pre _ (by omega)];exact hx
  refine aA (gR _ _ |>.trans hx2) (aV (aI (ah ?_)));rw[Int.toNat_natCast];refine((Kv.trans Im).patch (Nat.le_refl _) ⟨by dsimp only;decide,by dsimp only;decide,by dsimp only;decide,by dsimp only;decide,by dsimp only;omega,by dsimp only;omega,by dsimp only;decide,by dsimp only;decide,fun e=>by simp at e,fun e=>by simp at e⟩ (fun t e=>?_)).mono (by omega);unfold pG at e;simp at e;omega
 refine ak (fun _=>two ?_) (fun _=>?_)
 ·refine au (aQ (wq f1)) ?_
  rintro v ⟨v1,v2,_⟩;refine Hw c1 (by omega) (Ic (by decide) (by decide) (by decide) (by omega) (by decide)) (fun t e=>by unfold pG at e;simp at e;omega) (fun r2 Kv hx ZR=>?_);refine au (aQ (Hb hB h2 (by omega) (Kv.Si s1) Kv.ci (by dsimp only;omega))) ?_;rintro⟨to,r4⟩ ⟨Im,to0,to1⟩;dsimp only at Im to0 to1 ⊢;have g4:=Im.ge;have g4':=Im.le;have hx2:r4.cE[r1.cE.length]? = some ⟨33,v,0,0⟩:=by rw[Im.pre _ (by omega)];exact hx
  refine aA (gR _ _ |>.trans hx2) (aV (aI (ah ?_)));rw[Int.toNat_natCast];refine((Kv.trans Im).patch (Nat.le_refl _) ⟨by dsimp only;decide,by dsimp only;decide,by dsimp only;omega,by dsimp only;omega,by dsimp only;omega,by dsimp only;omega,by dsimp only;decide,by dsimp only;decide,fun e=>by simp at e,fun e=>by simp at e⟩ (fun t e=>?_)).mono (by omega);unfold pG at e;simp at e;omega
 refine ak (fun _=>one (yE c1 (by omega) (Ic (by decide) (by decide) (by decide) (by decide) (by decide)) (Cs (by dsimp only;decide)))) (fun _=>?_);exact aI (ah (VH.mono (by omega)))
end
def rowOf(j:Nat):dQ:=(tb1[j]?).getD ⟨ByteArray.empty,ByteArray.empty,0,0⟩
theorem Xw:∀j:Fin 35,(rowOf j).JL=lz (j:Nat)∧(rowOf j).rG=eS (j:Nat):=by decide
theorem Xx{o:Int}(h0:0≤o)(h1:o≤34):Wp (uW o) fun r=>r=rowOf o.toNat∧r.JL=lz o∧r.rG=eS o:=by
 unfold uW;refine ak (fun hb=>by simp at hb;omega) (fun _=>?_);obtain⟨j,rfl⟩:=Int.eq_ofNat_of_zero_le h0;have hj:j<tb1.length:=by show j<35;omega
 refine aA (gR _ _ |>.trans (List.getElem?_eq_getElem hj)) (ah ?_);have e:tb1[j]=rowOf j:=by unfold rowOf;rw[List.getElem?_eq_getElem hj];rfl
 have:=Xw ⟨j,hj⟩;rw[e,Int.toNat_natCast];exact⟨rfl,this⟩
theorem ED{x:aC}:Wp (la x) fun r=>(r.2=true∧pG x=some r.1)∨(r.2=false∧pG x=none):=by
 have k3:∀b:Bool,b=(decide (x.cU=32)||decide (x.cU=33))→¬(x.cU=27∨x.cU=28)→Wp (qc x b) fun r=>(r.2=true∧pG x=some r.1)∨(r.2=false∧pG x=none):=by
  intro b hb hn;refine ak (fun h=>ah (.inl ⟨rfl,?_⟩)) (fun h=>ax (ah (.inr ⟨rfl,?_⟩)))
  ·rw[h]at hb;unfold pG
   rw[if_neg hn,if_pos (by simpa using hb.symm)]
  ·rw[h]at hb;unfold pG
   rw[if_neg hn,if_neg (by have:=hb.symm;simp at this;omega)]
 have k2:∀b:Bool,b=(decide (x.cU=27)||decide (x.cU=28))→Wp (qd x b) fun r=>(r.2=true∧pG x=some r.1)∨(r.2=false∧pG x=none):=by
  intro b hb;refine ak (fun h=>ah (.inl ⟨rfl,?_⟩)) (fun h=>?_)
  ·rw[h]at hb;unfold pG
   rw[if_pos (by simpa using hb.symm)]
  ·have hn:¬(x.cU=27∨x.cU=28):=by rw[h]at hb;have:=hb.symm;simp at this;omega
   refine cS (ak (fun hc=>ax (k3 _ ?_ hn)) (fun hc=>ax (k3 _ ?_ hn)))
   ·have:x.cU=32:=by simpa using hc
    rw[this];rfl
   ·have:x.cU≠32:=by simpa using hc
    simp[this]
    rfl
 unfold la;refine cS (cS (ak (fun hc=>ax (k2 _ ?_)) (fun hc=>ax (k2 _ ?_))))
 ·have:x.cU=27:=by simpa using hc
  rw[this];rfl
 ·have:x.cU≠27:=by simpa using hc
  simp[this]
  rfl
structure HI(cs:List aC)(H:List Int)(top:Int)(k:Nat):Prop where
 len:H.length=cs.length+1
 hs:HS cs H top k
 lo:∀(j:Nat) (h:Int),H[j]? = some h→-1≤h∧h≤k
 t0:0≤top
 t1:top≤k
 z:0<k→H[0]? = some 0
theorem Lc{H:List Int}{i:Int}{v:Int}(h0:0≤i)(h1:i<H.length):Wp (mi i v H) fun r=>r.2=H.set i.toNat v∧(r.1=true→∃w,H[i.toNat]? = some w∧(w<0∨w=v)):=by
 unfold mi;refine fI h0 h1 (fun w w1 _=>aV (aI (ah ⟨rfl,fun h=>⟨w,w1,?_⟩⟩)));simpa using h
theorem LD{H:List Int}{i:Nat}{v:Int}{a b:Int}(h:∀(j:Nat) (h:Int),H[j]? = some h→a≤h∧h≤b)(hv:a≤v∧v≤b):∀(j:Nat) (h:Int),(H.set i v)[j]? = some h→a≤h∧h≤b:=by
 intro j x hx;rw[List.getElem?_set]at hx
 split at hx
 ·split at hx
  ·obtain rfl:=Option.some.inj hx;exact hv
  ·cases hx
 ·exact h j x hx
theorem Hn{N:Nat}{cs:List aC}(hc:CI N cs)(hl:cs.length≤100000):Wp (tQ cs) fun q=>q.2=true→∃H:List Int,H.length=cs.length+1∧HS cs H q.1 cs.length∧(0<cs.length→H[0]? = some 0)∧∀h,H[cs.length]? = some h→h≤0:=by
 unfold tQ;rw[wrap_i64 (n:=(cs.length:Int)+1) (by omega) (by omega)];have e1:((cs.length:Int)+1).toNat=cs.length+1:=by omega
 rw[e1];refine aK (by unfold iJ;omega) (aV ?_);refine cw (fun j s=>s.length=cs.length+1∧∀(i:Nat) (h:Int),i<j→s[i]? = some h→h = -1) (by unfold m64;simp;omega) ⟨by simp,fun i h hi=>by omega⟩ ?_ ?_
 ·rintro j s hj ⟨s1,s2⟩
  rw[List.length_replicate]at hj;refine bJ (by omega) (fun v v1 v2=>aV (ax (ah ⟨by rw[List.length_set];exact s1,fun i h hi hh=>?_⟩)));rw[Int.toNat_natCast,List.getElem?_set]at hh
  split at hh
  ·split at hh
   ·exact(Option.some.inj hh).symm
   ·cases hh
  ·exact s2 i h (by omega) hh
 rintro s ⟨s1,s2⟩;rw[List.length_replicate,Int.toNat_natCast]at s2;refine eI (fun k s=>HI cs s.2 s.1 k) (by unfold m64;omega) ⟨s1,fun i x hi=>by omega,fun j h hj=>?_,Int.le_refl _,by simp,fun h=>by omega⟩ ?_ ?_
 ·have:=(List.getElem?_eq_some_iff.1 hj).1
  dsimp only at this hj;have:=s2 j h (by omega) hj;omega
 ·rintro k ⟨top,H⟩ hk ⟨i1,i2,i3,i4,i5,i6⟩
  dsimp only at i1 i2 i3 i4 i5 i6 ⊢;have Ek:k<cs.length:=by omega
  refine bJ hk (fun x x1 x2=>?_);obtain⟨ix,tx⟩:=hc x x2;refine bJ (by omega) (fun w w1 _=>aV ?_);have hw:=i3 k w w1;obtain⟨h0,hh0,hh1,CL,hh3⟩:∃h0:Int,(if 0>w then 0 else w)=h0∧0≤h0∧h0≤k∧(w<0∨w=h0):=⟨_,rfl,by split <;> omega,by split <;> omega,by split <;> omega⟩;rw[hh0];refine au (Xx (by have:=ix.op0;omega) ix.op1) ?_;rintro row ⟨_,r1,r2⟩;have hE:=Dm.set w1 hh3;have hL:(H.set k h0).length=cs.length+1:=by rw[List.length_set];exact i1
  have hlo:=LD (i:=k) (v:=h0) i3 (by omega);have Jc:(H.set k h0)[k]? = some h0:=by rw[List.getElem?_set_self (by omega)]
  -- what follows the popping
  have fin:∀p:Int,p=fJ x→Wp (rU k top H x h0 row p) (Rdn (fun s=>HI cs s.2 s.1 (k+1)) fun e=>Wp (some e) fun q=>q.2=true→∃H:List Int,H.length=cs.length+1∧HS cs H q.1 cs.length∧(0<cs.length→H[0]? = some 0)∧∀h,H[cs.length]? = some h→h≤0):=by
   rintro p rfl;have hp0:0≤fJ x:=by unfold fJ;have:=CT x.cU;have:=ix.n0;split <;> omega
   have hp1:fJ x≤1000:=by
    unfold fJ;have:=ix.n1;have:lz x.cU≤2:=by unfold lz;split;decide;split <;> decide
    split <;> omega
   have bad:Wp (some (xV.done (S:=Int×List Int) ((0:Int),false))) (Rdn (fun s:Int×List Int=>HI cs s.2 s.1 (k+1)) fun e:Int×Bool=>Wp (some e) fun q=>q.2=true→∃H:List Int,H.length=cs.length+1∧HS cs H q.1 cs.length∧(0<cs.length→H[0]? = some 0)∧∀h,H[cs.length]? = some h→h≤0):=ah (ah (fun e=>by cases e));have p0:=Fv x.cU;have p1:=QP x.cU;unfold rU;rw[Int.toNat_natCast];refine aA (gR _ _ |>.trans Jc) ?_;refine ak (fun _=>bad) (fun hb=>?_)
   have VK:fJ x≤h0∧(x.cU=34→h0=0):=by
    simp only[Bool.or_eq_false_iff,decide_eq_false_iff_not,Bool.and_eq_false_iff,beq_eq_false_iff_ne,bne_eq_false_iff_eq]at hb;omega
   have hw1:IntKind.wrap .i64 (IntKind.wrap .i64 (h0-fJ x)+row.rG)=h0-fJ x+eS x.cU:=by
    rw[r2,wrap_i64 (n:=h0-fJ x) (by omega) (by omega),wrap_i64 (by omega) (by omega)]
   rw[hw1]
   have ada:∀{T:Int},(if (h0-fJ x+eS x.cU)>(if h0>top then h0 else top)then(h0-fJ x+eS x.cU)else(if h0>top then h0 else top))=T→top≤T∧h0≤T∧h0-fJ x+eS x.cU≤T∧0≤T∧T≤(k+1:Nat):=by
    rintro T rfl
    split <;> split <;> omega
   generalize hT:(if (h0-fJ x+eS x.cU)>(if h0>top then h0 else top)then(h0-fJ x+eS x.cU)else(if h0>top then h0 else top))=T;obtain⟨T1,T2,T3,T4,T5⟩:=ada hT
   -- the end: J holds all that was set
   have done:∀J:List Int,Dm (H.set k h0) J→(∀(j:Nat) (h:Int),J[j]? = some h→-1≤h∧h≤(k+1:Nat))→(x.cU≠27→x.cU≠34→J[k+1]? = some (h0-fJ x+eS x.cU))→(∀t:Int,pG x=some t→J[t.toNat]? = some (h0-fJ x+eS x.cU))→HI cs J T (k+1):=by
    intro J hJ hb hn ht;refine⟨by rw[hJ.1,hL],fun i y hi hy=>?_,hb,T4,by omega,fun _=>?_⟩
    rotate_left
    ·rcases Nat.eq_zero_or_pos k with h|h
     ·subst h
      have:h0=0:=by omega
      have:=hJ.2 _ _ Jc hh1;rw[this];congr 1
     ·exact hJ.2 _ _ (hE.2 _ _ (i6 h) (by omega)) (by omega)
    rcases Nat.lt_or_ge i k with pE|hge
    ·obtain⟨h,g⟩:=i2 i y pE hy
     exact⟨h,g.ext (hE.trans hJ) T1 (Fv _)⟩
    ·obtain rfl:i=k:=by omega
     rw[x1]at hy;obtain rfl:=Option.some.inj hy;exact⟨h0,hJ.2 _ _ Jc hh1,hh1,VK.1,VK.2,T2,T3,hn,ht⟩
   have af2:∀(j:Nat) (h:Int),(H.set k h0)[j]? = some h→-1≤h∧h≤(k+1:Nat):=fun j h e=>by have:=hlo j h e;omega
   refine ak (fun hc1=>?_) (fun hc1=>?_)
   ·refine au (aQ (Lc (by omega) (by rw[hL];omega))) ?_
    rintro⟨b,J⟩ ⟨hJ,hbt⟩;dsimp only at hJ hbt ⊢;have ek:((k:Int)+1).toNat=k+1:=by omega
    rw[ek]at hJ hbt;refine ak (fun _=>bad) (fun hc2=>?_)
    have ap7:b=true:=by
     rw[hc1]at hc2;simpa using hc2
    obtain⟨w',w2,w3⟩:=hbt ap7;have hE2:=Dm.set w2 w3;rw[←hJ]at hE2;have ajh:∀(j:Nat) (h:Int),J[j]? = some h→-1≤h∧h≤(k+1:Nat):=by rw[hJ];exact LD af2 (by omega)
    have hn2:J[k+1]? = some (h0-fJ x+eS x.cU):=by rw[hJ,List.getElem?_set_self (by rw[hL];omega)]
    have hJL:J.length=cs.length+1:=by rw[hJ,List.length_set];exact hL
    refine au ED ?_;rintro⟨t,bt⟩ (⟨rfl,ht⟩|⟨rfl,ht⟩)
    ·dsimp only at ht ⊢
     have htr:=tx t ht;refine ak (fun _=>?_) (fun h=>by cases h);refine au (aQ (Lc htr.1 (by rw[hJL];omega))) ?_;rintro⟨b',J'⟩ ⟨hJ',aad⟩;dsimp only at hJ' aad ⊢;refine ak (fun _=>bad) (fun hc3=>?_);obtain⟨w'',w4,w5⟩:=aad (by simpa using hc3);have hE3:=Dm.set w4 w5;rw[←hJ']at hE3;refine ax (ah (done J' (hE2.trans hE3) (by rw[hJ'];exact LD ajh (by omega)) (fun _ _=>hE3.2 _ _ hn2 (by omega)) (fun t' Mr=>?_)));rw[ht]at Mr;obtain rfl:=Option.some.inj Mr;rw[hJ',List.getElem?_set_self (by rw[hJL];omega)]
    ·refine ak (fun h=>by cases h) (fun _=>ak (fun h=>by cases h) (fun _=>?_))
     exact ax (ah (done J hE2 ajh (fun _ _=>hn2) (fun t' Mr=>by rw[ht]at Mr;cases Mr)))
   ·have hno:¬(x.cU≠27∧x.cU≠34):=by
     intro h;simp[h.1,h.2]at hc1
    refine ak (fun h=>by simp at h) (fun _=>?_);refine au ED ?_;rintro⟨t,bt⟩ (⟨rfl,ht⟩|⟨rfl,ht⟩)
    ·dsimp only at ht ⊢
     have htr:=tx t ht;refine ak (fun _=>?_) (fun h=>by cases h);refine au (aQ (Lc htr.1 (by rw[hL];omega))) ?_;rintro⟨b',J'⟩ ⟨hJ',aad⟩;dsimp only at hJ' aad ⊢;refine ak (fun _=>bad) (fun hc3=>?_);obtain⟨w'',w4,w5⟩:=aad (by simpa using hc3);have hE3:=Dm.set w4 w5;rw[←hJ']at hE3;refine ax (ah (done J' hE3 (by rw[hJ'];exact LD af2 (by omega)) (fun a b=>absurd ⟨a,b⟩ hno) (fun t' Mr=>?_)));rw[ht]at Mr;obtain rfl:=Option.some.inj Mr;rw[hJ',List.getElem?_set_self (by rw[hL];omega)]
    ·refine ak (fun h=>by cases h) (fun _=>ak (fun h=>by cases h) (fun _=>?_))
     exact ax (ah (done (H.set k h0) (Dm.refl _) af2 (fun a b=>absurd ⟨a,b⟩ hno) (fun t' Mr=>by rw[ht]at Mr;cases Mr)))
  refine cS (ak (fun hb=>ax (fin _ ?_)) (fun hb=>ax (fin _ ?_)))
  ·have:x.cU=30∨x.cU=31:=by simpa using hb
   unfold fJ;rw[if_pos this,r1];have:=ix.n0;have:=ix.n1;have:=CT x.cU;have:lz x.cU≤2:=by unfold lz;split;decide;split <;> decide
   rw[wrap_i64 (by omega) (by omega)]
  ·have:¬(x.cU=30∨x.cU=31):=by simpa using hb
   unfold fJ;rw[if_neg this,r1];omega
 ·rintro⟨top,H⟩ ⟨i1,i2,i3,i4,i5,i6⟩
  dsimp only at i1 i2 i6 ⊢;rw[Int.toNat_natCast]at i2 i6;refine od (GK (by omega) (fun v v1 _=>ah (fun hv=>⟨H,i1,i2,i6,fun h hh=>?_⟩)));rw[v1]at hh;obtain rfl:=Option.some.inj hh;simpa using hv
abbrev XX(s:bj×List (List ByteArray)×Int×List ByteArray×List ByteArray×List ByteArray×List ByteArray×List aC):az:=az.mk s.1 s.2.1 s.2.2.1 s.2.2.2.1 s.2.2.2.2.1 s.2.2.2.2.2.1 s.2.2.2.2.2.2.1 s.2.2.2.2.2.2.2
theorem acm{C:SN}{f:bj}(hN:f.aF.length≤1000)(Wm:∀i,i<C.gP.length→∃x∈f.aF,x.bn=cn i):∀(d fu:Nat),d<fu→afd f.aF.length f (WB C Ct Rc d) (ji fu):=by
 intro d
 induction d with
 |zero=>
  rintro fu hf n l c ⟨rfl,rfl⟩ _ hs hc Cw;obtain⟨g,rfl⟩:∃g,fu=g+1:=⟨fu-1,by omega⟩;unfold ji kZ;refine cw (fun _ s=>XX s=c) (by unfold m64;simp) rfl (fun j _ hj _=>by simp at hj;omega) (fun s h=>aI (ah ?_));rw[show(az.mk s.1 s.2.1 s.2.2.1 s.2.2.2.1 s.2.2.2.2.1 s.2.2.2.2.2.1 s.2.2.2.2.2.2.1 s.2.2.2.2.2.2.2)=c from h];exact Cr.refl hc
 |succ d ih=>
  intro fu hf n l c h hn hs hc Cw;obtain⟨g,rfl⟩:∃g,fu=g+1:=⟨fu-1,by omega⟩;have hl:=h.len;obtain⟨m,m0,m1,m2,m3⟩:=KL h (fun _ _=>WF.pos);unfold ji kZ;refine cw (fun j s=>Cr f.aF.length c (XX s) (2200*m j)) (by unfold m64;omega) ((Cr.refl hc).mono (by omega)) ?_ (fun s h=>aI (ah (by rw[Int.toNat_natCast,m1]at h;exact h)));intro j s hj hI;refine bJ hj (fun x x1 x2=>?_);obtain⟨a,ha,hw⟩:=m3 j x x1;have b1:=m2 j (by omega);have b2:=m2 (j+1) (by omega);obtain⟨sh,Pu,he,ht,hz,hp1,hq1⟩:=hw;refine aA (zl _) ?_;have hq:=hI.le;refine au (aQ (abc (c:=XX s) (ih g (by omega)) hN Wm sh Pu he ht hz (by omega) (hI.Si hs) hI.ci (by omega))) (fun r hr=>ax (ah ((hI.trans hr).mono ?_)));omega
structure Qe(N:Nat)(u:cD):Prop where
 ci:CI N u.rS
 len:u.rS.length≤50000
 p0:0≤u.dM
 p4:u.dM≤4
theorem Qe.zero{N:Nat}:Qe N ⟨0,0,[]⟩:=⟨CI.nil,by simp,by decide,by decide⟩
theorem aaW{f:bj}{gP:List (List Int)}(hf:Dk gP f){I T F own:Nat}{r:List Int}{k:Nat}{h:br}(hh:Ja I T F gP own r k h){c:az}(hs:Vx f c):Wp (lR h c) fun q=>Qe f.aF.length q.1∧Vx f q.2∧q.2.cV=c.cV:=by
 obtain⟨p,p2,rp,k3,DL,Gd,a,a12,hb⟩:=hh;have n3:=hf.n3;have al:=hf.al;have Wn:h.dM.length=p:=by rw[Gd];simp
 unfold lR;refine cR ?_;have mm:Vx f { c with eH:=h.dM,cE:=[] }:=⟨hs.fl,hs.hl,hs.h6,hs.aeD,hs.aeC,hs.v,hs.t,hs.g,by dsimp only;omega⟩
 have Wm:∀i,i<gP.length→∃x∈f.aF,x.bn=cn i:=by
  intro i hi;obtain⟨_,_,_,g⟩:=hf.cs i _ (List.getElem?_eq_getElem (by omega));exact⟨_,List.getElem_mem (by omega),g.name⟩
 refine au (aQ (acm (C:=⟨I,T,F,p,gP,own⟩) (by omega) Wm 4 64 (by omega) a h.xc { c with eH:=h.dM,cE:=[] } hb a12 mm CI.nil (by simp;omega))) (fun q hq=>?_);have hle:=hq.le;dsimp only at hle;rw[List.length_nil]at hle;refine cR (au (Hn hq.ci (by omega)) (fun v _=>aI (ah ⟨⟨hq.ci,by dsimp only;omega,by dsimp only;omega,by dsimp only;omega⟩,hq.Si mm,by dsimp only;rw[hq.eq]⟩)))
theorem aa8{l:List ByteArray}{x:ByteArray}(hl:l.length≤1000):Wp (gr x l) fun r=>r=false∨x∈l:=by
 unfold gr db;refine au (P:=fun r=>r = -1∨x∈l) (aQ ?_) ?_
 ·refine eI (fun _ _=>True) (by unfold m64;omega) trivial ?_ (fun _ _=>aI (ah (.inl rfl)))
  intro j _ hj _;refine bJ hj (fun a a1 a2=>?_);rw[zw];refine ak (fun hb=>aI (ah ?_)) (fun hb=>ax (ah trivial));exact ah (.inr (by rw[of_decide_eq_true hb];exact a2))
 ·rintro r (rfl|h)
  ·exact aI (ah (.inl rfl))
  ·exact aI (ah (.inr h))
def afi(x:aM)(l:List ByteArray):Prop:=l.length≤6∧∀u∈x.aX,∀h∈u.bP,h.bn∈l
theorem XU{x:aM}(h2:x.aX.length≤2)(h3:∀u∈x.aX,u.bP.length≤3):Wp (yG x) (afi x):=by
 unfold yG;refine cw (fun j s=>s.length≤3*j∧∀(i:Nat) (u:bQ),i<j→x.aX[i]? = some u→∀h∈u.bP,h.bn∈s) (by unfold m64;omega) ⟨by simp,fun i u hi=>by omega⟩ ?_ ?_
 ·rintro j s hj ⟨s1,s2⟩
  refine bJ hj (fun u u1 u2=>?_);have hu:=h3 u u2;refine cw (fun k s=>s.length≤3*j+k∧(∀(i:Nat) (u:bQ),i<j→x.aX[i]? = some u→∀h∈u.bP,h.bn∈s)∧∀(i:Nat) (h:br),i<k→u.bP[i]? = some h→h.bn∈s) (by unfold m64;omega) ⟨by omega,s2,fun i h hi=>by omega⟩ ?_ ?_
  ·rintro k s hk ⟨t1,t2,t3⟩
   refine bJ hk (fun h e1 e2=>?_);refine au (aQ (aa8 (by omega))) (fun b hb=>?_);refine ak (fun hnb=>?_) (fun hnb=>?_)
   ·refine aV (aK (xt (by omega) (by decide)) (ax (ah ⟨by rw[List.length_append,List.length_singleton];omega,fun i u hi hh g hg=>List.mem_append.2 (.inl (t2 i u hi hh g hg)),fun i g hi hg=>?_⟩)))
    rcases Nat.lt_or_ge i k with pE|hge
    ·exact List.mem_append.2 (.inl (t3 i g pE hg))
    ·obtain rfl:i=k:=by omega
     rw[e1]at hg;obtain rfl:=Option.some.inj hg;exact List.mem_append.2 (.inr (by simp))
   ·have hm:h.bn∈s:=by
     rcases hb with rfl|hb
     ·cases hnb
     ·exact hb
    refine ax (ah ⟨by omega,t2,fun i g hi hg=>?_⟩);rcases Nat.lt_or_ge i k with pE|hge
    ·exact t3 i g pE hg
    ·obtain rfl:i=k:=by omega
     rw[e1]at hg;obtain rfl:=Option.some.inj hg;exact hm
  ·rintro s ⟨t1,t2,t3⟩
   rw[Int.toNat_natCast]at t1 t3;refine ax (ah ⟨by omega,fun i v hi hv h hh=>?_⟩);rcases Nat.lt_or_ge i j with pE|hge
   ·exact t2 i v pE hv h hh
   ·obtain rfl:i=j:=by omega
    rw[u1]at hv;obtain rfl:=Option.some.inj hv;obtain⟨k,hk,rfl⟩:=List.getElem_of_mem hh;exact t3 k _ hk (List.getElem?_eq_getElem hk)
 ·rintro s ⟨s1,s2⟩
  rw[Int.toNat_natCast]at s1 s2;refine cR (ah ⟨by omega,fun u hu h hh=>?_⟩);obtain⟨k,hk,rfl⟩:=List.getElem_of_mem hu;exact s2 k _ hk (List.getElem?_eq_getElem hk) h hh
structure acG(N:Nat)(x:gg):Prop where
 n6:x.zu.length≤6
 uf:x.BJ.length=x.Hq.length
 us:∀l∈x.BJ,l.length=x.zu.length∧∀u∈l,Qe N u
 fs:∀l∈x.Hq,l.length=x.zu.length
theorem ae1{l:List cD}(h:l.length≤1000):eV l=some l:=by
 unfold eV;rw[tT (Ed (by simp;omega) (by decide))];simp
theorem ae2{l:List Bool}(h:l.length≤1000):iv l=some l:=by
 unfold iv;rw[tT (Ed (by simp;omega) (by decide))];simp
theorem acb{f:bj}{gP:List (List Int)}(hf:Dk gP f){i:Nat}(hi:i<f.aF.length){c:az}(Qf:c.fV=f)(hhl:c.cV.length=f.aF.length)(hh:∀(k:Nat) (l:List ByteArray) (x:aM),c.cV[k]? = some l→f.aF[k]? = some x→afi x l)(hp:c.eH.length≤1000) :
  Wp (jh (i:Int) c) fun q=>acG f.aF.length q.1∧q.2.fV=f∧q.2.cV=c.cV∧q.2.eH.length≤1000:=by
 obtain⟨I,T,r0,hx⟩:=hf.cs i _ (List.getElem?_eq_getElem hi);have n3:=hf.n3;have f2:=hf.f2;have v2:=hx.v2;have vl:=hx.Qu;have i3:=hx.i3;have t1:=hx.t1;have r3:=(hf.ar r0 (List.mem_of_getElem? hx.ar)).2.1;unfold jh;rw[Qf];refine aA (gR _ _ |>.trans (List.getElem?_eq_getElem hi)) (cR ?_);obtain⟨nl,hnl⟩:∃nl,c.cV[i]? = some nl:=⟨_,List.getElem?_eq_getElem (by omega)⟩;have Wm:=hh i nl _ hnl (List.getElem?_eq_getElem hi);generalize f.aF[i]=x at hx v2 vl Wm ⊢;refine cw (fun j s=>s.length≤j) (by unfold m64;omega) (by simp) ?_ ?_
 ·intro j s hj hs
  exact bJ hj (fun y _ _=>aV (aK (xt (by omega) (by decide)) (ax (ah (by rw[List.length_append,List.length_singleton];omega)))))
 intro fl afY;rw[Int.toNat_natCast]at afY;refine cw (fun j s=>s.1.length≤j∧s.2.length≤j) (by unfold m64;omega) ⟨by simp,by simp⟩ ?_ ?_
 ·rintro j ⟨a,b⟩ hj ⟨Ms,FG⟩
  dsimp only at Ms FG ⊢;refine bJ hj (fun y _ _=>ak (fun _=>?_) (fun _=>?_))
  ·exact aV (aK (xt (by omega) (by decide)) (ax (ah ⟨by dsimp only;omega,by dsimp only;rw[List.length_append,List.length_singleton];omega⟩)))
  ·exact aV (aK (xt (by omega) (by decide)) (ax (ah ⟨by dsimp only;rw[List.length_append,List.length_singleton];omega,by dsimp only;omega⟩)))
 rintro⟨vs,ts⟩ ⟨hv1,hv2⟩;dsimp only at hv1 hv2 ⊢;rw[Int.toNat_natCast]at hv1 hv2
 have hh6:∀l∈c.cV,l.length≤6:=by
  intro l hl;obtain⟨k,hk,rfl⟩:=List.getElem_of_mem hl;exact(hh k _ _ (List.getElem?_eq_getElem hk) (List.getElem?_eq_getElem (by omega))).1
 refine aA (gR _ _ |>.trans hnl) ?_;have n6:=Wm.1;refine aK (by unfold iJ;omega) (aV (aK (by unfold iJ;omega) (aV ?_)));rw[Int.toNat_natCast]
 have aqa:∀u∈List.replicate nl.length (cD.mk 0 0 []),Qe f.aF.length u:=by
  intro u hu;rw[(List.mem_replicate.1 hu).2];exact Qe.zero
 refine cw (fun j s=>s.1.length=nl.length∧(∀u∈s.1,Qe f.aF.length u)∧s.2.1.length=nl.length∧Vx f (XX (s.2.2.1,s.2.2.2.1,s.2.2.2.2.1,s.2.2.2.2.2.1,s.2.2.2.2.2.2.1,s.2.2.2.2.2.2.2.1,s.2.2.2.2.2.2.2.2.1,s.2.2.2.2.2.2.2.2.2.1))∧s.2.2.2.1=c.cV∧s.2.2.2.2.2.2.2.2.2.2.1.length=j∧s.2.2.2.2.2.2.2.2.2.2.2.length=j∧(∀l∈s.2.2.2.2.2.2.2.2.2.2.1,l.length=nl.length∧∀u∈l,Qe f.aF.length u)∧∀l∈s.2.2.2.2.2.2.2.2.2.2.2,l.length=nl.length) (by unfold m64;omega) ⟨by simp,aqa,by simp,⟨rfl,hhl,hh6,by dsimp only[XX];omega,by dsimp only[XX];omega,by dsimp only[XX];omega,by dsimp only[XX];omega,by dsimp only[XX];omega,by dsimp only[XX];omega⟩,rfl,rfl,rfl,by simp,by simp⟩ ?_ ?_
 ·rintro j ⟨us,fs,s1,s2,s3,s4,s5,s6,s7,s8,ul,fo⟩ hj ⟨g1,g2,g3,g4,g5,g6,g7,g8,g9⟩
  dsimp only at g1 g2 g3 g4 g5 g6 g7 g8 g9 ⊢;refine bJ hj (fun u u1 u2=>?_);have hul:=(hx.h1 u u2).2;refine cw (fun k s=>s.1.length=nl.length∧(∀u∈s.1,Qe f.aF.length u)∧s.2.1.length=nl.length∧Vx f (XX s.2.2)∧s.2.2.2.1=c.cV) (by unfold m64;omega) ⟨g1,g2,g3,g4,g5⟩ ?_ ?_
  ·rintro k ⟨us,fs,s1,s2,s3,s4,s5,s6,s7,s8⟩ hk ⟨k1,k2,k3,k4,k5⟩
   dsimp only at k1 k2 k3 k4 k5 ⊢;refine bJ hk (fun h e1 e2=>?_);refine au (BX (by omega)) ?_;rintro w ⟨w0,w1,w2⟩;have w3:=w2 (Wm.2 u u2 h e2);refine au (aQ (aaW hf (hx.hs u u2 k h e1) k4)) ?_;rintro⟨un,cc⟩ ⟨q1,q2,q3⟩;dsimp only at q1 q2 q3 ⊢;refine fI w3 (by omega) (fun _ _ _=>aV (fI w3 (by omega) (fun _ _ _=>aV (ax (ah ⟨by dsimp only;rw[List.length_set];exact k1,fun y hy=>?_,by dsimp only;rw[List.length_set];exact k3,q2,by dsimp only;rw[q3];exact k5⟩)))));rcases mem_set hy with hy|rfl
   ·exact k2 y hy
   ·exact q1
  ·rintro⟨us,fs,s1,s2,s3,s4,s5,s6,s7,s8⟩ ⟨k1,k2,k3,k4,k5⟩
   dsimp only at k1 k2 k3 k4 k5 ⊢;refine aA (by unfold cl;exact ae1 (by omega)) (aV (aK (xt (by omega) (by decide)) ?_));refine aA (by unfold cl;exact ae2 (by omega)) (aV (aK (xt (by omega) (by decide)) (ax (ah ⟨k1,k2,k3,k4,k5,by dsimp only;rw[List.length_append,List.length_singleton];omega,by dsimp only;rw[List.length_append,List.length_singleton];omega,fun l hl=>?_,fun l hl=>?_⟩))))
   ·rcases List.mem_append.1 hl with hl|hl
    ·exact g8 l hl
    ·simp at hl;subst hl;exact⟨k1,k2⟩
   ·rcases List.mem_append.1 hl with hl|hl
    ·exact g9 l hl
    ·simp at hl;subst hl;exact k3
 ·rintro⟨us,fs,s1,s2,s3,s4,s5,s6,s7,s8,ul,fo⟩ ⟨g1,g2,g3,g4,g5,g6,g7,g8,g9⟩
  dsimp only at g1 g2 g3 g4 g5 g6 g7 g8 g9 ⊢;exact cR (WK (ah ⟨⟨n6,by dsimp only;omega,g8,g9⟩,g4.fl,g5,g4.p⟩))
structure aij(N:Nat)(p:jv):Prop where
 n:p.oC.length=N
 cs:∀x∈p.oC,acG N x
theorem RD{f:bj}{gP:List (List Int)}(hf:Dk gP f):Wp (vL f) fun q=>∃p,q = .inl p∧aij f.aF.length p:=by
 have n3:=hf.n3;unfold vL;refine aA (HO hf) (ak (fun h=>by cases h) (fun _=>?_));refine au (WW hf) ?_;rintro⟨a,b⟩ rfl;refine ak (fun h=>by cases h) (fun _=>cR ?_);refine cw (fun j s=>MI afi f.aF j s) (by unfold m64;omega) MI.zero ?_ ?_
 ·intro j s hj hs
  refine bJ hj (fun x x1 x2=>?_);obtain⟨I,T,r,g⟩:=hf.cs j x x1;have r3:=(hf.ar r (List.mem_of_getElem? g.ar)).2.1;refine au (XU g.v2 (fun u hu=>by have:=(g.h1 u hu).2;omega)) (fun l hl=>?_);exact aV (aK (xt (by have:=hs.1;omega) (by decide)) (ax (ah (hs.snoc x1 hl))))
 intro hd hhd;rw[Int.toNat_natCast]at hhd;refine cw (fun j s=>s.1=f∧s.2.1=hd∧s.2.2.2.2.2.2.1.length≤1000∧s.2.2.2.2.2.2.2.2.length=j∧∀x∈s.2.2.2.2.2.2.2.2,acG f.aF.length x) (by unfold m64;omega) ⟨rfl,rfl,by simp,rfl,by simp⟩ ?_ ?_
 ·rintro j ⟨s1,s2,s3,s4,s5,s6,s7,s8,s9⟩ hj ⟨g1,g2,g3,g4,g5⟩
  dsimp only at g1 g2 g3 g4 g5 ⊢;subst g1 g2;refine au (aQ (acb hf (by omega) rfl hhd.1 (fun k l x hl hx=>?_) g3)) ?_
  ·obtain⟨b,b1,b2⟩:=hhd.at hx
   dsimp only at hl;rw[hl]at b1;obtain rfl:=Option.some.inj b1;exact b2
  ·rintro⟨pc,cc⟩ ⟨q1,q2,q3,q4⟩
   dsimp only at q1 q2 q3 q4 ⊢;refine aV (aK (xt (by omega) (by decide)) (ax (ah ⟨q2,q3,q4,by dsimp only;rw[List.length_append,List.length_singleton];omega,fun x hx=>?_⟩)));rcases List.mem_append.1 hx with hx|hx
   ·exact g5 x hx
   ·simp at hx;subst hx;exact q1
 ·rintro⟨s1,s2,s3,s4,s5,s6,s7,s8,s9⟩ ⟨g1,g2,g3,g4,g5⟩
  dsimp only at g4 g5 ⊢;rw[Int.toNat_natCast]at g4;exact cR (aI (ah ⟨_,rfl,g4,g5⟩))
end Go.Proofs.YtpeihknododmlaaGreatDoor
namespace Go.Proofs
open Go.Shelf Go.RowKit Go.Lib
def Tryz.DP:Ren:={ f:=fun x=>match x with|156=>256|165=>323|166=>185|169=>127|240=>254|241=>364|276=>318|277=>384|n=>n,t:=fun x=>match x with|31=>176|9=>9|3=>3|4=>4|0=>0|20=>20|72=>308|76=>386|70=>306|37=>22|75=>385|127=>391|164=>510|5=>5|80=>315|n=>n,g:=fun n=>n }
theorem Tryz.Ov:Lays.n156 prog Tryz.DP where
 mixed:=by kernel_rfl
 f156:=Eq.trans func256 (congrArg some (by kernel_rfl))
 f165:=Eq.trans func323 (congrArg some (by kernel_rfl))
 f166:=Eq.trans func185 (congrArg some (by kernel_rfl))
 f169:=Eq.trans func127 (congrArg some (by kernel_rfl))
 f240:=Eq.trans func254 (congrArg some (by kernel_rfl))
 f241:=Eq.trans func364 (congrArg some (by kernel_rfl))
 f276:=Eq.trans func318 (congrArg some (by kernel_rfl))
 f277:=Eq.trans func384 (congrArg some (by kernel_rfl))
 t0:=underlying0
 a0:=Tryz.isAgg0
 z0:=Tryz.sizeOf0
 v0:=Tryz.zeroValue0
 t3:=underlying3
 a3:=Tryz.isAgg3
 z3:=Tryz.sizeOf3
 v3:=Tryz.zeroValue3
 t4:=underlying4
 a4:=Tryz.isAgg4
 z4:=Tryz.sizeOf4
 v4:=Tryz.zeroValue4
 t9:=underlying9
 a9:=Tryz.isAgg9
 z9:=Tryz.sizeOf9
 v9:=Tryz.zeroValue9
 t20:=underlying20
 a20:=Tryz.isAgg20
 z20:=Tryz.sizeOf20
 v20:=Tryz.zeroValue20
 t31:=underlying176
 a31:=Tryz.isAgg176
 z31:=Tryz.sizeOf176
 v31:=Tryz.zeroValue176
 t37:=underlying22
 a37:=Tryz.isAgg22
 z37:=Tryz.sizeOf22
 v37:=Tryz.zeroValue22
 t70:=underlying306
 a70:=Tryz.isAgg306
 z70:=Tryz.sizeOf306
 v70:=Tryz.zeroValue306
 t72:=underlying308
 a72:=Tryz.isAgg308
 z72:=Tryz.sizeOf308
 v72:=Tryz.zeroValue308
 t75:=underlying385
 a75:=Tryz.isAgg385
 z75:=Tryz.sizeOf385
 v75:=Tryz.zeroValue385
 t76:=underlying386
 a76:=Tryz.isAgg386
 z76:=Tryz.sizeOf386
 v76:=Tryz.zeroValue386
 t127:=underlying391
 a127:=Tryz.isAgg391
 z127:=Tryz.sizeOf391
 v127:=Tryz.zeroValue391
 t164:=underlying510
 a164:=Tryz.isAgg510
 z164:=Tryz.sizeOf510
 v164:=Tryz.zeroValue510
end Go.Proofs
namespace Go.Proofs.YtpeihknododmlaaGreatDoor
open Go.Proofs.Tryz
open Go.RowKit Go.Shelf
theorem joX:Builder.Extra prog Tryz.DP where
 sizeBuilder:=by kernel_rfl
 liesBuilder:=by kernel_rfl
 t5:=underlying5
 a5:=Tryz.isAgg5
 z5:=Tryz.sizeOf5
 v5:=Tryz.zeroValue5
 infoByte:=by kernel_rfl
 cellsByte:=by kernel_rfl
 sizeByte:=by kernel_rfl
 neB5:=by decide
def Oy(xs:List ByteArray)(sep:ByteArray):ByteArray:=⟨(Lib.join (xs.map (·.data.toList)) sep.data.toList).toArray⟩
def BZ(xs:List ByteArray)(sep:ByteArray):Option ByteArray :=
 Ih (xs.length≤140737488355328∧(Lib.join (xs.map (·.data.toList)) sep.data.toList).length≤140737488355328) (some (Oy xs sep))
theorem Pc{F:dI}:∀{xs:List ByteArray} {vs:List Value},mT F 1 (xs.map DV.str) vs→vs=xs.map Value.string
 |[],vs,h=>by simp only[List.map_nil,mT]at h;exact h
 |x::xs,vs,h=>by
  simp only[List.map_cons,mT]at h;obtain⟨v,rest,rfl,_,_,h1,h2⟩:=h;simp only[Rs]at h1;subst h1;rw[Pc h2]
  rfl
instance aga{x0:List ByteArray}{x1:ByteArray}:MC (BZ x0 x1) fun r=>bx prog 256 [.L 1 DV.str x0,.str x1] (.str r):=⟨fun {r} hM=>by
 obtain⟨⟨hN,hlen⟩,hM⟩:=tj hM;obtain rfl:=Option.some.inj hM;intro C F γ heap used w vs H hv;simp only[sM]at hv;obtain⟨v,rest,rfl,h1,u,aA4,rfl,h2,rfl⟩:=hv;simp only[Rs,List.length_map]at h1 h2;subst h2;obtain⟨A,c,rfl,Cj,hd⟩:=h1
 have fin:∀(e:Ending) (w':World),(e = .returned (.string (Oy x0 x1))∧Below w.heap.size w w')→∃v F',e = .returned v∧sd F F'∧WS C F' γ heap used w'∧Rs F' fc.no (.str (Oy x0 x1)) v:=by
  rintro e w' ⟨rfl,b⟩;exact⟨_,F,rfl,sd.refl _,H.quiet ⟨b.os,b.tape,b.output,b.size,fun k hk _=>b.block k hk⟩,by simp only[Rs]⟩
 rcases x0 with _|⟨y,ys⟩
 ·refine(Any.strings_Join_none Tryz.Ov joX A c x1 w).mono fun e w' ⟨he,hw⟩=>fin e w' ⟨he,hw ▸ Below.refl _ _⟩
 ·obtain⟨b,o,cs,vs,rest,rfl,hF,hdr,hE⟩:=hd (by simp)
  obtain⟨t,fz,hb⟩:=H.fs b cs hF;have Mt:=Pc hE
  have RN:∀(j:Nat) x,(y::ys)[j]? = some x→w.cell? ⟨b,o+j,none⟩=some (.string x):=by
   intro j x hj;have:=zQ hb o;rw[hdr,Mt]at this;exact this j _ (by rw[List.getElem?_append_left (by rw[List.length_map];exact(List.getElem?_eq_some_iff.1 hj).1),List.getElem?_map,hj];rfl)
  exact(Any.strings_Join Tryz.Ov joX b o c (y::ys) x1 w RN (by obtain⟨h,_⟩:=Array.getElem?_eq_some_iff.1 hb;exact h) hN Cj.2.1 hlen).mono fun e w' h=>fin e w' h⟩
end Go.Proofs.YtpeihknododmlaaGreatDoor
namespace Go.Proofs.YtpeihknododmlaaGreatDoor
open Go.Proofs.Tryz
open Go.RowKit
attribute [local irreducible] ik du bx iM oE dL eN iJ
structure dG where
 av6:Unit
 jS:List Int
structure aZ where
 ew:dG
 dP:Int
noncomputable def gm(o0:aZ):Option Unit :=
 npU 100000 0 (
  rX [] (some ()))<|
 rX [] (some ())
instance Fp{o0}:MA (gm o0) prog 254 (fun _=>0) fun r=>⟨[.ref 100000 0],[(100000,some (.bC 310 [.np 100000 0,.row 100001,.I o0.dP])),(100001,some (.R 5 1 (DV.int .u8) o0.ew.jS))],.gW [],[(100000,some (.bC 310 [.np 100000 0,.row 100001,.I o0.dP])),(100001,some (.R 5 1 (DV.int .u8) o0.ew.jS))],[]⟩:=⟨fun hM=>by unfold gm at hM;exact ae func254 ntmps254⟩
noncomputable def fR(x1:ByteArray)(o0:aZ):Option (Int×aZ) :=
 Bi (cl 7 [] (gm o0)) fun v2=>
 Ck (dL 1 (o0.ew.jS.length+List.length (bytesOf x1)))<|
 rX [(50000,14)] (some ((ByteArray.size x1:Int),(aZ.mk (dG.mk () (o0.ew.jS++(bytesOf x1))) o0.dP)))
instance Es{x1 o0}:MA (fR x1 o0) prog 185 (fun _=>3) fun r=>⟨[.ref 100000 0,.str x1],[(100000,some (.bC 310 [.np 100000 0,.row 100001,.I o0.dP])),(100001,some (.R 5 1 (DV.int .u8) o0.ew.jS))],.gW [.I r.1,.val .nilIface],[(100000,some (.bC 310 [.np 100000 0,.row 50000,.I r.2.dP])),(50000,some (.R 5 1 (DV.int .u8) r.2.ew.jS)),(100001,none)],[50000]⟩:=⟨fun hM=>by unfold fR at hM;exact ab func185 ntmps185⟩
noncomputable def ku(x1:Int)(o0:aZ):Option aZ :=
 Bi (cl 6 [] (gm o0)) fun v2=>
 eT 13 (bA 1 (DV.int .u8)) [x1] fun v3=>
 Ck (dL 1 (o0.ew.jS.length+List.length v3))<|
 rX [(50000,14)] (some (aZ.mk (dG.mk () (o0.ew.jS++v3)) o0.dP))
instance Fq{x1 o0}:MA (ku x1 o0) prog 186 (fun _=>3) fun r=>⟨[.ref 100000 0,.int .u8 x1],[(100000,some (.bC 310 [.np 100000 0,.row 100001,.I o0.dP])),(100001,some (.R 5 1 (DV.int .u8) o0.ew.jS))],.val .nilIface,[(100000,some (.bC 310 [.np 100000 0,.row 50000,.I r.dP])),(50000,some (.R 5 1 (DV.int .u8) r.ew.jS)),(100001,none)],[50000]⟩:=⟨fun hM=>by unfold ku at hM;exact ab func186 ntmps186⟩
noncomputable def bE(x1:List ByteArray)(o0:aZ):Option aZ :=
 fL (o0.ew.jS,o0.dP) 10 [100000,100001] [0,1,9] [] i2 (fun s t=>(10001,some (.R 5 1 (DV.int .u8) s.1))::(100000,some (.bC 310 [.np 100000 0,.row 10001,.I s.2]))::t) [] [(10001,100001)] m64 o0.dP (fun k1 s4=>
  Bi (cl 15 [(100001,10001),(50000,10005)] (fR ⟨#[32,32]⟩ (aZ.mk (dG.mk () s4.1) s4.2))) fun pF=>
  nX [] [(10001,10005)] (some (pF.2.ew.jS,pF.2.dP))) fun s4=>
 fL (s4.1,s4.2) 19 [100000,100001] [0,17,18] [] i2 (fun s t=>(10002,some (.R 5 1 (DV.int .u8) s.1))::(100000,some (.bC 310 [.np 100000 0,.row 10002,.I s.2]))::t) [] [(10002,10001)] m64 (x1.length:Int) (fun k5 s8=>
  Bi (idx x1 (k5:Int)) fun v12=>
  Bi (cl 27 [(100001,10002),(50000,10004)] (fR v12 (aZ.mk (dG.mk () s8.1) s8.2))) fun qm=>
  nX [] [(10002,10004)] (some (qm.2.ew.jS,qm.2.dP))) fun s8=>
 Bi (cl 32 [(100001,10002),(50000,10003)] (ku 10 (aZ.mk (dG.mk () s8.1) s8.2))) fun v10=>
 rX [(50000,10003)] (some v10)
instance KX{x1 o0}:MA (bE x1 o0) prog 123 (fun _=>3) fun r=>⟨[.ref 100000 0,.L 1 DV.str x1],[(100000,some (.bC 310 [.np 100000 0,.row 100001,.I o0.dP])),(100001,some (.R 5 1 (DV.int .u8) o0.ew.jS))],.gW [],[(100000,some (.bC 310 [.np 100000 0,.row 50000,.I r.dP])),(50000,some (.R 5 1 (DV.int .u8) r.ew.jS)),(100001,none)],[50000]⟩:=⟨fun hM=>by unfold bE at hM;exact ae func123 ntmps123⟩
noncomputable def kA(x0:Bool):Option ByteArray :=
 If x0 (
  some ⟨#[116,114,117,101]⟩)<|
 some ⟨#[102,97,108,115,101]⟩
instance FC{x0}:MC (kA x0) fun r=>bx prog 187 [.bool x0] (.str r):=⟨fun hM=>by unfold kA at hM;exact pb func187 ntmps187⟩
noncomputable def lX(x0:Bool):Option ByteArray :=
 Bi (kA x0) fun v2=>
 some v2
instance NK{x0}:MC (lX x0) fun r=>bx prog 124 [.bool x0] (.str r):=⟨fun hM=>by unfold lX at hM;exact pb func124 ntmps124⟩
noncomputable def mY(x0:Int)(x1:Int):Option ByteArray :=
 Bi (gL x0 x1) fun v2=>
 some v2
instance PJ{x0 x1}:MC (mY x0 x1) fun r=>bx prog 189 [.I x0,.I x1] (.str r):=⟨fun hM=>by unfold mY at hM;exact pb func189 ntmps189⟩
noncomputable def oP(sf_syntax_text:aB→Option ByteArray)(x0:aB)(x1:Int):Option ByteArray :=
 Bi (lu x0.cU) fun v2=>
 If (decide (v2.1.Dd<x1)) (
  Bi (sf_syntax_text x0) fun v4=>
  Ck ((ByteArray.mk #[40]).size+v4.size≤9223372036854775807)<|
  Ck ((⟨#[40]⟩++v4).size+(ByteArray.mk #[41]).size≤9223372036854775807)<|
  some ((⟨#[40]⟩++v4)++⟨#[41]⟩))<|
 Bi (sf_syntax_text x0) fun v8=>
 some v8
instance Ud{sf_syntax_text:aB→Option ByteArray}[ih_syntax_text:∀{x0},MC (sf_syntax_text x0) fun r=>bx prog 365 [.agg (kH x0)] (.str r)]{x0 x1}:MC (oP sf_syntax_text x0 x1) fun r=>bx prog 385 [.agg (kH x0),.I x1] (.str r):=⟨fun hM=>by unfold oP at hM;exact pb func385 ntmps385⟩
@[reducible] noncomputable def vq(sf_syntax_text:aB→Option ByteArray)(x0:aB)(v2:cF×Bool)(sK:Int):Option ByteArray :=
 Bi (idx x0.bR 0) fun v5=>
 Bi (aB.dec v5) fun v6=>
 Bi ((oP sf_syntax_text) v6 sK) fun v9=>
 Ck (v9.size+v2.1.ew.size≤9223372036854775807)<|
 Bi (idx x0.bR 1) fun v12=>
 Bi (aB.dec v12) fun mU=>
 Bi ((oP sf_syntax_text) mU (IntKind.wrap .i64 (v2.1.Dd+1))) fun pF=>
 Ck ((v9++v2.1.ew).size+pF.size≤9223372036854775807)<|
 some ((v9++v2.1.ew)++pF)
@[reducible] noncomputable def Bx(sf_syntax_text:aB→Option ByteArray)(x0:aB)(v2:cF×Bool)(Pr:Unit):Option ByteArray :=
 If (v2.1.ya==0) (
  some v2.1.ew)<|
 jn (vq sf_syntax_text x0 v2) 17 [] [1,3] [1,3] (fun s t=>(5,.I s)::t) i2<|
 If (v2.1.Dd==3) (
  nX [] [] (vq sf_syntax_text x0 v2 (IntKind.wrap .i64 (v2.1.Dd+1))))<|
 nX [] [] (vq sf_syntax_text x0 v2 v2.1.Dd)
@[reducible] noncomputable def vn(sf_syntax_text:aB→Option ByteArray)(x0:aB)(v2:cF×Bool)(AW:Bool):Option ByteArray :=
 If AW (
  Bi (idx x0.bR 0) fun v37=>
  Bi (aB.dec v37) fun Nn=>
  Bi ((oP sf_syntax_text) Nn v2.1.Dd) fun FH=>
  Ck (v2.1.ew.size+FH.size≤9223372036854775807)<|
  some (v2.1.ew++FH))<|
 nX [] [] (Bx sf_syntax_text x0 v2 ())
@[reducible] noncomputable def vo(sf_syntax_text:aB→Option ByteArray)(x0:aB)(v2:cF×Bool)(zV:Bool):Option ByteArray :=
 If zV (
  Ck (v2.1.ew.size+x0.bn.size≤9223372036854775807)<|
  Ck ((v2.1.ew++x0.bn).size+(ByteArray.mk #[91]).size≤9223372036854775807)<|
  Bi (idx x0.bR 0) fun v28=>
  Bi (aB.dec v28) fun GA=>
  Bi (sf_syntax_text GA) fun Bh=>
  Ck (((v2.1.ew++x0.bn)++⟨#[91]⟩).size+Bh.size≤9223372036854775807)<|
  Ck ((((v2.1.ew++x0.bn)++⟨#[91]⟩)++Bh).size+(ByteArray.mk #[93]).size≤9223372036854775807)<|
  some ((((v2.1.ew++x0.bn)++⟨#[91]⟩)++Bh)++⟨#[93]⟩))<|
 jn (vn sf_syntax_text x0 v2) 11 [] [1,3] [1,3] (fun s t=>(43,.bool s)::t) i2<|
 If (x0.cU==9) (
  nX [] [] (vn sf_syntax_text x0 v2 (x0.cU==9)))<|
 nX [] [] (vn sf_syntax_text x0 v2 (x0.cU==10))
@[reducible] noncomputable def vp(sf_syntax_text:aB→Option ByteArray)(x0:aB)(v2:cF×Bool)(s45:Bool):Option ByteArray :=
 If s45 (
  Ck (v2.1.ew.size+x0.bn.size≤9223372036854775807)<|
  some (v2.1.ew++x0.bn))<|
 jn (vo sf_syntax_text x0 v2) 8 [] [1,3,13] [1,3] (fun s t=>(27,.bool s)::t) i2<|
 If (x0.cU==6) (
  nX [] [] (vo sf_syntax_text x0 v2 (x0.cU==6)))<|
 nX [] [] (vo sf_syntax_text x0 v2 (x0.cU==7))
noncomputable def wJ(sf_syntax_text:aB→Option ByteArray)(x0:aB):Option ByteArray :=
 Bi (lu x0.cU) fun v2=>
 jn (Bx sf_syntax_text x0 v2) 2 [] [1,3] [1,3] i2 i2<|
 If (x0.cU==1) (
  Bi (mY x0.gN 10) fun v21=>
  some v21)<|
 jn (vp sf_syntax_text x0 v2) 5 [] [1,3,13] [1,3] (fun s t=>(19,.bool s)::t) i2<|
 If (x0.cU==5) (
  nX [] [] (vp sf_syntax_text x0 v2 (x0.cU==5)))<|
 nX [] [] (vp sf_syntax_text x0 v2 (x0.cU==8))
theorem It{sf_syntax_text:aB→Option ByteArray}[ih_syntax_text:∀{x0},MC (sf_syntax_text x0) fun r=>bx prog 365 [.agg (kH x0)] (.str r)]{x0}:MC (wJ sf_syntax_text x0) fun r=>bx prog 365 [.agg (kH x0)] (.str r):=⟨fun hM=>by unfold wJ at hM;exact pb func365 ntmps365⟩
noncomputable def mA:Nat→aB→Option ByteArray
 |0,_=>none
 |fu+1,x0=>wJ (mA fu) x0
instance aam(fu:Nat){x0}:MC (mA fu x0) fun r=>bx prog 365 [.agg (kH x0)] (.str r):=by
 induction fu generalizing x0 with
 |zero=>exact⟨fun h=>by cases h⟩
 |succ fu ih=>exact It (sf_syntax_text:=mA fu)
noncomputable def jJ(sf_syntax_writer_body_a:(List DV)→aZ→Option aZ)(x1:ByteArray)(x2:List DV)(o0:aZ):Option aZ :=
 If ((x2.length:Int)==0) (
  eT 11 (bA 1 DV.str) [x1,⟨#[59]⟩] fun v1=>
  Bi (cl 12 [(50000,10001)] (bE v1 o0)) fun v3=>
  rX [(50000,10001)] (some v3))<|
 eT 15 (bA 1 DV.str) [x1,⟨#[32,101,108,115,101,32,123]⟩] fun v4=>
 Bi (cl 16 [(50000,10002)] (bE v4 o0)) fun v6=>
 Bi (cl 19 [(100001,10002),(50000,10003)] (sf_syntax_writer_body_a x2 v6)) fun v8=>
 eT 21 (bA 1 DV.str) [⟨#[125]⟩] fun v9=>
 Bi (cl 22 [(100001,10003),(50000,10004)] (bE v9 v8)) fun v11=>
 rX [(50000,10004)] (some v11)
instance Jt{sf_syntax_writer_body_a:(List DV)→aZ→Option aZ}[ih_syntax_writer_body_a:∀{x1 o0},MA (sf_syntax_writer_body_a x1 o0) prog 257 (fun _=>3) fun r=>⟨[.ref 100000 0,.L 6 mh x1],[(100000,some (.bC 310 [.np 100000 0,.row 100001,.I o0.dP])),(100001,some (.R 5 1 (DV.int .u8) o0.ew.jS))],.gW [],[(100000,some (.bC 310 [.np 100000 0,.row 50000,.I r.dP])),(50000,some (.R 5 1 (DV.int .u8) r.ew.jS)),(100001,none)],[50000]⟩]{x1 x2 o0}:MA (jJ sf_syntax_writer_body_a x1 x2 o0) prog 366 (fun _=>3) fun r=>⟨[.ref 100000 0,.str x1,.L 6 mh x2],[(100000,some (.bC 310 [.np 100000 0,.row 100001,.I o0.dP])),(100001,some (.R 5 1 (DV.int .u8) o0.ew.jS))],.gW [],[(100000,some (.bC 310 [.np 100000 0,.row 50000,.I r.dP])),(50000,some (.R 5 1 (DV.int .u8) r.ew.jS)),(100001,none)],[50000]⟩:=⟨fun hM=>by unfold jJ at hM;exact aez func366 ntmps366 (wz [11,15,21])⟩
@[reducible] noncomputable def mz(s34:(List Int)×Int):Option aZ :=
 eT 84 (bA 1 DV.str) [⟨#[125]⟩] fun v31=>
 Bi (cl 85 [(100001,10007),(50000,10008)] (bE v31 (aZ.mk (dG.mk () s34.1) s34.2))) fun HU=>
 rX [(50000,10008)] (some HU)
noncomputable def iV(sf_syntax_writer_body_a:(List DV)→aZ→Option aZ)(x1:bf)(o0:aZ):Option aZ :=
 Ck (iJ 16 (x1.jV.length:Int) (x1.jV.length:Int))<|
 eT 10 DV.str ByteArray.empty fun _=>
 fL (List.replicate (Int.toNat (x1.jV.length:Int)) ByteArray.empty) 14 [100000,100001] [0,3,12,13] [3,100000,100001] (fun _ t=>(4,.row 10001)::t) (fun s t=>(10001,some (.R 9 1 DV.str s))::t) [] [(10001,10)] m64 (x1.jV.length:Int) (fun k2 s4=>
  Bi (idx x1.jV (k2:Int)) fun v83=>
  Bi (aB.dec v83) fun v84=>
  Bi ((mA 64) v84) fun v87=>
  Bi (idx s4 (k2:Int)) fun v89=>
  eT 23 DV.str v87 fun v90=>
  nX [] [] (some (List.set s4 (Int.toNat (k2:Int)) v90))) fun s4=>
 If (x1.bw==1) (
  Bi (idx s4 0) fun v6=>
  eT 35 (bA 1 DV.str) [x1.bn,⟨#[32,61,32]⟩,v6,⟨#[59]⟩] fun v7=>
  Bi (cl 36 [(50000,10002)] (bE v7 o0)) fun v9=>
  rX [(50000,10002)] (some v9))<|
 If (x1.bw==2) (
  Bi (idx s4 0) fun v11=>
  Bi (idx s4 1) fun mU=>
  eT 48 (bA 1 DV.str) [x1.bn,⟨#[91]⟩,v11,⟨#[93,32,61,32]⟩,mU,⟨#[59]⟩] fun qm=>
  Bi (cl 49 [(50000,10003)] (bE qm o0)) fun pF=>
  rX [(50000,10003)] (some pF))<|
 If (x1.bw==3) (
  Bi (idx s4 0) fun ob=>
  eT 58 (bA 1 DV.str) [⟨#[100,101,108,101,116,101,32]⟩,x1.bn,⟨#[91]⟩,ob,⟨#[93,59]⟩] fun xw=>
  Bi (cl 59 [(50000,10004)] (bE xw o0)) fun v21=>
  rX [(50000,10004)] (some v21))<|
 If (x1.bw==4) (
  Bi (idx s4 0) fun uG=>
  eT 66 (bA 1 DV.str) [⟨#[105,102,32]⟩,uG,⟨#[32,123]⟩] fun v24=>
  Bi (cl 67 [(50000,10005)] (bE v24 o0)) fun yN=>
  Bi (cl 71 [(100001,10005),(50000,10006)] (sf_syntax_writer_body_a x1.vW yN)) fun v28=>
  jn mz 17 [100000,100001] [0] [] i2 (fun s t=>(10007,some (.R 5 1 (DV.int .u8) s.1))::(100000,some (.bC 310 [.np 100000 0,.row 10007,.I s.2]))::t)<|
  If (decide (0<(x1.uU.length:Int))) (
   eT 77 (bA 1 DV.str) [⟨#[125,32,101,108,115,101,32,123]⟩] fun zh=>
   Bi (cl 78 [(100001,10006),(50000,10009)] (bE zh v28)) fun v37=>
   Bi (cl 82 [(100001,10009),(50000,10010)] (sf_syntax_writer_body_a x1.uU v37)) fun Fl=>
   nX [] [(10007,10010)] (mz (Fl.ew.jS,Fl.dP)))<|
  nX [] [(10007,10006)] (mz (v28.ew.jS,v28.dP)))<|
 If (x1.bw==5) (
  Bi (idx s4 0) fun FH=>
  eT 92 (bA 1 DV.str) [⟨#[119,104,105,108,101,32]⟩,FH,⟨#[32,123]⟩] fun En=>
  Bi (cl 93 [(50000,10011)] (bE En o0)) fun TM=>
  Bi (cl 97 [(100001,10011),(50000,10012)] (sf_syntax_writer_body_a x1.vW TM)) fun v46=>
  eT 99 (bA 1 DV.str) [⟨#[125]⟩] fun xv=>
  Bi (cl 100 [(100001,10012),(50000,10013)] (bE xv v46)) fun v49=>
  rX [(50000,10013)] (some v49))<|
 If (x1.bw==6) (
  wk [.z 10001]<|
  Bi (BZ s4 ⟨#[44,32]⟩) fun v51=>
  eT 110 (bA 1 DV.str) [⟨#[115,101,110,100,32]⟩,x1.bn,⟨#[46]⟩,x1.bM,⟨#[40]⟩,v51,⟨#[41,59]⟩] fun GB=>
  Bi (cl 111 [(50000,10014)] (bE GB o0)) fun v54=>
  rX [(50000,10014)] (some v54))<|
 If (x1.bw==7) (
  wk [.z 10001]<|
  Bi (idx s4 0) fun v56=>
  Ck (eN (s4.length) 1 (s4.length))<|
  Bi (BZ (List.drop (Int.toNat 1) s4) ⟨#[44,32]⟩) fun v59=>
  eT 123 (bA 1 DV.str) [⟨#[97,102,116,101,114,32]⟩,v56,⟨#[32,100,111,32]⟩,x1.bM,⟨#[40]⟩,v59,⟨#[41,59]⟩] fun v60=>
  Bi (cl 124 [(50000,10015)] (bE v60 o0)) fun Wq=>
  rX [(50000,10015)] (some Wq))<|
 If (x1.bw==8) (
  Bi (idx s4 0) fun TN=>
  Ck ((ByteArray.mk #[115,116,111,114,101,32]).size+TN.size≤9223372036854775807)<|
  Ck ((⟨#[115,116,111,114,101,32]⟩++TN).size+(ByteArray.mk #[32,61,32]).size≤9223372036854775807)<|
  Bi (idx s4 1) fun v68=>
  Ck (((⟨#[115,116,111,114,101,32]⟩++TN)++⟨#[32,61,32]⟩).size+v68.size≤9223372036854775807)<|
  Bi (cl 139 [(50000,10016)] ((jJ sf_syntax_writer_body_a) (((⟨#[115,116,111,114,101,32]⟩++TN)++⟨#[32,61,32]⟩)++v68) x1.uU o0)) fun v71=>
  rX [(50000,10016)] (some v71))<|
 If (x1.bw==9) (
  Ck ((ByteArray.mk #[102,101,116,99,104,32]).size+x1.bn.size≤9223372036854775807)<|
  Ck ((⟨#[102,101,116,99,104,32]⟩++x1.bn).size+(ByteArray.mk #[32,61,32]).size≤9223372036854775807)<|
  Bi (idx s4 0) fun v75=>
  Ck (((⟨#[102,101,116,99,104,32]⟩++x1.bn)++⟨#[32,61,32]⟩).size+v75.size≤9223372036854775807)<|
  Bi (cl 153 [(50000,10017)] ((jJ sf_syntax_writer_body_a) (((⟨#[102,101,116,99,104,32]⟩++x1.bn)++⟨#[32,61,32]⟩)++v75) x1.uU o0)) fun v78=>
  rX [(50000,10017)] (some v78))<|
 If (x1.bw==10) (
  eT 157 (bA 1 DV.str) [⟨#[115,116,111,112,59]⟩] fun v79=>
  Bi (cl 158 [(50000,10018)] (bE v79 o0)) fun v81=>
  rX [(50000,10018)] (some v81))<|
 rX [(50000,100001)] (some o0)
instance FK{sf_syntax_writer_body_a:(List DV)→aZ→Option aZ}[ih_syntax_writer_body_a:∀{x1 o0},MA (sf_syntax_writer_body_a x1 o0) prog 257 (fun _=>3) fun r=>⟨[.ref 100000 0,.L 6 mh x1],[(100000,some (.bC 310 [.np 100000 0,.row 100001,.I o0.dP])),(100001,some (.R 5 1 (DV.int .u8) o0.ew.jS))],.gW [],[(100000,some (.bC 310 [.np 100000 0,.row 50000,.I r.dP])),(50000,some (.R 5 1 (DV.int .u8) r.ew.jS)),(100001,none)],[50000]⟩]{x1 o0}:MA (iV sf_syntax_writer_body_a x1 o0) prog 324 (fun _=>3) fun r=>⟨[.ref 100000 0,.agg (sP x1)],[(100000,some (.bC 310 [.np 100000 0,.row 100001,.I o0.dP])),(100001,some (.R 5 1 (DV.int .u8) o0.ew.jS))],.gW [],[(100000,some (.bC 310 [.np 100000 0,.row 50000,.I r.dP])),(50000,some (.R 5 1 (DV.int .u8) r.ew.jS)),(100001,none)],[50000]⟩:=⟨fun hM=>by unfold iV at hM;exact aez func324 ntmps324 (wz [35,48,58,66,77,84,92,99,110,123,157])⟩
noncomputable def kK(sf_syntax_writer_body_a:(List DV)→aZ→Option aZ)(x1:List DV)(o0:aZ):Option aZ :=
 fL (o0.ew.jS,(IntKind.wrap .i64 (o0.dP+1))) 15 [100000,100001] [0,13,14] [] i2 (fun s t=>(10001,some (.R 5 1 (DV.int .u8) s.1))::(100000,some (.bC 310 [.np 100000 0,.row 10001,.I s.2]))::t) [] [(10001,100001)] m64 (x1.length:Int) (fun k1 s4=>
  Bi (idx x1 (k1:Int)) fun v6=>
  Bi (bf.dec v6) fun v7=>
  Bi (cl 21 [(100001,10001),(50000,10002)] ((iV sf_syntax_writer_body_a) v7 (aZ.mk (dG.mk () s4.1) s4.2))) fun v10=>
  nX [] [(10001,10002)] (some (v10.ew.jS,v10.dP))) fun s4=>
 rX [(50000,10001)] (some (aZ.mk (dG.mk () s4.1) (IntKind.wrap .i64 (s4.2-1))))
theorem Ag{sf_syntax_writer_body_a:(List DV)→aZ→Option aZ}[ih_syntax_writer_body_a:∀{x1 o0},MA (sf_syntax_writer_body_a x1 o0) prog 257 (fun _=>3) fun r=>⟨[.ref 100000 0,.L 6 mh x1],[(100000,some (.bC 310 [.np 100000 0,.row 100001,.I o0.dP])),(100001,some (.R 5 1 (DV.int .u8) o0.ew.jS))],.gW [],[(100000,some (.bC 310 [.np 100000 0,.row 50000,.I r.dP])),(50000,some (.R 5 1 (DV.int .u8) r.ew.jS)),(100001,none)],[50000]⟩]{x1 o0}:MA (kK sf_syntax_writer_body_a x1 o0) prog 257 (fun _=>3) fun r=>⟨[.ref 100000 0,.L 6 mh x1],[(100000,some (.bC 310 [.np 100000 0,.row 100001,.I o0.dP])),(100001,some (.R 5 1 (DV.int .u8) o0.ew.jS))],.gW [],[(100000,some (.bC 310 [.np 100000 0,.row 50000,.I r.dP])),(50000,some (.R 5 1 (DV.int .u8) r.ew.jS)),(100001,none)],[50000]⟩:=⟨fun hM=>by unfold kK at hM;exact ae func257 ntmps257⟩
noncomputable def iW:Nat→(List DV)→aZ→Option aZ
 |0,_,_=>none
 |fu+1,x1,o0=>kK (iW fu) x1 o0
instance KY(fu:Nat){x1 o0}:MA (iW fu x1 o0) prog 257 (fun _=>3) fun r=>⟨[.ref 100000 0,.L 6 mh x1],[(100000,some (.bC 310 [.np 100000 0,.row 100001,.I o0.dP])),(100001,some (.R 5 1 (DV.int .u8) o0.ew.jS))],.gW [],[(100000,some (.bC 310 [.np 100000 0,.row 50000,.I r.dP])),(50000,some (.R 5 1 (DV.int .u8) r.ew.jS)),(100001,none)],[50000]⟩:=by
 induction fu generalizing x1 o0 with
 |zero=>exact⟨fun h=>by cases h⟩
 |succ fu ih=>exact Ag (sf_syntax_writer_body_a:=iW fu)
noncomputable def ir(x1:bQ)(o0:aZ):Option aZ :=
 fL (o0.ew.jS,o0.dP) 9 [100000,100001] [0,7,8] [] i2 (fun s t=>(10001,some (.R 5 1 (DV.int .u8) s.1))::(100000,some (.bC 310 [.np 100000 0,.row 10001,.I s.2]))::t) [] [(10001,100001)] m64 (x1.bP.length:Int) (fun k1 s4=>
  Bi (idx x1.bP (k1:Int)) fun v6=>
  Bi (BZ v6.dM ⟨#[44,32]⟩) fun v8=>
  eT 19 (bA 1 DV.str) [⟨#[111,110,32]⟩,v6.bn,⟨#[40]⟩,v8,⟨#[41,32,123]⟩] fun v9=>
  Bi (cl 20 [(100001,10001),(50000,10002)] (bE v9 (aZ.mk (dG.mk () s4.1) s4.2))) fun v11=>
  Bi (cl 24 [(100001,10002),(50000,10003)] ((iW 64) v6.xc v11)) fun mU=>
  eT 26 (bA 1 DV.str) [⟨#[125]⟩] fun qm=>
  Bi (cl 27 [(100001,10003),(50000,10004)] (bE qm mU)) fun pF=>
  nX [] [(10001,10004)] (some (pF.ew.jS,pF.dP))) fun s4=>
 rX [(50000,10001)] (some (aZ.mk (dG.mk () s4.1) s4.2))
instance GR{x1 o0}:MA (ir x1 o0) prog 190 (fun _=>3) fun r=>⟨[.ref 100000 0,.agg (KE x1)],[(100000,some (.bC 310 [.np 100000 0,.row 100001,.I o0.dP])),(100001,some (.R 5 1 (DV.int .u8) o0.ew.jS))],.gW [],[(100000,some (.bC 310 [.np 100000 0,.row 50000,.I r.dP])),(50000,some (.R 5 1 (DV.int .u8) r.ew.jS)),(100001,none)],[50000]⟩:=⟨fun hM=>by unfold ir at hM;exact aez func190 ntmps190 (wz [19,26])⟩
noncomputable def jy(x1:aM)(o0:aZ):Option aZ :=
 eT 11 (bA 1 DV.str) [⟨#[99,111,109,112,111,110,101,110,116,32]⟩,x1.bn,⟨#[32,123]⟩] fun v1=>
 Bi (cl 12 [(50000,10001)] (bE v1 o0)) fun v3=>
 fL (v3.ew.jS,(IntKind.wrap .i64 (v3.dP+1))) 23 [100000,100001] [0,3,21,22] [3] i2 (fun s t=>(10002,some (.R 5 1 (DV.int .u8) s.1))::(100000,some (.bC 310 [.np 100000 0,.row 10002,.I s.2]))::t) [] [(10002,10001)] m64 (x1.ez.length:Int) (fun k4 s7=>
  Bi (idx x1.ez (k4:Int)) fun v30=>
  If (v30.tu==1) (
   Bi (mY v30.uT 10) fun Bh=>
   eT 37 (bA 1 DV.str) [⟨#[118,97,114,32]⟩,v30.bn,⟨#[58,32,105,110,116,32,61,32]⟩,Bh,⟨#[59]⟩] fun HU=>
   Bi (cl 38 [(100001,10002),(50000,10009)] (bE HU (aZ.mk (dG.mk () s7.1) s7.2))) fun zh=>
   nX [] [(10002,10009)] (some (zh.ew.jS,zh.dP)))<|
  If (v30.tu==2) (
   Bi (lX (v30.uT==1)) fun v37=>
   eT 48 (bA 1 DV.str) [⟨#[118,97,114,32]⟩,v30.bn,⟨#[58,32,98,111,111,108,32,61,32]⟩,v37,⟨#[59]⟩] fun Nn=>
   Bi (cl 49 [(100001,10002),(50000,10010)] (bE Nn (aZ.mk (dG.mk () s7.1) s7.2))) fun v40=>
   nX [] [(10002,10010)] (some (v40.ew.jS,v40.dP)))<|
  If (v30.tu==3) (
   eT 55 (bA 1 DV.str) [⟨#[118,97,114,32]⟩,v30.bn,⟨#[58,32,116,97,98,108,101,59]⟩] fun FH=>
   Bi (cl 56 [(100001,10002),(50000,10011)] (bE FH (aZ.mk (dG.mk () s7.1) s7.2))) fun TG=>
   nX [] [(10002,10011)] (some (TG.ew.jS,TG.dP)))<|
  nX [] [] (some (s7.1,s7.2))) fun s7=>
 fL (s7.1,s7.2) 61 [100000,100001] [0,59,60] [] i2 (fun s t=>(10003,some (.R 5 1 (DV.int .u8) s.1))::(100000,some (.bC 310 [.np 100000 0,.row 10003,.I s.2]))::t) [] [(10003,10002)] m64 (x1.aX.length:Int) (fun k8 sx=>
  Bi (idx x1.aX (k8:Int)) fun pF=>
  If ((k8:Int)==0) (
   Bi (cl 70 [(100001,10003),(50000,10005)] (ir pF (aZ.mk (dG.mk () sx.1) sx.2))) fun ob=>
   nX [] [(10003,10005)] (some (ob.ew.jS,ob.dP)))<|
  Bi (mq ((k8:Int)+1)) fun v20=>
  eT 75 (bA 1 DV.str) [⟨#[118,101,114,115,105,111,110,32]⟩,v20,⟨#[32,123]⟩] fun v21=>
  Bi (cl 76 [(100001,10003),(50000,10006)] (bE v21 (aZ.mk (dG.mk () sx.1) sx.2))) fun uG=>
  Bi (cl 86 [(100001,10006),(50000,10007)] (ir pF (aZ.mk uG.ew (IntKind.wrap .i64 (uG.dP+1))))) fun vY=>
  eT 95 (bA 1 DV.str) [⟨#[125]⟩] fun yN=>
  Bi (cl 96 [(100001,10007),(50000,10008)] (bE yN (aZ.mk vY.ew (IntKind.wrap .i64 (vY.dP-1))))) fun v28=>
  nX [] [(10003,10008)] (some (v28.ew.jS,v28.dP))) fun sx=>
 eT 106 (bA 1 DV.str) [⟨#[125]⟩] fun v12=>
 Bi (cl 107 [(100001,10003),(50000,10004)] (bE v12 (aZ.mk (dG.mk () sx.1) (IntKind.wrap .i64 (sx.2-1))))) fun qm=>
 rX [(50000,10004)] (some qm)
instance Gi{x1 o0}:MA (jy x1 o0) prog 126 (fun _=>3) fun r=>⟨[.ref 100000 0,.agg (zk x1)],[(100000,some (.bC 310 [.np 100000 0,.row 100001,.I o0.dP])),(100001,some (.R 5 1 (DV.int .u8) o0.ew.jS))],.gW [],[(100000,some (.bC 310 [.np 100000 0,.row 50000,.I r.dP])),(50000,some (.R 5 1 (DV.int .u8) r.ew.jS)),(100001,none)],[50000]⟩:=⟨fun hM=>by unfold jy at hM;exact aez func126 ntmps126 (wz [11,37,48,55,75,95,106])⟩
noncomputable def mo(o0:aZ):Option ByteArray :=
 Ck (0<List.length o0.ew.jS)<|
 Ck (bOk o0.ew.jS=true)<|
 rX [] (some (strOfNums o0.ew.jS))
instance GU{o0}:MA (mo o0) prog 127 (fun _=>1) fun r=>⟨[.ref 100000 0],[(100000,some (.bC 310 [.np 100000 0,.row 100001,.I o0.dP])),(100001,some (.R 5 1 (DV.int .u8) o0.ew.jS))],.str r,[(100001,none),(100000,some (.bC 310 [.np 100000 0,.row 100001,.I o0.dP]))],[]⟩:=⟨fun hM=>by unfold mo at hM;exact ab func127 ntmps127⟩
noncomputable def tK(x0:bj):Option ByteArray :=
 Bi (rl x0) fun v2=>
 If (v2 != 0) (
  some ByteArray.empty)<|
 wk [.p 14 0 14 0,.c 14 48401 1 5 1]<|
 eT 18 (bA 1 DV.str) [⟨#[102,108,101,101,116,32]⟩,x0.bn,⟨#[32,123]⟩] fun v3=>
 Bi (cl 19 [(100000,14),(100001,48401),(50000,10001)] (bE v3 (aZ.mk (dG.mk () ([]:List Int)) 0))) fun v5=>
 fL (v5.ew.jS,(IntKind.wrap .i64 (v5.dP+1))) 30 [] [1,3,28,29] [1] i2 (fun s t=>(14,some (.bC 310 [.np 14 0,.row 10002,.I s.2]))::(10002,some (.R 5 1 (DV.int .u8) s.1))::t) [] [(10002,10001)] m64 (x0.aR.length:Int) (fun k6 s9=>
  Bi (idx x0.aR (k6:Int)) fun zh=>
  Bi (lX zh.uT) fun v37=>
  eT 40 (bA 1 DV.str) [⟨#[102,108,97,103,32]⟩,zh.bn,⟨#[32,61,32]⟩,v37,⟨#[59]⟩] fun Nn=>
  Bi (cl 41 [(100000,14),(100001,10002),(50000,10008)] (bE Nn (aZ.mk (dG.mk () s9.1) s9.2))) fun v40=>
  nX [] [(10002,10008)] (some (v40.ew.jS,v40.dP))) fun s9=>
 fL (s9.1,s9.2) 46 [] [1,3,44,45] [1] i2 (fun s t=>(14,some (.bC 310 [.np 14 0,.row 10003,.I s.2]))::(10003,some (.R 5 1 (DV.int .u8) s.1))::t) [] [(10003,10002)] m64 (x0.fP.length:Int) (fun k10 tF=>
  Bi (idx x0.fP (k10:Int)) fun v28=>
  Bi (mq v28.qN) fun v30=>
  eT 58 (bA 1 DV.str) [⟨#[108,105,110,107,32]⟩,v28.gS,⟨#[32,45,62,32]⟩,v28.uS,⟨#[32,108,97,116,101,110,99,121,32]⟩,v30,⟨#[59]⟩] fun v31=>
  Bi (cl 59 [(100000,14),(100001,10003),(50000,10007)] (bE v31 (aZ.mk (dG.mk () tF.1) tF.2))) fun HU=>
  nX [] [(10003,10007)] (some (HU.ew.jS,HU.dP))) fun tF=>
 fL (tF.1,tF.2) 64 [] [3,62,63] [] i2 (fun s t=>(14,some (.bC 310 [.np 14 0,.row 10004,.I s.2]))::(10004,some (.R 5 1 (DV.int .u8) s.1))::t) [] [(10004,10003)] m64 (x0.aF.length:Int) (fun k14 Cx=>
  Bi (idx x0.aF (k14:Int)) fun v24=>
  Bi (cl 70 [(100000,14),(100001,10004),(50000,10006)] (jy v24 (aZ.mk (dG.mk () Cx.1) Cx.2))) fun yN=>
  nX [] [(10004,10006)] (some (yN.ew.jS,yN.dP))) fun Cx=>
 eT 80 (bA 1 DV.str) [⟨#[125]⟩] fun ob=>
 Bi (cl 81 [(100000,14),(100001,10004),(50000,10005)] (bE ob (aZ.mk (dG.mk () Cx.1) (IntKind.wrap .i64 (Cx.2-1))))) fun v20=>
 Bi (cl 85 [(100000,14),(100001,10005)] (mo v20)) fun vX=>
 some vX
instance Xf{x0}:MC (tK x0) fun r=>bx prog 78 [.agg (tX x0)] (.str r):=⟨fun hM=>by unfold tK at hM;exact pbz func78 ntmps78 (wz [18,40,58,80])⟩
end Go.Proofs.YtpeihknododmlaaGreatDoor
namespace Go.Proofs.YtpeihknododmlaaGreatDoor
open Go.Proofs.Tryz
theorem SV{n:Int}(h0:0≤n)(h1:n<100):Wp (mY n 10) fun s=>s.size≤2:=by
 have:=Cd h0 h1;unfold mq lP at this;unfold mY;obtain⟨r,e,h⟩:=this;rw[Ks]at e ⊢;cases hq:gL n 10 with
 |none=>rw[hq]at e;simp[Ks]at e
 |some v=>
  rw[hq]at e;simp only[Ks,Option.bind_some,Option.some.injEq]at e;exact⟨v,rfl,by rw[e];exact h⟩
theorem OK(b:Bool):Wp (lX b) fun s=>s.size≤5:=by
 unfold lX kA;refine au (P:=fun s=>s.size≤5) (ak (fun _=>ah ?_) (fun _=>ah ?_)) (fun _ h=>ah h) <;> simp only[Af,List.length_cons,List.length_nil] <;> omega
theorem SD{k:Nat}:∀(l:List (List UInt8)),(∀x∈l,x.length≤k)→Lib.lens l≤l.length*k
 |[],_=>by simp[Lib.lens]
 |x::l,h=>by
  have h1:=h x (by simp);have h2:=SD l (fun y hy=>h y (by simp[hy]));simp only[Lib.lens,List.length_cons,Nat.add_mul,Nat.one_mul]at h2 ⊢;simp at h2 ⊢;omega
theorem LF{xs:List ByteArray}{sep:ByteArray}(h:xs.length≤4)(hs:sep.size≤2)(hx:∀x∈xs,x.size≤30000):Wp (BZ xs sep) fun r=>r.size≤150000:=by
 have hl:(Lib.join (xs.map (·.data.toList)) sep.data.toList).length≤150000:=by
  cases xs with
  |nil=>simp[Lib.join_nil]
  |cons x r=>
   rw[List.map_cons,Lib.join_length]
   have h1:=SD (k:=30000) ((x::r).map (·.data.toList)) (fun y hy=>by
    obtain⟨z,hz,rfl⟩:=List.mem_map.1 hy;have:=hx z hz;simpa using this)
   rw[List.length_map]at h1;rw[List.map_cons]at h1;have h2:sep.data.toList.length≤2:=by simpa using hs
   have h3:=Nat.mul_le_mul h2 (show(r.map (·.data.toList)).length≤3 by simp at h ⊢;omega);have h4:=Nat.mul_le_mul_right 30000 h;omega
 unfold BZ;rw[tT ⟨by omega,by omega⟩]
 exact ah (by
  show(Oy xs sep).data.size≤150000;unfold Oy;simpa using hl)
structure qU(B:Nat)(i:Int)(s:aZ):Prop where
 b:bOk s.ew.jS=true
 len:s.ew.jS.length≤B
 ind:s.dP=i
theorem Tu{a b:List Int}(ha:bOk a=true)(hb:bOk b=true):bOk (a++b)=true:=by
 unfold bOk at *;rw[List.all_append,ha,hb];rfl
theorem Vq(x:ByteArray):bOk (bytesOf x)=true:=by
 unfold bOk bytesOf;rw[List.all_eq_true];intro y hy;obtain⟨b,_,rfl⟩:=List.mem_map.1 hy;have:=b.toNat_lt;simp;omega
theorem Fg(x:ByteArray):(bytesOf x).length=x.size:=by unfold bytesOf;simp
theorem RQ{x:ByteArray}{s:aZ}{B:Nat}{i:Int}(h:qU B i s)(hB:B+x.size≤100000000000):Wp (fR x s) fun q=>qU (B+x.size) i q.2:=by
 unfold fR gm;have hl:=h.len;refine aA (x:=()) (by unfold cl npU rX;rfl) (aK ?_ (aI (ah ⟨Tu h.b (Vq x),?_,h.ind⟩)))
 ·unfold dL;rw[Fg];omega
 ·dsimp only;rw[List.length_append,Fg];omega
theorem abK{l:List ByteArray}{s:aZ}{B:Nat}{i:Int}(h:qU B i s)(i0:0≤i)(i1:i≤1000)(hl:l.length≤7)(hx:∀x∈l,x.size≤150000)(hB:B+2000000≤100000000000):Wp (bE l s) fun q=>qU (B+2000000) i q∧q.ew.jS≠[]:=by
 unfold bE;refine cw (fun j s=>qU (B+2*j) i ⟨⟨(),s.1⟩,s.2⟩) (by rw[h.ind];unfold m64;omega) (by rw[Nat.mul_zero,Nat.add_zero];exact⟨h.b,h.len,h.ind⟩) ?_ ?_
 ·intro j s hj hs
  rw[h.ind]at hj
  exact au (aQ (RQ hs (by show B+2*j+2≤_;omega))) (fun q hq=>ax (ah (by
   refine⟨hq.b,?_,hq.ind⟩;have:q.2.ew.jS.length≤B+2*j+2:=hq.len;dsimp only;omega)))
 intro s2 FG;rw[h.ind]at FG;refine cw (fun j s=>qU (B+2000+150000*j) i ⟨⟨(),s.1⟩,s.2⟩) (by unfold m64;omega) ⟨FG.b,by have:=FG.len;dsimp only at this ⊢;omega,FG.ind⟩ ?_ ?_
 ·intro j s hj hs
  refine bJ hj (fun x _ x2=>?_);have:=hx x x2
  exact au (aQ (RQ hs (by omega))) (fun q hq=>ax (ah (by
   refine⟨hq.b,?_,hq.ind⟩;have:=hq.len;dsimp only;omega)))
 intro s3 hs3;rw[Int.toNat_natCast]at hs3;have l3:=hs3.len;dsimp only at l3;unfold ku gm;refine od (aQ (aA (x:=()) (by unfold cl npU rX;rfl) (aV (aK (by unfold dL;simp only[List.length_singleton];omega) (aI (ah (aI (ah ⟨⟨Tu hs3.b rfl,?_,hs3.ind⟩,by simp⟩))))))));dsimp only;rw[List.length_append,List.length_singleton];have:l.length*150000≤7*150000:=Nat.mul_le_mul_right _ hl;omega
theorem Er{β:Type}{l:List ByteArray}{s:aZ}{B:Nat}{i:Int}{t:Nat}{r:Rn}{k:aZ→Option β}{Q:β→Prop}(h:qU B i s)(i0:0≤i)(i1:i≤1000)(hl:l.length≤7)(hx:∀x∈l,x.size≤150000)(hB:B+2000000≤100000000000)(g:∀q,qU (B+2000000) i q→q.ew.jS≠[]→Wp (k q) Q):Wp (Bi (cl t r (bE l s)) k) Q :=
 au (aQ (abK h i0 i1 hl hx hB)) (fun q hq=>g q hq.1 hq.2)
theorem Xp:∀j:Fin 24,((tb6[(j:Nat)]?).getD ⟨0,false,0,ByteArray.empty⟩).ew.size≤6:=by decide
theorem Xq{op:Int}(h:1≤op∧op≤23):(Uk op).ew.size≤6:=by
 unfold Uk;exact Xp ⟨op.toNat,by omega⟩
theorem Sh.nsz{C:SN}{t u:Bool}{op n:Int}{s:ByteArray}{c:Nat}(h:Sh C t op s n u c):s.size≤2:=by
 cases h <;> first|exact Nat.zero_le _|exact Nat.le_refl _
theorem CW{sf:aB→Option ByteArray}{e:aB}{x:Int}{X:Nat}(ho:1≤e.cU∧e.cU≤23)(hX:X≤100000)(h:Wp (sf e) fun s=>s.size≤X):Wp (oP sf e x) fun s=>s.size≤X+2:=by
 unfold oP;refine aA (Lb ho) (ak (fun _=>?_) (fun _=>?_))
 ·refine au h (fun s hs=>aK ?_ (aK ?_ (ah ?_))) <;> simp only[ByteArray.size_append,Af,List.length_cons,List.length_nil] <;> omega
 ·exact au h (fun s hs=>ah (by omega))
theorem aaZ{C:SN}(hC:Fi C):∀{d:Nat} {t:Bool} {x:DV},WE C Ct d t x→d≤6→∀{fu:Nat},d≤fu→∃e,aB.dec x=some e∧(1≤e.cU∧e.cU≤23)∧Wp (mA fu e) fun s=>s.size≤40*3^d:=by
 intro d t x h
 induction h with
 | @node d t u op n s c l sh hl _ ih=>
  intro hd fu hf;obtain⟨g,rfl⟩:∃g,fu=g+1:=⟨fu-1,by omega⟩;have hc:=sh.c2;have ho:=sh.op;have yQ:=sh.nsz;have Jh:=(sh.ok hC).ops;have htx:=Xq ho;refine⟨_,Bm _,ho,?_⟩;have p1:1≤3^d:=Nat.one_le_pow _ _ (by omega);have p2:3^d≤243:=Nat.pow_le_pow_right (n:=3) (by omega) (show d≤5 by omega);have p3:3^(d+1)=3*3^d:=by rw[Nat.pow_succ,Nat.mul_comm]
  rw[p3]
  have at_:∀i:Nat,i<l.length→∃a e,idx l (i:Int)=some a∧aB.dec a=some e∧(1≤e.cU∧e.cU≤23)∧Wp (mA g e) fun s=>s.size≤40*3^d:=by
   intro i hi;obtain⟨e,e1,e2,e3⟩:=ih l[i] (List.getElem_mem hi) (by omega) (fu:=g) (by omega);exact⟨_,e,gR _ _ |>.trans (List.getElem?_eq_getElem hi),e1,e2,e3⟩
  unfold mA wJ;refine aA (Lb ho) (cS (ak (fun hb=>?_) (fun Ky=>cS ?_)))
  ·have:op=1:=by simpa using hb
   subst this;cases sh with
   |lit a b=>exact au (SV (n:=n) a (by omega)) (fun r hr=>ah (by omega))
   |bin a b=>omega
   |tf a b=>omega
   |con a b=>omega
   |cmp a b=>omega
  have k5:∀b:Bool,b=(decide (op=9)||decide (op=10))→¬(op=6∨op=7)→Wp (vn (mA g) ⟨op,s,n,l⟩ (Uk op,true) b) fun s=>s.size≤40*(3*3^d):=by
   intro b hb hn;refine ak (fun h=>?_) (fun h=>ax (ak (fun _=>ah (by dsimp only;omega)) (fun hz=>?_)))
   ·rw[h]at hb
    have ho2:op=9∨op=10:=by simpa using hb.symm
    have hc1:c=1:=by cases sh <;> omega
    obtain⟨a,e,e1,e2,e3,e4⟩:=at_ 0 (by omega);refine aA e1 (aA e2 (au (CW e3 (by omega) e4) (fun r hr=>aK ?_ (ah ?_))))
    ·dsimp only;omega
    ·simp only[ByteArray.size_append];omega
   ·rw[h]at hb
    have ho2:¬(op=9∨op=10):=by have:=hb.symm;simp at this;omega
    have ZO:c≠0:=by
     intro e;rw[e]at Jh;dsimp only at hz;rw[Jh]at hz;simp at hz
    have hc2:c=2:=by cases sh <;> omega
    obtain⟨a,e,e1,e2,e3,e4⟩:=at_ 0 (by omega);obtain⟨a',e',e1',e2',e3',e4'⟩:=at_ 1 (by omega)
    have k2:∀z,Wp (vq (mA g) ⟨op,s,n,l⟩ (Uk op,true) z) fun s=>s.size≤40*(3*3^d):=by
     intro z;refine aA e1 (aA e2 (au (CW e3 (by omega) e4) (fun r hr=>aK (by dsimp only;omega) (aA e1' (aA e2' (au (CW e3' (by omega) e4') (fun r2 Kv=>aK ?_ (ah ?_))))))))
     ·simp only[ByteArray.size_append];omega
     ·simp only[ByteArray.size_append];omega
    exact cS (ak (fun _=>ax (k2 _)) (fun _=>ax (k2 _)))
  have k4:∀b:Bool,b=(decide (op=6)||decide (op=7))→Wp (vo (mA g) ⟨op,s,n,l⟩ (Uk op,true) b) fun s=>s.size≤40*(3*3^d):=by
   intro b hb;refine ak (fun h=>?_) (fun h=>?_)
   ·rw[h]at hb
    have ho2:op=6∨op=7:=by simpa using hb.symm
    have hc1:c=1:=by cases sh <;> omega
    obtain⟨a,e,e1,e2,e3,e4⟩:=at_ 0 (by omega);refine aK (by dsimp only;omega) (aK (by simp only[ByteArray.size_append,Af,List.length_cons,List.length_nil];omega) (aA e1 (aA e2 (au e4 (fun r hr=>aK ?_ (aK ?_ (ah ?_))))))) <;> simp only[ByteArray.size_append,Af,List.length_cons,List.length_nil] <;> omega
   ·rw[h]at hb
    have hn:¬(op=6∨op=7):=by have:=hb.symm;simp at this;omega
    refine cS (ak (fun h=>ax (k5 _ ?_ hn)) (fun h=>ax (k5 _ ?_ hn)))
    ·have:op=9:=by simpa using h
     subst this;rfl
    ·have:op≠9:=by simpa using h
     simp[this];rfl
  have k3:∀b:Bool,Wp (vp (mA g) ⟨op,s,n,l⟩ (Uk op,true) b) fun s=>s.size≤40*(3*3^d):=by
   intro b;refine ak (fun h=>aK (by dsimp only;omega) (ah (by simp only[ByteArray.size_append];omega))) (fun h=>?_);refine cS (ak (fun h=>ax (k4 _ ?_)) (fun h=>ax (k4 _ ?_)))
   ·have:op=6:=by simpa using h
    subst this;rfl
   ·have:op≠6:=by simpa using h
    simp[this];rfl
  exact ak (fun _=>ax (k3 _)) (fun _=>ax (k3 _))
end Go.Proofs.YtpeihknododmlaaGreatDoor

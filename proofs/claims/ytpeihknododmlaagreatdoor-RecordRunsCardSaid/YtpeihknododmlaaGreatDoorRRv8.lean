/- Part 8 of what the claim leans on. -/
import Derived.Test.YtpeihknododmlaaGreatDoorRRv7
set_option maxRecDepth 100000
set_option linter.unusedVariables false
set_option linter.unusedSimpArgs false
set_option maxHeartbeats 4000000
namespace Go.Proofs.YtpeihknododmlaaGreatDoor
open Go.Proofs.Tryz
theorem Ss.nsz{C:SN}{k:Int}{n h:ByteArray}{t:Bool}{c:Nat}{p q:Bool}(x:Ss C k n h t c p q):n.size≤2∧h.size≤2:=by
 cases x <;> exact⟨by first|exact Nat.zero_le _|exact Nat.le_refl _|exact Nat.le_succ _,by first|exact Nat.zero_le _|exact Nat.le_refl _⟩
theorem vS{a:ByteArray}(h:a.size≤150000):∀x∈[a],x.size≤150000:=by intro x hx;simp at hx;subst hx;exact h
theorem kD{a:ByteArray}{l:List ByteArray}(h:a.size≤150000)(g:∀x∈l,x.size≤150000):∀x∈a::l,x.size≤150000:=by
 intro x hx;rcases List.mem_cons.1 hx with rfl|hx
 ·exact h
 ·exact g x hx
theorem lA(l:List UInt8)(h:l.length≤1000):(ByteArray.mk (List.toArray l)).size≤150000:=by rw[Af];omega
def afg(M:Int)(B:Nat→List DV→Prop)(sf:List DV→aZ→Option aZ):Prop:=∀(a:Nat) (l:List DV) (w:aZ) (X:Nat) (i:Int),B a l→a≤12→qU X i w→0≤i→i≤M→X+10000000*a+10000000≤90000000000→Wp (sf l w) fun r=>qU (X+10000000*a) i r
section
variable {B:Nat→List DV→Prop} {sf:List DV→aZ→Option aZ} {w:aZ} {X:Nat} {i M:Int}
theorem qU.up{Y:Nat}(h:qU X i w)(k:X≤Y):qU Y i w:=⟨h.b,Nat.le_trans h.len k,h.ind⟩
theorem qU.re{Y:Nat}(h:qU X i w)(k:X≤Y):qU Y i ⟨⟨(),w.ew.jS⟩,w.dP⟩:=⟨h.b,Nat.le_trans h.len k,h.ind⟩
theorem qU.inc{Y:Nat}{m:Int}(h:qU X i w)(k:X≤Y)(hm:IntKind.wrap .i64 (i+1)=m):qU Y m ⟨⟨(),w.ew.jS⟩,IntKind.wrap .i64 (w.dP+1)⟩:=⟨h.b,Nat.le_trans h.len k,by dsimp only;rw[h.ind,hm]⟩
theorem qU.dec{Y:Nat}{m:Int}(h:qU X i w)(k:X≤Y)(hm:IntKind.wrap .i64 (i-1)=m):qU Y m ⟨⟨(),w.ew.jS⟩,IntKind.wrap .i64 (w.dP-1)⟩:=⟨h.b,Nat.le_trans h.len k,by dsimp only;rw[h.ind,hm]⟩
theorem Ta(hM:M≤100)(hB:afg M B sf){a:Nat}{l:List DV}{x:ByteArray}(hl:B a l)(ha:a≤12)(h:qU X i w)(hx:x.size≤100000)(i0:0≤i)(i1:i≤M)(hX:X+10000000*a+20000000≤90000000000):Wp (jJ sf x l w) fun r=>qU (X+10000000*a+4000000) i r:=by
 unfold jJ;refine ak (fun _=>aV (Er h i0 (by omega) (by simp) (kD (by omega) (vS (lA _ (by simp)))) (by omega) (fun q hq _=>aI (ah (hq.up (by omega)))))) (fun _=>?_);refine aV (Er h i0 (by omega) (by simp) (kD (by omega) (vS (lA _ (by simp)))) (by omega) (fun q hq _=>?_));refine au (aQ (hB a l q _ i hl ha hq i0 i1 (by omega))) (fun r hr=>?_);exact aV (Er hr i0 (by omega) (by simp) (vS (lA _ (by simp))) (by omega) (fun q hq _=>aI (ah (hq.up (by omega)))))
theorem aba{C:SN}(hC:Fi C)(hM:M≤100)(hB:afg M B sf){k:Int}{n h:ByteArray}{t:Bool}{m a b:Nat}{p q:Bool}{l s z:List DV}(sh:Ss C k n h t m p q)(hl:l.length=m)(he:∀e∈l,WE C Ct 6 t e)(h1:B a s)(h2:B b z)(hab:1+a+b≤12)(hw:qU X i w)(i0:0≤i)(i1:i≤M)(hX:X+10000000*(1+a+b)+10000000≤90000000000) :
  Wp (iV sf ⟨k,n,h,l,s,z⟩ w) fun r=>qU (X+10000000*(1+a+b)) i r:=by
 have m3:=sh.c3;obtain⟨z1,z2⟩:=sh.nsz;unfold iV;refine aK (by unfold iJ;dsimp only;omega) (aV ?_);refine cw (fun j y=>y.length=l.length∧∀x∈y,x.size≤30000) (by unfold m64;dsimp only;omega) ⟨by simp,fun x hx=>by rw[(List.mem_replicate.1 hx).2];exact Nat.zero_le _⟩ ?_ ?_
 ·rintro j y hj ⟨y1,y2⟩
  dsimp only at hj;refine bJ hj (fun e e1 e2=>?_);obtain⟨e',e3,_,e4⟩:=aaZ hC (he e e2) (by omega) (fu:=64) (by omega);refine aA e3 (au e4 (fun r hr=>bJ (by omega) (fun _ _ _=>aV (ax (ah ⟨by rw[List.length_set];exact y1,fun x hx=>?_⟩)))));rcases mem_set hx with hx|rfl
  ·exact y2 x hx
  ·exact Nat.le_trans hr (by decide)
 rintro y ⟨y1,y2⟩
 have ix:∀j:Nat,j<m→∃v,idx y (j:Int)=some v∧v.size≤30000:=fun j hj=>by
  obtain⟨v,v1,_,v2⟩:=abR (xs:=y) (j:=j) (by omega);exact⟨v,v1,y2 v v2⟩
 have hk:∀v:Int,(k==v)=true→k=v:=fun v h=>by simpa using h
 refine ak (fun hb=>?_) (fun _=>?_)
 ·have:=hk 1 hb;subst this
  obtain⟨v,v1,v2⟩:=ix 0 (by cases sh <;> omega);exact aA v1 (aV (Er hw i0 (by omega) (by simp) (kD (by dsimp only;omega) (kD (lA _ (by simp)) (kD (by omega) (vS (lA _ (by simp)))))) (by omega) (fun q hq _=>aI (ah (hq.up (by omega))))))
 refine ak (fun hb=>?_) (fun _=>?_)
 ·have:=hk 2 hb;subst this
  obtain⟨v,v1,v2⟩:=ix 0 (by cases sh;omega);obtain⟨u,u1,u2⟩:=ix 1 (by cases sh;omega);exact aA v1 (aA u1 (aV (Er hw i0 (by omega) (by simp) (kD (by dsimp only;omega) (kD (lA _ (by simp)) (kD (by omega) (kD (lA _ (by simp)) (kD (by omega) (vS (lA _ (by simp)))))))) (by omega) (fun q hq _=>aI (ah (hq.up (by omega)))))))
 refine ak (fun hb=>?_) (fun _=>?_)
 ·have:=hk 3 hb;subst this
  obtain⟨v,v1,v2⟩:=ix 0 (by cases sh;omega);exact aA v1 (aV (Er hw i0 (by omega) (by simp) (kD (lA _ (by simp)) (kD (by dsimp only;omega) (kD (lA _ (by simp)) (kD (by omega) (vS (lA _ (by simp))))))) (by omega) (fun q hq _=>aI (ah (hq.up (by omega))))))
 refine ak (fun hb=>?_) (fun _=>?_)
 ·have:=hk 4 hb;subst this
  obtain⟨v,v1,v2⟩:=ix 0 (by cases sh;omega);refine aA v1 (aV (Er hw i0 (by omega) (by simp) (kD (lA _ (by simp)) (kD (by omega) (vS (lA _ (by simp))))) (by omega) (fun q hq _=>?_)));refine au (aQ (hB a s q _ i h1 (by omega) hq i0 i1 (by omega))) (fun r hr=>?_);refine cS (ak (fun _=>?_) (fun _=>?_))
  ·refine aV (Er hr i0 (by omega) (by simp) (vS (lA _ (by simp))) (by omega) (fun q hq _=>?_))
   refine au (aQ (hB b z q _ i h2 (by omega) hq i0 i1 (by omega))) (fun r hr=>?_);exact ax (aV (Er (s:=⟨⟨(),r.ew.jS⟩,r.dP⟩) ⟨hr.b,hr.len,hr.ind⟩ i0 (by omega) (by simp) (vS (lA _ (by simp))) (by omega) (fun q hq _=>aI (ah (hq.up (by omega))))))
  ·exact ax (aV (Er (s:=⟨⟨(),r.ew.jS⟩,r.dP⟩) ⟨hr.b,hr.len,hr.ind⟩ i0 (by omega) (by simp) (vS (lA _ (by simp))) (by omega) (fun q hq _=>aI (ah (hq.up (by omega))))))
 refine ak (fun hb=>?_) (fun _=>?_)
 ·have:=hk 5 hb;subst this
  obtain⟨v,v1,v2⟩:=ix 0 (by cases sh;omega);refine aA v1 (aV (Er hw i0 (by omega) (by simp) (kD (lA _ (by simp)) (kD (by omega) (vS (lA _ (by simp))))) (by omega) (fun q hq _=>?_)));refine au (aQ (hB a s q _ i h1 (by omega) hq i0 i1 (by omega))) (fun r hr=>?_);exact aV (Er hr i0 (by omega) (by simp) (vS (lA _ (by simp))) (by omega) (fun q hq _=>aI (ah (hq.up (by omega)))))
 refine ak (fun hb=>?_) (fun _=>?_)
 ·refine cR (au (LF (by omega) (by simp only[Af,List.length_cons,List.length_nil];omega) y2) (fun v hv=>?_))
  exact aV (Er hw i0 (by omega) (by simp) (kD (lA _ (by simp)) (kD (by dsimp only;omega) (kD (lA _ (by simp)) (kD (by dsimp only;omega) (kD (lA _ (by simp)) (kD (by omega) (vS (lA _ (by simp))))))))) (by omega) (fun q hq _=>aI (ah (hq.up (by omega)))))
 refine ak (fun hb=>?_) (fun _=>?_)
 ·have:=hk 7 hb;subst this
  have hm:1≤m:=by cases sh;omega
  obtain⟨v,v1,v2⟩:=ix 0 (by omega);refine cR (aA v1 (aK (by unfold eN;omega) (au (LF (by rw[List.length_drop];omega) (by simp only[Af,List.length_cons,List.length_nil];omega) (fun x hx=>y2 x (List.mem_of_mem_drop hx))) (fun u hu=>?_))));exact aV (Er hw i0 (by omega) (by simp) (kD (lA _ (by simp)) (kD (by omega) (kD (lA _ (by simp)) (kD (by dsimp only;omega) (kD (lA _ (by simp)) (kD (by omega) (vS (lA _ (by simp))))))))) (by omega) (fun q hq _=>aI (ah (hq.up (by omega)))))
 refine ak (fun hb=>?_) (fun _=>?_)
 ·have:=hk 8 hb;subst this
  obtain⟨v,v1,v2⟩:=ix 0 (by cases sh;omega);obtain⟨u,u1,u2⟩:=ix 1 (by cases sh;omega);refine aA v1 (aK (by simp only[ByteArray.size_append,Af,List.length_cons,List.length_nil];omega) (aK (by simp only[ByteArray.size_append,Af,List.length_cons,List.length_nil];omega) (aA u1 (aK (by simp only[ByteArray.size_append,Af,List.length_cons,List.length_nil];omega) (au (aQ (Ta hM hB h2 (by omega) hw (by simp only[ByteArray.size_append,Af,List.length_cons,List.length_nil];omega) i0 i1 (by omega))) (fun q hq=>aI (ah (hq.up (by omega)))))))))
 refine ak (fun hb=>?_) (fun _=>?_)
 ·have:=hk 9 hb;subst this
  obtain⟨v,v1,v2⟩:=ix 0 (by cases sh;omega);refine aK (by simp only[ByteArray.size_append,Af,List.length_cons,List.length_nil];omega) (aK (by simp only[ByteArray.size_append,Af,List.length_cons,List.length_nil];omega) (aA v1 (aK (by simp only[ByteArray.size_append,Af,List.length_cons,List.length_nil];omega) (au (aQ (Ta hM hB h2 (by omega) hw (by simp only[ByteArray.size_append,Af,List.length_cons,List.length_nil];omega) i0 i1 (by omega))) (fun q hq=>aI (ah (hq.up (by omega))))))))
 refine ak (fun hb=>?_) (fun _=>aI (ah (hw.up (by omega))));exact aV (Er hw i0 (by omega) (by simp) (vS (lA _ (by simp))) (by omega) (fun q hq _=>aI (ah (hq.up (by omega)))))
end
theorem ack{C:SN}(hC:Fi C):∀(d fu:Nat),d<fu→d≤5→afg (50-d) (WB C Ct Rc d) (iW fu):=by
 intro d
 induction d with
 |zero=>
  rintro fu hf _ n l w X i ⟨rfl,rfl⟩ _ hw h0 hi hX;obtain⟨g,rfl⟩:∃g,fu=g+1:=⟨fu-1,by omega⟩;unfold iW kK;have hwi:=hw.ind;refine cw (fun _ s=>qU X (i+1) ⟨⟨(),s.1⟩,s.2⟩) (by unfold m64;simp) ⟨hw.b,hw.len,by dsimp only;rw[hwi,wrap_i64 (by omega) (by omega)]⟩ (fun j _ hj _=>by simp at hj;omega) (fun s h=>aI (ah ⟨h.b,h.len,?_⟩));have:=h.ind;dsimp only at this ⊢;rw[this,wrap_i64 (by omega) (by omega)];omega
 |succ d ih=>
  intro fu hf hd n l w X i h hn hw h0 hi hX;obtain⟨g,rfl⟩:∃g,fu=g+1:=⟨fu-1,by omega⟩;have hl:=h.len;have hwi:=hw.ind;obtain⟨m,m0,m1,m2,m3⟩:=KL h (fun _ _=>WF.pos);unfold iW kK;refine cw (fun j s=>qU (X+10000000*m j) (i+1) ⟨⟨(),s.1⟩,s.2⟩) (by unfold m64;omega) ⟨hw.b,by have:=hw.len;dsimp only;omega,by dsimp only;rw[hwi,wrap_i64 (by omega) (by omega)]⟩ ?_ (fun s h=>aI (ah ?_))
  ·intro j s hj hI
   refine bJ hj (fun x x1 x2=>?_);obtain⟨a,ha,hx⟩:=m3 j x x1;have b1:=m2 j (by omega);have b2:=m2 (j+1) (by omega);obtain⟨sh,Pu,he,ht,hz,hp1,hq1⟩:=hx;refine aA (zl _) ?_;refine au (aQ (aba hC (M:=50-(d:Int)) (by omega) (ih g (by omega) (by omega)) sh Pu he ht hz (by omega) hI (by omega) (by omega) (by omega))) (fun r hr=>ax (ah ⟨hr.b,by have:=hr.len;dsimp only;omega,hr.ind⟩))
  ·rw[Int.toNat_natCast,m1]at h
   refine⟨h.b,h.len,?_⟩;have:=h.ind;dsimp only at this ⊢;rw[this,wrap_i64 (by omega) (by omega)];omega
theorem GM{I T F own:Nat}{gP:List (List Int)}{r:List Int}(cx:Cx5 I T F gP){u:bQ}(hl:u.bP.length≤3)(hh:∀(k:Nat) (y:br),u.bP[k]? = some y→Ja I T F gP own r k y){w:aZ}{X:Nat}{i:Int}(hw:qU X i w)(i0:0≤i)(i1:i≤20)(hX:X+1000000000≤50000000000) :
  Wp (ir u w) fun q=>qU (X+1000000000) i q:=by
 unfold ir;refine cw (fun j s=>qU (X+200000000*j) i ⟨⟨(),s.1⟩,s.2⟩) (by unfold m64;omega) (hw.re (by omega)) ?_ (fun s h=>aI (ah ?_))
 ·intro j s hj hI
  refine bJ hj (fun y y1 y2=>?_);obtain⟨p,p2,rp,k3,DL,Gd,a,a12,hb⟩:=hh j y y1;have Wn:y.dM.length=p:=by rw[Gd];simp
  have z2:y.bn.size=2:=by rw[DL];rfl
  refine au (LF (by omega) (by simp only[Af,List.length_cons,List.length_nil];omega) (fun x hx=>?_)) (fun v hv=>?_)
  ·rw[Gd]at hx
   obtain⟨k,_,rfl⟩:=List.mem_map.1 hx;rw[DM];omega
  refine aV (Er hI i0 (by omega) (by simp) (kD (lA _ (by simp)) (kD (by omega) (kD (lA _ (by simp)) (kD (by omega) (vS (lA _ (by simp))))))) (by omega) (fun q hq _=>?_));refine au (aQ (ack (cx.sn p2) 4 64 (by omega) (by omega) a y.xc q _ i hb a12 hq i0 (by omega) (by omega))) (fun q hq=>?_);exact aV (Er hq i0 (by omega) (by simp) (vS (lA _ (by simp))) (by omega) (fun q hq _=>ax (ah (hq.re (by omega)))))
 ·rw[Int.toNat_natCast]at h
  exact h.up (by omega)
theorem aca{gP:List (List Int)}{f:bj}(hf:Dk gP f){x:aM}(hx:x∈f.aF){w:aZ}{X:Nat}(hw:qU X 1 w)(hX:X+5000000000≤50000000000):Wp (jy x w) fun q=>qU (X+4000000000) 1 q:=by
 obtain⟨i,I,T,r,c1,cx,g,r3⟩:=hf.each hx;have v2:=g.v2;have vl:=g.Qu;have i3:=g.i3;have t1:=g.t1;have z1:x.bn.size=1:=by rw[g.name];rfl
 have n3:=hf.n3;have hi:=(List.getElem?_eq_some_iff.1 c1).1;unfold jy;refine aV (Er hw (by omega) (by omega) (by simp) (kD (lA _ (by simp)) (kD (by omega) (vS (lA _ (by simp))))) (by omega) (fun q hq _=>?_));refine cw (fun j s=>qU (X+2000000+3000000*j) 2 ⟨⟨(),s.1⟩,s.2⟩) (by unfold m64;omega) (hq.inc (by omega) (by decide)) ?_ ?_
 ·intro j s hj hI
  refine bJ hj (fun v v1' v2'=>?_);have up:∀{q:aZ},qU (X+2000000+3000000*j+2000000) 2 q→qU (X+2000000+3000000*(j+1)) 2 ⟨⟨(),q.ew.jS⟩,q.dP⟩:=fun h=>h.re (by omega)
  rw[g.vars]at v2';rcases zC v2' with⟨k,hk,rfl⟩ | rfl|⟨k,hk,rfl⟩
  ·refine ak (fun _=>au (SV (n:=(k:Int)) (by omega) (by omega)) (fun v hv=>aV (Er hI (by omega) (by omega) (by simp) (kD (lA _ (by simp)) (kD (by dsimp only;rw[DM];omega) (kD (lA _ (by simp)) (kD (by omega) (vS (lA _ (by simp))))))) (by omega) (fun q hq _=>ax (ah (up hq)))))) (fun h=>by cases h)
  ·refine ak (fun h=>by cases h) (fun _=>ak (fun _=>au (OK _) (fun v hv=>aV (Er hI (by omega) (by omega) (by simp) (kD (lA _ (by simp)) (kD (by dsimp only;rw[DM];omega) (kD (lA _ (by simp)) (kD (by omega) (vS (lA _ (by simp))))))) (by omega) (fun q hq _=>ax (ah (up hq)))))) (fun h=>by cases h))
  ·refine ak (fun h=>by cases h) (fun _=>ak (fun h=>by cases h) (fun _=>ak (fun _=>aV (Er hI (by omega) (by omega) (by simp) (kD (lA _ (by simp)) (kD (by dsimp only;rw[DM];omega) (vS (lA _ (by simp))))) (by omega) (fun q hq _=>ax (ah (up hq))))) (fun h=>by cases h)))
 intro s hs;rw[Int.toNat_natCast]at hs;refine cw (fun j s=>qU (X+20000000+1500000000*j) 2 ⟨⟨(),s.1⟩,s.2⟩) (by unfold m64;omega) (hs.re (by omega)) ?_ ?_
 ·intro j s hj hI
  refine bJ hj (fun u u1 u2=>?_);have hul:=(g.h1 u u2).2;refine ak (fun _=>?_) (fun _=>?_)
  ·exact au (aQ (GM cx (by omega) (g.hs u u2) hI (by omega) (by omega) (by omega))) (fun q hq=>ax (ah (hq.re (by omega))))
  ·refine au (Cd (by omega) (by omega)) (fun v hv=>?_)
   refine aV (Er hI (by omega) (by omega) (by simp) (kD (lA _ (by simp)) (kD (by omega) (vS (lA _ (by simp))))) (by omega) (fun q hq _=>?_));refine au (aQ (GM (i:=3) cx (by omega) (g.hs u u2) (hq.inc (Nat.le_refl _) (by decide)) (by omega) (by omega) (by omega))) (fun q hq=>?_);exact aV (Er (i:=2) (hq.dec (Nat.le_refl _) (by decide)) (by omega) (by omega) (by simp) (vS (lA _ (by simp))) (by omega) (fun q hq _=>ax (ah (hq.re (by omega)))))
 ·intro s hs
  rw[Int.toNat_natCast]at hs;exact aV (Er (i:=1) (B:=X+3100000000) (hs.dec (by omega) (by decide)) (by omega) (by omega) (by simp) (vS (lA _ (by simp))) (by omega) (fun q hq _=>aI (ah (hq.up (by omega)))))
theorem Zu{gP:List (List Int)}{f:bj}(hf:Dk gP f):Wp (tK f) fun s=>s.size≤60000000000:=by
 have n3:=hf.n3;have f2:=hf.f2;have l9:=hf.JG;unfold tK;refine aA (HO hf) (ak (fun h=>by cases h) (fun _=>cR (aV ?_)));have h0:qU 0 0 (aZ.mk (dG.mk () ([]:List Int)) 0):=⟨rfl,Nat.le_refl _,rfl⟩;refine Er h0 (by omega) (by omega) (by simp) (kD (lA _ (by simp)) (kD (by rw[hf.name];exact lA _ (by simp)) (vS (lA _ (by simp))))) (by omega) (fun q hq _=>?_);refine cw (fun j s=>qU (2000000+2000000*j) 1 ⟨⟨(),s.1⟩,s.2⟩) (by unfold m64;omega) (hq.inc (by omega) (by decide)) ?_ ?_
 ·intro j s hj hI
  refine bJ hj (fun x x1 x2=>?_);have z:x.bn.size=2:=by rw[hf.fn j x x1];rfl
  exact au (OK _) (fun v hv=>aV (Er hI (by omega) (by omega) (by simp) (kD (lA _ (by simp)) (kD (by omega) (kD (lA _ (by simp)) (kD (by omega) (vS (lA _ (by simp))))))) (by omega) (fun q hq _=>ax (ah (hq.re (by omega))))))
 intro s hs;rw[Int.toNat_natCast]at hs;refine cw (fun j s=>qU (20000000+2000000*j) 1 ⟨⟨(),s.1⟩,s.2⟩) (by unfold m64;omega) (hs.re (by omega)) ?_ ?_
 ·intro j s hj hI
  refine bJ hj (fun x x1 x2=>?_);obtain⟨a,b,ha,hb,hfr,VL,g1,g2⟩:=l9.2 x x2;have z1:x.gS.size=1:=by rw[hfr];rfl
  have z2:x.uS.size=1:=by rw[VL];rfl
  exact au (Cd (by omega) (by omega)) (fun v hv=>aV (Er hI (by omega) (by omega) (by simp) (kD (lA _ (by simp)) (kD (by omega) (kD (lA _ (by simp)) (kD (by omega) (kD (lA _ (by simp)) (kD (by omega) (vS (lA _ (by simp))))))))) (by omega) (fun q hq _=>ax (ah (hq.re (by omega))))))
 intro s hs;rw[Int.toNat_natCast]at hs;refine cw (fun j s=>qU (100000000+4000000000*j) 1 ⟨⟨(),s.1⟩,s.2⟩) (by unfold m64;omega) (hs.re (by omega)) ?_ ?_
 ·intro j s hj hI
  refine bJ hj (fun x x1 x2=>?_);exact au (aQ (aca hf x2 hI (by omega))) (fun q hq=>ax (ah (hq.re (by omega))))
 intro s hs;rw[Int.toNat_natCast]at hs;refine aV (Er (i:=0) (B:=13000000000) (hs.dec (by omega) (by decide)) (by omega) (by omega) (by simp) (vS (lA _ (by simp))) (by omega) (fun q hq pQ=>?_));unfold mo;refine od (aQ (aK (List.length_pos_iff.2 pQ) (aK hq.b (aI (ah (ah ?_))))));have:=hq.len;unfold strOfNums;show(List.toArray _).size≤_;simp;omega
open Go.RowKit
attribute [local irreducible] ik du bx iM oE dL eN iJ
def HB.cs(x:Nat→Int):List DV:=[.int .u32 (x 0),.int .u32 (x 1),.int .u32 (x 2),.int .u32 (x 3),.int .u32 (x 4),.int .u32 (x 5),.int .u32 (x 6),.int .u32 (x 7)]
structure eJ where
 jN:Nat→Int
 dC:Nat→Int
 jd:Int
def Aa(x:eJ):List DV:=[.int .u32 (x.jN 0),.int .u32 (x.jN 1),.int .u32 (x.jN 2),.int .u32 (x.jN 3),.int .u32 (x.jN 4),.int .u32 (x.jN 5),.int .u32 (x.jN 6),.int .u32 (x.jN 7),.int .u8 (x.dC 0),.int .u8 (x.dC 1),.int .u8 (x.dC 2),.int .u8 (x.dC 3),.int .u8 (x.dC 4),.int .u8 (x.dC 5),.int .u8 (x.dC 6),.int .u8 (x.dC 7),.int .u8 (x.dC 8),.int .u8 (x.dC 9),.int .u8 (x.dC 10),.int .u8 (x.dC 11),.int .u8 (x.dC 12),.int .u8 (x.dC 13),.int .u8 (x.dC 14),.int .u8 (x.dC 15),.int .u8 (x.dC 16),.int .u8 (x.dC 17),.int .u8 (x.dC 18),.int .u8 (x.dC 19),.int .u8 (x.dC 20),.int .u8 (x.dC 21),.int .u8 (x.dC 22),.int .u8 (x.dC 23),.int .u8 (x.dC 24),.int .u8 (x.dC 25),.int .u8 (x.dC 26),.int .u8 (x.dC 27),.int .u8 (x.dC 28),.int .u8 (x.dC 29),.int .u8 (x.dC 30),.int .u8 (x.dC 31),.int .u8 (x.dC 32),.int .u8 (x.dC 33),.int .u8 (x.dC 34),.int .u8 (x.dC 35),.int .u8 (x.dC 36),.int .u8 (x.dC 37),.int .u8 (x.dC 38),.int .u8 (x.dC 39),.int .u8 (x.dC 40),.int .u8 (x.dC 41),.int .u8 (x.dC 42),.int .u8 (x.dC 43),.int .u8 (x.dC 44),.int .u8 (x.dC 45),.int .u8 (x.dC 46),.int .u8 (x.dC 47),.int .u8 (x.dC 48),.int .u8 (x.dC 49),.int .u8 (x.dC 50),.int .u8 (x.dC 51),.int .u8 (x.dC 52),.int .u8 (x.dC 53),.int .u8 (x.dC 54),.int .u8 (x.dC 55),.int .u8 (x.dC 56),.int .u8 (x.dC 57),.int .u8 (x.dC 58),.int .u8 (x.dC 59),.int .u8 (x.dC 60),.int .u8 (x.dC 61),.int .u8 (x.dC 62),.int .u8 (x.dC 63),.int .u64 x.jd]
def Wu(x:Nat→Int):List DV:=[.int .u32 (x 0),.int .u32 (x 1),.int .u32 (x 2),.int .u32 (x 3),.int .u32 (x 4),.int .u32 (x 5),.int .u32 (x 6),.int .u32 (x 7),.int .u32 (x 8),.int .u32 (x 9),.int .u32 (x 10),.int .u32 (x 11),.int .u32 (x 12),.int .u32 (x 13),.int .u32 (x 14),.int .u32 (x 15),.int .u32 (x 16),.int .u32 (x 17),.int .u32 (x 18),.int .u32 (x 19),.int .u32 (x 20),.int .u32 (x 21),.int .u32 (x 22),.int .u32 (x 23),.int .u32 (x 24),.int .u32 (x 25),.int .u32 (x 26),.int .u32 (x 27),.int .u32 (x 28),.int .u32 (x 29),.int .u32 (x 30),.int .u32 (x 31),.int .u32 (x 32),.int .u32 (x 33),.int .u32 (x 34),.int .u32 (x 35),.int .u32 (x 36),.int .u32 (x 37),.int .u32 (x 38),.int .u32 (x 39),.int .u32 (x 40),.int .u32 (x 41),.int .u32 (x 42),.int .u32 (x 43),.int .u32 (x 44),.int .u32 (x 45),.int .u32 (x 46),.int .u32 (x 47),.int .u32 (x 48),.int .u32 (x 49),.int .u32 (x 50),.int .u32 (x 51),.int .u32 (x 52),.int .u32 (x 53),.int .u32 (x 54),.int .u32 (x 55),.int .u32 (x 56),.int .u32 (x 57),.int .u32 (x 58),.int .u32 (x 59),.int .u32 (x 60),.int .u32 (x 61),.int .u32 (x 62),.int .u32 (x 63)]
def tb0:List Int:=[1116352408,1899447441,3049323471,3921009573,961987163,1508970993,2453635748,2870763221,3624381080,310598401,607225278,1426881987,1925078388,2162078206,2614888103,3248222580,3835390401,4022224774,264347078,604807628,770255983,1249150122,1555081692,1996064986,2554220882,2821834349,2952996808,3210313671,3336571891,3584528711,113926993,338241895,666307205,773529912,1294757372,1396182291,1695183700,1986661051,2177026350,2456956037,2730485921,2820302411,3259730800,3345764771,3516065817,3600352804,4094571909,275423344,430227734,506948616,659060556,883997877,958139571,1322822218,1537002063,1747873779,1955562222,2024104815,2227730452,2361852424,2428436474,2756734187,3204031479,3329325298]
instance:Tb 0 1 (DV.int .u32) tb0:=⟨by kernel_rfl,by kernel_rfl⟩
noncomputable def Av:Option eJ :=
 rX [(50000,3)] (some (eJ.mk (arr 0 [1779033703,3144134277,1013904242,2773480762,1359893119,2600822924,528734635,1541459225]) (arr 0 [0,0,0,0,0,0,0,0,0,0,0,0,0,0,0,0,0,0,0,0,0,0,0,0,0,0,0,0,0,0,0,0,0,0,0,0,0,0,0,0,0,0,0,0,0,0,0,0,0,0,0,0,0,0,0,0,0,0,0,0,0,0,0,0]) 0))
instance:MA (Av) prog 134 (fun _=>1) fun r=>⟨[],[],.ref 50000 0,[(50000,some (.bC 398 (Aa r)))],[50000]⟩:=⟨fun hM=>by unfold Av at hM;exact ab func134 ntmps134⟩
noncomputable def om(x0:Int)(x1:Int):Option Int :=
 Ck ((0:Int)≤(jH .and .u64 (IntKind.wrap .u64 x1) 31))<|
 Ck ((0:Int)≤(IntKind.wrap .u64 (32-(jH .and .u64 (IntKind.wrap .u64 x1) 31))))<|
 some (jH .or .u32 (IntKind.wrap .u32 (x0*2^min (Int.toNat (jH .and .u64 (IntKind.wrap .u64 x1) 31)) (IntKind.bits .u32))) (Int.fdiv x0 (2^min (Int.toNat (IntKind.wrap .u64 (32-(jH .and .u64 (IntKind.wrap .u64 x1) 31)))) (IntKind.bits .u32))))
instance IK{x0 x1}:MC (om x0 x1) fun r=>bx prog 325 [.int .u32 x0,.I x1] (.int .u32 r):=⟨fun hM=>by unfold om at hM;exact pb func325 ntmps325⟩
noncomputable def jG(x0:Int)(x1:Int):Option Int :=
 Bi (om x0 (IntKind.wrap .i64 (0-x1))) fun v2=>
 some v2
instance aay{x0 x1}:MC (jG x0 x1) fun r=>bx prog 260 [.int .u32 x0,.I x1] (.int .u32 r):=⟨fun hM=>by unfold jG at hM;exact pb func260 ntmps260⟩
noncomputable def qa(o0:eJ):Option eJ :=
 fL (arr 0 [0,0,0,0,0,0,0,0,0,0,0,0,0,0,0,0,0,0,0,0,0,0,0,0,0,0,0,0,0,0,0,0,0,0,0,0,0,0,0,0,0,0,0,0,0,0,0,0,0,0,0,0,0,0,0,0,0,0,0,0,0,0,0,0]) 22 [100000] [0,2] [100000] i2 (fun s t=>(2,some (.bC 450 (Wu s)))::t) [] [] m64 16 (fun k1 s3=>
  Ck (eN 64 (IntKind.wrap .i64 (4*(k1:Int))) (IntKind.wrap .i64 ((IntKind.wrap .i64 (4*(k1:Int)))+4)))<|
  Ck ((IntKind.wrap .i64 (4*(k1:Int)))<64)<|
  Ck ((0:Int)≤0∧0<((IntKind.wrap .i64 ((IntKind.wrap .i64 (4*(k1:Int)))+4))-(IntKind.wrap .i64 (4*(k1:Int)))))<|
  Ck (Wf 64 (IntKind.wrap .i64 (4*(k1:Int))) 0)<|
  ea 36 (fun x=>[(DV.int .u8) x]) o0.dC<|
  Ck ((0:Int)≤1∧1<((IntKind.wrap .i64 ((IntKind.wrap .i64 (4*(k1:Int)))+4))-(IntKind.wrap .i64 (4*(k1:Int)))))<|
  Ck (Wf 64 (IntKind.wrap .i64 (4*(k1:Int))) 1)<|
  ea 41 (fun x=>[(DV.int .u8) x]) o0.dC<|
  Ck ((0:Int)≤2∧2<((IntKind.wrap .i64 ((IntKind.wrap .i64 (4*(k1:Int)))+4))-(IntKind.wrap .i64 (4*(k1:Int)))))<|
  Ck (Wf 64 (IntKind.wrap .i64 (4*(k1:Int))) 2)<|
  ea 47 (fun x=>[(DV.int .u8) x]) o0.dC<|
  Ck ((0:Int)≤3∧3<((IntKind.wrap .i64 ((IntKind.wrap .i64 (4*(k1:Int)))+4))-(IntKind.wrap .i64 (4*(k1:Int)))))<|
  Ck (Wf 64 (IntKind.wrap .i64 (4*(k1:Int))) 3)<|
  ea 53 (fun x=>[(DV.int .u8) x]) o0.dC<|
  Ck (qv 64 (k1:Int))<|
  ea 57 (fun x=>[(DV.int .u32) x]) s3<|
  eb 57 (jH .or .u32 (jH .or .u32 (jH .or .u32 (IntKind.wrap .u32 ((IntKind.wrap .u32 (o0.dC (Int.toNat ((IntKind.wrap .i64 (4*(k1:Int)))+0))))*2^min (Int.toNat 24) (IntKind.bits .u32))) (IntKind.wrap .u32 ((IntKind.wrap .u32 (o0.dC (Int.toNat ((IntKind.wrap .i64 (4*(k1:Int)))+1))))*2^min (Int.toNat 16) (IntKind.bits .u32)))) (IntKind.wrap .u32 ((IntKind.wrap .u32 (o0.dC (Int.toNat ((IntKind.wrap .i64 (4*(k1:Int)))+2))))*2^min (Int.toNat 8) (IntKind.bits .u32)))) (IntKind.wrap .u32 (o0.dC (Int.toNat ((IntKind.wrap .i64 (4*(k1:Int)))+3)))))<|
  nX [] [] (some (xJ s3 (Int.toNat (k1:Int)) (jH .or .u32 (jH .or .u32 (jH .or .u32 (IntKind.wrap .u32 ((IntKind.wrap .u32 (o0.dC (Int.toNat ((IntKind.wrap .i64 (4*(k1:Int)))+0))))*2^min (Int.toNat 24) (IntKind.bits .u32))) (IntKind.wrap .u32 ((IntKind.wrap .u32 (o0.dC (Int.toNat ((IntKind.wrap .i64 (4*(k1:Int)))+1))))*2^min (Int.toNat 16) (IntKind.bits .u32)))) (IntKind.wrap .u32 ((IntKind.wrap .u32 (o0.dC (Int.toNat ((IntKind.wrap .i64 (4*(k1:Int)))+2))))*2^min (Int.toNat 8) (IntKind.bits .u32)))) (IntKind.wrap .u32 (o0.dC (Int.toNat ((IntKind.wrap .i64 (4*(k1:Int)))+3)))))))) fun s3=>
 wL (E:=(Nat→Int)) (16,s3) [100000] [0,2] [100000] (fun s t=>(5,.I s.1)::t) (fun s t=>(2,some (.bC 450 (Wu s.2)))::t) [] [] (fun s6=>
  If (decide (s6.1<64)) (
   Ck (qv 64 (IntKind.wrap .i64 (s6.1-15)))<|
   ea 65 (fun x=>[(DV.int .u32) x]) s6.2<|
   Ck (qv 64 (IntKind.wrap .i64 (s6.1-2)))<|
   ea 69 (fun x=>[(DV.int .u32) x]) s6.2<|
   Bi (jG (s6.2 (Int.toNat (IntKind.wrap .i64 (s6.1-15)))) 7) fun v10=>
   Bi (jG (s6.2 (Int.toNat (IntKind.wrap .i64 (s6.1-15)))) 18) fun v12=>
   Bi (jG (s6.2 (Int.toNat (IntKind.wrap .i64 (s6.1-2)))) 17) fun qm=>
   Bi (jG (s6.2 (Int.toNat (IntKind.wrap .i64 (s6.1-2)))) 19) fun pF=>
   Ck (qv 64 (IntKind.wrap .i64 (s6.1-16)))<|
   ea 90 (fun x=>[(DV.int .u32) x]) s6.2<|
   Ck (qv 64 (IntKind.wrap .i64 (s6.1-7)))<|
   ea 96 (fun x=>[(DV.int .u32) x]) s6.2<|
   Ck (qv 64 s6.1)<|
   ea 101 (fun x=>[(DV.int .u32) x]) s6.2<|
   eb 101 (IntKind.wrap .u32 ((IntKind.wrap .u32 ((IntKind.wrap .u32 ((s6.2 (Int.toNat (IntKind.wrap .i64 (s6.1-16))))+(jH .xor .u32 (jH .xor .u32 v10 v12) (Int.fdiv (s6.2 (Int.toNat (IntKind.wrap .i64 (s6.1-15)))) (2^min (Int.toNat 3) (IntKind.bits .u32))))))+(s6.2 (Int.toNat (IntKind.wrap .i64 (s6.1-7))))))+(jH .xor .u32 (jH .xor .u32 qm pF) (Int.fdiv (s6.2 (Int.toNat (IntKind.wrap .i64 (s6.1-2)))) (2^min (Int.toNat 10) (IntKind.bits .u32))))))<|
   nX [] [] (some (.next ((IntKind.wrap .i64 (s6.1+1)),(xJ s6.2 (Int.toNat s6.1) (IntKind.wrap .u32 ((IntKind.wrap .u32 ((IntKind.wrap .u32 ((s6.2 (Int.toNat (IntKind.wrap .i64 (s6.1-16))))+(jH .xor .u32 (jH .xor .u32 v10 v12) (Int.fdiv (s6.2 (Int.toNat (IntKind.wrap .i64 (s6.1-15)))) (2^min (Int.toNat 3) (IntKind.bits .u32))))))+(s6.2 (Int.toNat (IntKind.wrap .i64 (s6.1-7))))))+(jH .xor .u32 (jH .xor .u32 qm pF) (Int.fdiv (s6.2 (Int.toNat (IntKind.wrap .i64 (s6.1-2)))) (2^min (Int.toNat 10) (IntKind.bits .u32)))))))))))<|
  some (.done s6.2)) fun e44=>
 fL o0.jN 106 [100000] [0,2,10] [2,100000] i2 (fun s t=>(10,some (.bC 395 (HB.cs s)))::t) [] [] m64 64 (fun k20 Cz=>
  Bi (jG (Cz 4) 6) fun v30=>
  Bi (jG (Cz 4) 11) fun Bh=>
  Bi (jG (Cz 4) 25) fun Kw=>
  Bi (idx tb0 (k20:Int)) fun Mv=>
  Ck (qv 64 (k20:Int))<|
  ea 146 (fun x=>[(DV.int .u32) x]) e44<|
  Bi (jG (Cz 0) 2) fun Fl=>
  Bi (jG (Cz 0) 13) fun FH=>
  Bi (jG (Cz 0) 22) fun TG=>
  nX [] [] (some (arr 0 [(IntKind.wrap .u32 ((IntKind.wrap .u32 ((IntKind.wrap .u32 ((IntKind.wrap .u32 ((IntKind.wrap .u32 ((Cz 7)+(jH .xor .u32 (jH .xor .u32 v30 Bh) Kw)))+(jH .xor .u32 (jH .and .u32 (Cz 4) (Cz 5)) (jH .and .u32 (jH .xor .u32 (if IntKind.signed .u32=true then -1 else IntKind.max .u32) (Cz 4)) (Cz 6)))))+Mv))+(e44 (Int.toNat (k20:Int)))))+(IntKind.wrap .u32 ((jH .xor .u32 (jH .xor .u32 Fl FH) TG)+(jH .xor .u32 (jH .xor .u32 (jH .and .u32 (Cz 0) (Cz 1)) (jH .and .u32 (Cz 0) (Cz 2))) (jH .and .u32 (Cz 1) (Cz 2))))))),(Cz 0),(Cz 1),(Cz 2),(IntKind.wrap .u32 ((Cz 3)+(IntKind.wrap .u32 ((IntKind.wrap .u32 ((IntKind.wrap .u32 ((IntKind.wrap .u32 ((Cz 7)+(jH .xor .u32 (jH .xor .u32 v30 Bh) Kw)))+(jH .xor .u32 (jH .and .u32 (Cz 4) (Cz 5)) (jH .and .u32 (jH .xor .u32 (if IntKind.signed .u32=true then -1 else IntKind.max .u32) (Cz 4)) (Cz 6)))))+Mv))+(e44 (Int.toNat (k20:Int))))))),(Cz 4),(Cz 5),(Cz 6)]))) fun Cz=>
 fL o0 185 [100000] [0,184] [] i2 (fun s t=>(100000,some (.bC 398 (Aa s)))::t) [] [] m64 8 (fun k23 s25=>
  Ck (qv 8 (k23:Int))<|
  eb 188 (fun j=>(.int .u32 (Cz j):DV))<|
  Ck (qv 8 (k23:Int))<|
  ea 193 (fun x=>[(DV.int .u32) x]) s25.jN<|
  Ck (qv 8 (k23:Int))<|
  ea 199 (fun x=>[(DV.int .u32) x]) s25.jN<|
  eb 199 (IntKind.wrap .u32 ((s25.jN (Int.toNat (k23:Int)))+(Cz (Int.toNat (k23:Int)))))<|
  nX [] [] (some ({ s25 with jN:=(xJ s25.jN (Int.toNat (k23:Int)) (IntKind.wrap .u32 ((s25.jN (Int.toNat (k23:Int)))+(Cz (Int.toNat (k23:Int)))))) }:eJ))) fun s25=>
 rX [] (some s25)
instance PY{o0}:MA (qa o0) prog 193 (fun _=>1) fun r=>⟨[.ref 100000 0],[(100000,some (.bC 398 (Aa o0)))],.gW [],[(100000,some (.bC 398 (Aa r)))],[]⟩:=⟨fun hM=>by unfold qa at hM;exact ae func193 ntmps193⟩
noncomputable def lq(x1:List Int)(o0:eJ):Option eJ :=
 wL (E:=eJ) (x1,o0) [100000] [0] [] (fun s t=>(1,.L 1 (DV.int .u8) s.1)::t) (fun s t=>(100000,some (.bC 398 (Aa s.2)))::t) [] [] (fun s3=>
  If (decide (0<(s3.1.length:Int))) (
   Ck ((0:Int)≤s3.2.jd∧(0:Int)<64)<|
   Ck (eN 64 (IntKind.wrap .i64 (s3.2.jd % 64)) 64)<|
   Ck ((IntKind.wrap .i64 (s3.2.jd % 64))<64)<|
   ea 21 (fun x=>[(DV.int .u8) x]) s3.2.dC<|
   eb 21 (64:Nat)<|
   Ck (eN (s3.1.length) (YG (Int.toNat (64-(IntKind.wrap .i64 (s3.2.jd % 64)))) s3.1:Int) (s3.1.length))<|
   If ((IntKind.wrap .i64 ((IntKind.wrap .i64 (s3.2.jd % 64))+(YG (Int.toNat (64-(IntKind.wrap .i64 (s3.2.jd % 64)))) s3.1:Int)))==64) (
    Bi (cl 41 [] (qa (eJ.mk s3.2.jN (Vc s3.2.dC (Int.toNat (IntKind.wrap .i64 (s3.2.jd % 64))) (Int.toNat (64-(IntKind.wrap .i64 (s3.2.jd % 64)))) s3.1) (IntKind.wrap .u64 (s3.2.jd+(IntKind.wrap .u64 (YG (Int.toNat (64-(IntKind.wrap .i64 (s3.2.jd % 64)))) s3.1:Int))))))) fun v9=>
    nX [] [] (some (.next ((List.drop (Int.toNat (YG (Int.toNat (64-(IntKind.wrap .i64 (s3.2.jd % 64)))) s3.1:Int)) s3.1),v9))))<|
   nX [] [] (some (.next ((List.drop (Int.toNat (YG (Int.toNat (64-(IntKind.wrap .i64 (s3.2.jd % 64)))) s3.1:Int)) s3.1),(eJ.mk s3.2.jN (Vc s3.2.dC (Int.toNat (IntKind.wrap .i64 (s3.2.jd % 64))) (Int.toNat (64-(IntKind.wrap .i64 (s3.2.jd % 64)))) s3.1) (IntKind.wrap .u64 (s3.2.jd+(IntKind.wrap .u64 (YG (Int.toNat (64-(IntKind.wrap .i64 (s3.2.jd % 64)))) s3.1:Int)))))))))<|
  some (.done s3.2)) fun e10=>
 rX [] (some e10)
instance Nf{x1 o0}:MA (lq x1 o0) prog 135 (fun _=>1) fun r=>⟨[.ref 100000 0,.L 1 (DV.int .u8) x1],[(100000,some (.bC 398 (Aa o0)))],.gW [],[(100000,some (.bC 398 (Aa r)))],[]⟩:=⟨fun hM=>by unfold lq at hM;exact ae func135 ntmps135⟩
noncomputable def vK(x0:Int):Option (List Int) :=
 Ck (iJ 1 8 8)<|
 eT 5 (DV.int .u8) 0 fun _=>
 fL (List.replicate (Int.toNat 8) (0:Int)) 8 [] [0,7] [] (fun _ t=>(3,.row 10001)::t) (fun s t=>(10001,some (.R 5 1 (DV.int .u8) s))::t) [] [(10001,5)] m64 (List.length (List.replicate (Int.toNat 8) (0:Int)):Int) (fun k2 s4=>
  Ck ((0:Int)≤(IntKind.wrap .i64 (56-(IntKind.wrap .i64 (8*(k2:Int))))))<|
  Bi (idx s4 (k2:Int)) fun v7=>
  eT 19 (DV.int .u8) (IntKind.wrap .u8 (Int.fdiv x0 (2^min (Int.toNat (IntKind.wrap .i64 (56-(IntKind.wrap .i64 (8*(k2:Int)))))) (IntKind.bits .u64)))) fun v8=>
  nX [] [] (some (List.set s4 (Int.toNat (k2:Int)) v8))) fun s4=>
 wk [.z 10001]<|some s4
instance YC{x0}:MC (vK x0) fun r=>bx prog 194 [.int .u64 x0] (.L 1 (DV.int .u8) r):=⟨fun hM=>by unfold vK at hM;exact pb func194 ntmps194⟩
@[reducible] noncomputable def mP(o0:eJ)(Cn:Int):Option (Nat→Int) :=
 Ck (iJ 1 Cn (IntKind.wrap .i64 (Cn+8)))<|
 eT 29 (DV.int .u8) 0 fun _=>
 Bi (idx (List.replicate (Int.toNat Cn) (0:Int)) 0) fun v5=>
 eT 31 (DV.int .u8) 128 fun v6=>
 Bi (vK (IntKind.wrap .u64 (o0.jd*2^min (Int.toNat 3) (IntKind.bits .u64)))) fun v8=>
 Ck (dL 1 (List.length (List.set (List.replicate (Int.toNat Cn) (0:Int)) (Int.toNat 0) v6)+List.length v8))<|
 Bi (cl 40 [(100000,3)] (lq ((List.set (List.replicate (Int.toNat Cn) (0:Int)) (Int.toNat 0) v6)++v8) o0)) fun v11=>
 fL (arr 0 [0,0,0,0,0,0,0,0,0,0,0,0,0,0,0,0,0,0,0,0,0,0,0,0,0,0,0,0,0,0,0,0]) 43 [100000] [2,7,42] [2,100000] i2 (fun s t=>(7,some (.bC 202 (Qo s)))::t) [] [] m64 8 (fun AH sw=>
  Ck (qv 8 (AH:Int))<|
  eb 46 (fun j=>(.int .u32 (v11.jN j):DV))<|
  Ck (qv 32 (IntKind.wrap .i64 (4*(AH:Int))))<|
  ea 69 (fun x=>[(DV.int .u8) x]) sw<|
  eb 69 (IntKind.wrap .u8 (Int.fdiv (v11.jN (Int.toNat (AH:Int))) (2^min (Int.toNat 24) (IntKind.bits .u32))))<|
  Ck (qv 32 (IntKind.wrap .i64 ((IntKind.wrap .i64 (4*(AH:Int)))+1)))<|
  ea 70 (fun x=>[(DV.int .u8) x]) (xJ sw (Int.toNat (IntKind.wrap .i64 (4*(AH:Int)))) (IntKind.wrap .u8 (Int.fdiv (v11.jN (Int.toNat (AH:Int))) (2^min (Int.toNat 24) (IntKind.bits .u32)))))<|
  eb 70 (IntKind.wrap .u8 (Int.fdiv (v11.jN (Int.toNat (AH:Int))) (2^min (Int.toNat 16) (IntKind.bits .u32))))<|
  Ck (qv 32 (IntKind.wrap .i64 ((IntKind.wrap .i64 (4*(AH:Int)))+2)))<|
  ea 71 (fun x=>[(DV.int .u8) x]) (xJ (xJ sw (Int.toNat (IntKind.wrap .i64 (4*(AH:Int)))) (IntKind.wrap .u8 (Int.fdiv (v11.jN (Int.toNat (AH:Int))) (2^min (Int.toNat 24) (IntKind.bits .u32))))) (Int.toNat (IntKind.wrap .i64 ((IntKind.wrap .i64 (4*(AH:Int)))+1))) (IntKind.wrap .u8 (Int.fdiv (v11.jN (Int.toNat (AH:Int))) (2^min (Int.toNat 16) (IntKind.bits .u32)))))<|
  eb 71 (IntKind.wrap .u8 (Int.fdiv (v11.jN (Int.toNat (AH:Int))) (2^min (Int.toNat 8) (IntKind.bits .u32))))<|
  Ck (qv 32 (IntKind.wrap .i64 ((IntKind.wrap .i64 (4*(AH:Int)))+3)))<|
  ea 72 (fun x=>[(DV.int .u8) x]) (xJ (xJ (xJ sw (Int.toNat (IntKind.wrap .i64 (4*(AH:Int)))) (IntKind.wrap .u8 (Int.fdiv (v11.jN (Int.toNat (AH:Int))) (2^min (Int.toNat 24) (IntKind.bits .u32))))) (Int.toNat (IntKind.wrap .i64 ((IntKind.wrap .i64 (4*(AH:Int)))+1))) (IntKind.wrap .u8 (Int.fdiv (v11.jN (Int.toNat (AH:Int))) (2^min (Int.toNat 16) (IntKind.bits .u32))))) (Int.toNat (IntKind.wrap .i64 ((IntKind.wrap .i64 (4*(AH:Int)))+2))) (IntKind.wrap .u8 (Int.fdiv (v11.jN (Int.toNat (AH:Int))) (2^min (Int.toNat 8) (IntKind.bits .u32)))))<|
  eb 72 (IntKind.wrap .u8 (v11.jN (Int.toNat (AH:Int))))<|
  nX [] [] (some (xJ (xJ (xJ (xJ sw (Int.toNat (IntKind.wrap .i64 (4*(AH:Int)))) (IntKind.wrap .u8 (Int.fdiv (v11.jN (Int.toNat (AH:Int))) (2^min (Int.toNat 24) (IntKind.bits .u32))))) (Int.toNat (IntKind.wrap .i64 ((IntKind.wrap .i64 (4*(AH:Int)))+1))) (IntKind.wrap .u8 (Int.fdiv (v11.jN (Int.toNat (AH:Int))) (2^min (Int.toNat 16) (IntKind.bits .u32))))) (Int.toNat (IntKind.wrap .i64 ((IntKind.wrap .i64 (4*(AH:Int)))+2))) (IntKind.wrap .u8 (Int.fdiv (v11.jN (Int.toNat (AH:Int))) (2^min (Int.toNat 8) (IntKind.bits .u32))))) (Int.toNat (IntKind.wrap .i64 ((IntKind.wrap .i64 (4*(AH:Int)))+3))) (IntKind.wrap .u8 (v11.jN (Int.toNat (AH:Int))))))) fun sw=>
 rX [] (some sw)
noncomputable def sI(o0:eJ):Option (Nat→Int) :=
 Ck ((0:Int)≤o0.jd∧(0:Int)<64)<|
 jn (mP o0) 6 [100000] [0,2,3] [2,3,100000] (fun s t=>(5,.I s)::t) i2<|
 If (decide ((IntKind.wrap .i64 (56-(IntKind.wrap .i64 (o0.jd % 64))))≤0)) (
  nX [] [] (mP o0 (IntKind.wrap .i64 ((IntKind.wrap .i64 (56-(IntKind.wrap .i64 (o0.jd % 64))))+64))))<|
 nX [] [] (mP o0 (IntKind.wrap .i64 (56-(IntKind.wrap .i64 (o0.jd % 64)))))
instance PZ{o0}:MA (sI o0) prog 136 (fun _=>0) fun r=>⟨[.ref 100000 0],[(100000,some (.bC 398 (Aa o0)))],.agg (Qo r),[(100000,some (.bC 398 (Aa o0)))],[]⟩:=⟨fun hM=>by unfold sI at hM;exact abz func136 ntmps136 (wz [39])⟩
noncomputable def wF(x0:List Int):Option (Nat→Int) :=
 Bi (cl 4 [(50000,10001)] (Av)) fun v2=>
 Bi (cl 7 [(100000,10001)] (lq x0 v2)) fun v4=>
 Bi (cl 9 [(100000,10001)] (sI v4)) fun v6=>
 some v6
instance ab7{x0}:MC (wF x0) fun r=>bx prog 80 [.L 1 (DV.int .u8) x0] (.agg (Qo r)):=⟨fun hM=>by unfold wF at hM;exact pb func80 ntmps80⟩
end Go.Proofs.YtpeihknododmlaaGreatDoor
namespace Go.Proofs.YtpeihknododmlaaGreatDoor
open Go.Proofs.Tryz
abbrev Gw{α:Type}(o:Option α):Prop:=Wp o fun _=>True
theorem wO{x n:Int}(h:(0:Int)≤jH .and .u64 (IntKind.wrap .u64 (IntKind.wrap .i64 (0-n))) 31∧(0:Int)≤IntKind.wrap .u64 (32-jH .and .u64 (IntKind.wrap .u64 (IntKind.wrap .i64 (0-n))) 31)):Gw (jG x n):=by
 unfold jG om;exact au (P:=fun _=>True) (aK h.1 (aK h.2 (ah trivial))) (fun _ _=>ah trivial)
theorem aeS(o:eJ):Wp (qa o) fun q=>q.jd=o.jd:=by
 unfold qa;have wk:∀{k:Nat},(k:Int)<16→IntKind.wrap .i64 (4*(k:Int))=4*k∧IntKind.wrap .i64 (4*(k:Int)+4)=4*k+4:=fun h=>⟨wrap_i64 (by omega) (by omega),wrap_i64 (by omega) (by omega)⟩
 refine cw (fun _ _=>True) (by unfold m64;decide) trivial ?_ ?_
 ·intro k s hk _
  obtain⟨w1,w2⟩:=wk hk;rw[w1,w2];exact aK (by unfold eN;omega) (aK (by omega) (aK (by omega) (aK (by unfold Wf;omega) (iz (aK (by omega) (aK (by unfold Wf;omega) (iz (aK (by omega) (aK (by unfold Wf;omega) (iz (aK (by omega) (aK (by unfold Wf;omega) (iz (aK (by unfold qv;omega) (iz (qj (ax (ah trivial))))))))))))))))))
 intro s _;refine ly (fun s=>16≤s.1∧s.1≤64) (fun s=>(64-s.1).toNat) ⟨by dsimp only;decide,by dsimp only;decide⟩ (by dsimp only;decide) ?_
 ·rintro⟨t,w⟩ ⟨t0,t1⟩
  dsimp only at t0 t1 ⊢;refine ak (fun hb=>?_) (fun hb=>ah ?_)
  ·have ht:t<64:=by simpa using hb
   rw[wrap_i64 (n:=t-15) (by omega) (by omega),wrap_i64 (n:=t-2) (by omega) (by omega),wrap_i64 (n:=t-16) (by omega) (by omega),wrap_i64 (n:=t-7) (by omega) (by omega),wrap_i64 (n:=t+1) (by omega) (by omega)];refine aK (by unfold qv;omega) (iz (aK (by unfold qv;omega) (iz ?_)));refine au (wO (by decide)) (fun a _=>au (wO (by decide)) (fun b _=>au (wO (by decide)) (fun c _=>au (wO (by decide)) (fun d _=>?_))));exact aK (by unfold qv;omega) (iz (aK (by unfold qv;omega) (iz (aK (by unfold qv;omega) (iz (qj (ax (ah ⟨⟨by dsimp only;omega,by dsimp only;omega⟩,by dsimp only;omega⟩))))))))
  ·refine cw (fun _ _=>True) (by unfold m64;decide) trivial ?_ ?_
   ·intro k s hk _
    refine au (wO (by decide)) (fun a _=>au (wO (by decide)) (fun b _=>au (wO (by decide)) (fun c _=>?_)));refine bJ (by show(k:Int)<64;exact hk) (fun v _ _=>aK (by unfold qv;omega) (iz ?_));refine au (wO (by decide)) (fun a _=>au (wO (by decide)) (fun b _=>au (wO (by decide)) (fun c _=>ax (ah trivial))))
   intro s _;refine cw (fun _ s=>s.jd=o.jd) (by unfold m64;decide) rfl ?_ (fun s h=>aI (ah h));intro k s hk hs;exact aK (by unfold qv;omega) (qj (aK (by unfold qv;omega) (iz (aK (by unfold qv;omega) (iz (qj (ax (ah hs))))))))
theorem Nu{l:List Int}{o:eJ}(hl:l.length≤1000000000000)(h0:0≤o.jd):Wp (lq l o) fun q=>0≤q.jd:=by
 unfold lq;refine ly (fun s=>s.1.length≤l.length∧0≤s.2.jd) (fun s=>s.1.length) ⟨Nat.le_refl _,h0⟩ (by dsimp only;omega) ?_;rintro⟨m,h⟩ ⟨e1,e2⟩;dsimp only at e1 e2 ⊢;refine ak (fun hb=>?_) (fun _=>ah (aI (ah e2)));have hm:0<m.length:=by simpa using hb
 rw[wrap_i64 (n:=h.jd % 64) (by omega) (by omega)];obtain⟨a,ha,ha2⟩:∃a:Int,h.jd % 64=a∧0≤a∧a<64:=⟨_,rfl,by omega,by omega⟩;rw[ha];have hc:0<YG (64-a).toNat m∧YG (64-a).toNat m≤m.length:=by unfold YG;omega
 have u0:∀x:Int,0≤IntKind.wrap .u64 x:=fun x=>by
  show 0≤x % 18446744073709551616;omega
 refine aK ⟨e2,by decide⟩ (aK (by unfold eN;omega) (aK (by omega) (iz (qj (aK (by unfold eN;omega) (ak (fun _=>?_) (fun _=>?_)))))))
 ·refine au (aQ (aeS _)) (fun q hq=>ax (ah ⟨⟨?_,?_⟩,?_⟩))
  ·dsimp only;rw[List.length_drop];omega
  ·dsimp only;rw[hq];exact u0 _
  ·dsimp only;rw[List.length_drop,Int.toNat_natCast];omega
 ·refine ax (ah ⟨⟨?_,?_⟩,?_⟩)
  ·dsimp only;rw[List.length_drop];omega
  ·exact u0 _
  ·dsimp only;rw[List.length_drop,Int.toNat_natCast];omega
theorem Yy(x:Int):Wp (vK x) fun l=>l.length=8:=by
 unfold vK;refine aK (by unfold iJ;omega) (aV ?_);refine cw (fun _ s=>s.length=8) (by unfold m64;decide) rfl ?_ (fun s h=>cR (ah h));intro k s hk hs;have hk9:(k:Int)<8:=by simpa using hk
 have hk8:k<8:=by omega
 refine aK ?_ (bJ (by omega) (fun v _ _=>aV (ax (ah (by rw[List.length_set];exact hs)))));rw[wrap_i64 (n:=8*(k:Int)) (by omega) (by omega),wrap_i64 (by omega) (by omega)];omega
theorem Sg{o:eJ}{s:Int}(h0:0≤o.jd)(h1:1≤s)(h2:s≤64):Gw (mP o s):=by
 unfold mP;rw[wrap_i64 (n:=s+8) (by omega) (by omega)];refine aK (by unfold iJ;omega) (aV ?_);refine od (GK (j:=0) (by simp;omega) (fun v _ _=>aV ?_));refine au (Yy _) (fun l hl=>?_);refine aK (Ed (by simp;omega) (by decide)) ?_;refine au (aQ (Nu (by simp;omega) h0)) (fun q _=>?_);refine cw (fun _ _=>True) (by unfold m64;decide) trivial ?_ (fun _ _=>aI (ah trivial));intro k s hk _;rw[wrap_i64 (n:=4*(k:Int)) (by omega) (by omega),wrap_i64 (n:=4*(k:Int)+1) (by omega) (by omega),wrap_i64 (n:=4*(k:Int)+2) (by omega) (by omega),wrap_i64 (n:=4*(k:Int)+3) (by omega) (by omega)];exact aK (by unfold qv;omega) (qj (aK (by unfold qv;omega) (iz (qj (aK (by unfold qv;omega) (iz (qj (aK (by unfold qv;omega) (iz (qj (aK (by unfold qv;omega) (iz (qj (ax (ah trivial)))))))))))))))
theorem afb{l:List Int}(hl:l.length≤1000000000000):Gw (wF l):=by
 unfold wF Av;refine od (aQ (aI (ah ?_)));refine au (aQ (Nu hl (Int.le_refl _))) (fun q hq=>?_);refine au (P:=fun _=>True) (aQ ?_) (fun _ _=>ah trivial);unfold sI;rw[wrap_i64 (n:=q.jd % 64) (by omega) (by omega),wrap_i64 (n:=56-q.jd % 64) (by omega) (by omega)];refine aK ⟨hq,by decide⟩ (cS (ak (fun hb=>ax ?_) (fun hb=>ax (Sg hq (by have:¬_:=of_decide_eq_false hb;omega) (by omega)))));have:56-q.jd % 64≤0:=of_decide_eq_true hb;rw[wrap_i64 (by omega) (by omega)];exact Sg hq (by omega) (by omega)
def Ij{α:Type}(z:α)(xs:List α)(j:Nat)(s:List α):Prop:=s=xs.take j++List.replicate (xs.length-j) z
section
variable {α:Type} {z x:α} {xs s:List α} {j:Nat}
theorem Ij.zero:Ij z xs 0 (List.replicate (Int.toNat (xs.length:Int)) z):=by unfold Ij;simp
theorem Ij.at(h:Ij z xs j s)(hj:j<xs.length):s[j]? = some z:=by
 rw[h,List.getElem?_append_right (by simp;omega),List.getElem?_replicate];rw[if_pos (by simp;omega)]
theorem Ij.set(h:Ij z xs j s)(hx:xs[j]? = some x):Ij z xs (j+1) (s.set j x):=by
 have hj:=(List.getElem?_eq_some_iff.1 hx).1;unfold Ij at *;rw[h,List.set_append_right _ _ (by simp;omega)];have e1:j-(xs.take j).length=0:=by simp;omega
 obtain⟨m,hm⟩:∃m,xs.length-j=m+1:=⟨xs.length-j-1,by omega⟩;rw[e1,hm,List.replicate_succ,List.set_cons_zero,show xs.length-(j+1)=m by omega,List.take_add_one,hx];simp
theorem Ij.all(h:Ij z xs xs.length s):s=xs:=by unfold Ij at h;rw[h];simp
end
theorem YA{C:SN}:∀(d fu:Nat) {l:List DV},d<fu→(∀a∈l,∃t,WE C Ct d t a)→l.length≤3→fU fu l=some l:=by
 intro d
 induction d with
 |zero=>
  intro fu l hf h hl;obtain⟨g,rfl⟩:∃g,fu=g+1:=⟨fu-1,by omega⟩
  have:l = []:=by
   cases l with
   |nil=>rfl
   |cons a t=>obtain⟨_,h⟩:=h a (by simp);cases h
  subst this;unfold fU iG;exact ca (aK (by unfold iJ;simp) (aV (cw (fun _ s=>s = []) (by unfold m64;simp) rfl (fun j _ hj _=>by simp at hj;omega) (fun s h=>cR (aI (ah h))))))
 |succ d ih=>
  intro fu l hf h hl;obtain⟨g,rfl⟩:∃g,fu=g+1:=⟨fu-1,by omega⟩;unfold fU iG;refine ca (aK (by unfold iJ;omega) (aV (cw (fun j s=>Ij _ l j s) (by unfold m64;omega) Ij.zero ?_ (fun s h=>cR (aI (ah (by rw[Int.toNat_natCast]at h;exact h.all)))))));intro j s hj hs;refine bJ hj (fun a a1 a2=>?_);obtain⟨t,ha⟩:=h a a2;obtain⟨sh,Pu,ajj⟩:=ha;have hc:=sh.c2;refine aA (Bm _) ?_;have hz:=hs.at (by omega)
  refine aA (x:=⟨_,_,_,_⟩) (by
   unfold ri;exact ca (aA (by unfold cl;exact ih g (by omega) (fun a ha=>⟨_,ajj a ha⟩) (by dsimp only;omega)) (ah rfl))) ?_
  refine aA (gR _ _ |>.trans hz) (aA (Bm _) (aV (ax (ah ?_))));rw[Int.toNat_natCast];exact hs.set a1
theorem Yz{C:SN}:∀(d fu:Nat) {n:Nat} {l:List DV},d<fu→WB C Ct Rc d n l→n≤12→fT fu l=some l:=by
 intro d
 induction d with
 |zero=>
  rintro fu n l hf ⟨rfl,rfl⟩ _;obtain⟨g,rfl⟩:∃g,fu=g+1:=⟨fu-1,by omega⟩;unfold fT iE;exact ca (aK (by unfold iJ;simp) (aV (cw (fun _ s=>s = []) (by unfold m64;simp) rfl (fun j _ hj _=>by simp at hj;omega) (fun s h=>cR (aI (ah h))))))
 |succ d ih=>
  intro fu n l hf h hn;obtain⟨g,rfl⟩:∃g,fu=g+1:=⟨fu-1,by omega⟩;have hl:=h.len;unfold fT iE;refine ca (aK (by unfold iJ;omega) (aV (cw (fun j s=>Ij _ l j s) (by unfold m64;omega) Ij.zero ?_ (fun s h=>cR (aI (ah (by rw[Int.toNat_natCast]at h;exact h.all)))))));intro j s hj hs;refine bJ hj (fun x x1 x2=>?_);obtain⟨a,a1,hx⟩:=WL.get h x2;obtain⟨sh,Pu,he,ht,Nk,hp1,hq1⟩:=hx;have hc:=sh.c3;refine aA (zl _) ?_;have hz:=hs.at (by omega)
  refine aA (x:=⟨_,_,_,_,_,_⟩) (by
   unfold rb;exact ca (aA (by unfold cl;exact YA 6 64 (by omega) (fun a ha=>⟨_,he a ha⟩) (by dsimp only;omega)) (aA (by unfold cl;exact ih g (by omega) ht (by omega)) (aA (by unfold cl;exact ih g (by omega) Nk (by omega)) (ah rfl))))) ?_
  refine aA (gR _ _ |>.trans hz) (aA (zl _) (aV (ax (ah ?_))));rw[Int.toNat_natCast];exact hs.set x1
theorem acQ{gP:List (List Int)}{f:bj}(hf:Dk gP f):uM f=some f:=by
 have n3:=hf.n3;have f2:=hf.f2;have l9:=hf.JG.1
 have hH:∀{I T own:Nat} {r:List Int} {u:bQ},u.bP.length≤3→(∀(k:Nat) (y:br),u.bP[k]? = some y→Ja I T f.aR.length gP own r k y)→rP u=some u:=by
  intro I T own r u hu hh;unfold rP;refine ca (aA (x:=u.bP) ?_ (ah rfl));unfold cl jR;refine ca (aK (by unfold iJ;omega) (aV (cw (fun j s=>Ij _ u.bP j s) (by unfold m64;omega) Ij.zero ?_ (fun s h=>cR (aI (ah (by rw[Int.toNat_natCast]at h;exact h.all)))))));intro j s hj hs;refine bJ hj (fun x x1 x2=>?_);obtain⟨p,p2,rp,k3,DL,Gd,a,a12,hb⟩:=hh j x x1;have hz:=hs.at (by omega);have Wn:x.dM.length=p:=by rw[Gd];simp
  refine aA (x:=x) (by
   unfold rf;exact ca (aV (aK (Ed (by simp;omega) (by decide)) (aA (by unfold cl;exact Yz 4 64 (by omega) hb a12) (cR (ah (by simp))))))) ?_
  refine aA (gR _ _ |>.trans hz) (aV (ax (ah ?_)));rw[Int.toNat_natCast];exact hs.set x1
 have hC:∀c∈f.aF,ui c=some c:=by
  intro c hc;obtain⟨i,I,T,r,c1,cx,g,r3⟩:=hf.each hc;have v2:=g.v2;have vl:=g.Qu;have i3:=g.i3;have t1:=g.t1;unfold ui;refine ca (aV (aK (Ed (by simp;omega) (by decide)) (aA (x:=c.aX) ?_ (cR (ah (by simp))))));unfold cl jQ;refine ca (aK (by unfold iJ;omega) (aV (cw (fun j s=>Ij _ c.aX j s) (by unfold m64;omega) Ij.zero ?_ (fun s h=>cR (aI (ah (by rw[Int.toNat_natCast]at h;exact h.all)))))));intro j s hj hs;refine bJ hj (fun x x1 x2=>?_);have hz:=hs.at (by omega);refine aA (hH (by have:=(g.h1 x x2).2;omega) (g.hs x x2)) (aA (gR _ _ |>.trans hz) (aV (ax (ah ?_))));rw[Int.toNat_natCast];exact hs.set x1
 unfold uM;refine ca (aV (aK (Ed (by simp;omega) (by decide)) (aV (aK (Ed (by simp;omega) (by decide)) (aA (x:=f.aF) ?_ (cR (ah (by simp))))))));unfold cl jq;refine ca (aK (by unfold iJ;omega) (aV (cw (fun j s=>Ij _ f.aF j s) (by unfold m64;omega) Ij.zero ?_ (fun s h=>cR (aI (ah (by rw[Int.toNat_natCast]at h;exact h.all)))))));intro j s hj hs;refine bJ hj (fun x x1 x2=>?_);have hz:=hs.at (by omega);refine aA (hC x x2) (aA (gR _ _ |>.trans hz) (aV (ax (ah ?_))));rw[Int.toNat_natCast];exact hs.set x1
open Go.RowKit
attribute [local irreducible] ik du bx iM oE dL eN iJ
structure dA where
 JM:dg
 je:List aq
 ql:List aU
 mL:Int
def KA(x:dA):List DV:=[.int .u8 x.JM.aR,.sl 1 (List.map (DV.int .u8) x.JM.fP),.sl 4 (List.map GG x.JM.aF),.sl 7 (List.map cW x.je),.sl 4 (List.map da x.ql),.int .u8 x.mL]
structure dt where
 fx:cH
 je:bS
 ql:List aU
 mL:Int
def vh(x:dt):List DV:=[.jA (sQ x.fx),.sl 7 (List.map cW x.je.aW),.sl 4 (List.map da x.ql),.int .i64 x.mL]
@[reducible] noncomputable def rA(s9:Int×Int):Option Int :=
 Bi (Ah ⟨#[0,1,2,2,3,3,3,3,4,4,4,4,4,4,4,4,5,5,5,5,5,5,5,5,5,5,5,5,5,5,5,5,6,6,6,6,6,6,6,6,6,6,6,6,6,6,6,6,6,6,6,6,6,6,6,6,6,6,6,6,6,6,6,6,7,7,7,7,7,7,7,7,7,7,7,7,7,7,7,7,7,7,7,7,7,7,7,7,7,7,7,7,7,7,7,7,7,7,7,7,7,7,7,7,7,7,7,7,7,7,7,7,7,7,7,7,7,7,7,7,7,7,7,7,7,7,7,7,8,8,8,8,8,8,8,8,8,8,8,8,8,8,8,8,8,8,8,8,8,8,8,8,8,8,8,8,8,8,8,8,8,8,8,8,8,8,8,8,8,8,8,8,8,8,8,8,8,8,8,8,8,8,8,8,8,8,8,8,8,8,8,8,8,8,8,8,8,8,8,8,8,8,8,8,8,8,8,8,8,8,8,8,8,8,8,8,8,8,8,8,8,8,8,8,8,8,8,8,8,8,8,8,8,8,8,8,8,8,8,8,8,8,8,8,8,8,8,8,8,8,8,8,8,8,8,8]⟩ (IntKind.wrap .u8 s9.1)) fun v8=>
 some (IntKind.wrap .i64 (s9.2+(IntKind.wrap .i64 v8)))
@[reducible] noncomputable def rB(wH:Int×Int):Option Int :=
 jn rA 7 [] [] [] (fun s t=>(0,.int .u64 s.1)::(2,.I s.2)::t) i2<|
 If (decide (256≤wH.1)) (
  nX [] [] (rA ((Int.fdiv wH.1 (2^min (Int.toNat 8) (IntKind.bits .u64))),(IntKind.wrap .i64 (wH.2+8)))))<|
 nX [] [] (rA (wH.1,wH.2))
@[reducible] noncomputable def rD(sx:Int×Int):Option Int :=
 jn rB 4 [] [] [] (fun s t=>(0,.int .u64 s.1)::(2,.I s.2)::t) i2<|
 If (decide (65536≤sx.1)) (
  nX [] [] (rB ((Int.fdiv sx.1 (2^min (Int.toNat 16) (IntKind.bits .u64))),(IntKind.wrap .i64 (sx.2+16)))))<|
 nX [] [] (rB (sx.1,sx.2))
noncomputable def uA(x0:Int):Option Int :=
 jn rD 1 [] [] [] (fun s t=>(0,.int .u64 s.1)::(2,.I s.2)::t) i2<|
 If (decide (4294967296≤x0)) (
  nX [] [] (rD ((Int.fdiv x0 (2^min (Int.toNat 32) (IntKind.bits .u64))),32)))<|
 nX [] [] (rD (x0,0))
instance SA{x0}:MC (uA x0) fun r=>bx prog 204 [.int .u64 x0] (.I r):=⟨fun hM=>by unfold uA at hM;exact pb func204 ntmps204⟩
noncomputable def oB(x0:Int):Option Int :=
 Bi (uA x0) fun v2=>
 some v2
instance Wd{x0}:MC (oB x0) fun r=>bx prog 142 [.int .u64 x0] (.I r):=⟨fun hM=>by unfold oB at hM;exact pb func142 ntmps142⟩
noncomputable def pt(x0:Int):Option Bool :=
 some (x0 != x0)
instance OT{x0}:MC (pt x0) fun r=>bx prog 205 [.int .u8 x0] (.bool r):=⟨fun hM=>by unfold pt at hM;exact pb func205 ntmps205⟩
noncomputable def mR(x0:Int)(x1:Int):Option Int :=
 Bi (pt x0) fun v2=>
 Bi (pt x1) fun v4=>
 If v2 (
  If v4 (
   some 0)<|
  some (-1))<|
 If v4 (
  some 1)<|
 If (decide (x0<x1)) (
  some (-1))<|
 If (decide (x1<x0)) (
  some 1)<|
 some 0
instance LW{x0 x1}:MC (mR x0 x1) fun r=>bx prog 144 [.int .u8 x0,.int .u8 x1] (.I r):=⟨fun hM=>by unfold mR at hM;exact pb func144 ntmps144⟩
noncomputable def oD(x0:Int):Option Bool :=
 some (x0 != x0)
instance Wi{x0}:MC (oD x0) fun r=>bx prog 206 [.I x0] (.bool r):=⟨fun hM=>by unfold oD at hM;exact pb func206 ntmps206⟩
noncomputable def eM(x0:Int)(x1:Int):Option Int :=
 Bi (oD x0) fun v2=>
 Bi (oD x1) fun v4=>
 If v2 (
  If v4 (
   some 0)<|
  some (-1))<|
 If v4 (
  some 1)<|
 If (decide (x0<x1)) (
  some (-1))<|
 If (decide (x1<x0)) (
  some 1)<|
 some 0
instance Th{x0 x1}:MC (eM x0 x1) fun r=>bx prog 145 [.I x0,.I x1] (.I r):=⟨fun hM=>by unfold eM at hM;exact pb func145 ntmps145⟩
noncomputable def tv(x0:List Int):Option Int :=
 fO (E:=Int) () 8 [] [3,6,7] [] i2 i2 [] [] m64 (x0.length:Int) (fun k1 _=>
  Bi (idx x0 (k1:Int)) fun v4=>
  If (v4 != 0) (
   some (.done v4))<|
  nX [] [] (some (.next ()))) fun
  |.next _=>
   some 0
  |.done r=>some r
instance acf{x0}:MC (tv x0) fun r=>bx prog 143 [.L 1 (DV.int .i64) x0] (.I r):=⟨fun hM=>by unfold tv at hM;exact pb func143 ntmps143⟩
noncomputable def ld(x0:aH)(x1:aH):Option Int :=
 Bi (mR x0.bw x1.bw) fun v2=>
 Bi (eM x0.gA x1.gA) fun v4=>
 Bi (eM x0.gB x1.gB) fun v6=>
 Bi (eM x0.gN x1.gN) fun v8=>
 eT 25 (bA 1 (DV.int .i64)) [v2,v4,v6,v8] fun v9=>
 Bi (tv v9) fun v11=>
 some v11
instance Vh{x0 x1}:MC (ld x0 x1) fun r=>bx prog 86 [.agg (cM x0),.agg (cM x1)] (.I r):=⟨fun hM=>by unfold ld at hM;exact pbz func86 ntmps86 (wz [25])⟩
noncomputable def xT(x0:aq)(x1:aq):Option Int :=
 Bi (ld x0.cG x1.cG) fun v2=>
 some v2
instance YQ{x0 x1}:MC (xT x0 x1) fun r=>bx prog 85 [.agg (yf x0),.agg (yf x1)] (.I r):=⟨fun hM=>by unfold xT at hM;exact pb func85 ntmps85⟩
noncomputable def fQ(x1:Int)(x2:Int)(o0:List aq):Option (List aq) :=
 wL (E:=(List aq)) (o0,(IntKind.wrap .i64 (x1+1))) [100000] [0,1,2,3] [] (fun s t=>(8,.I s.2)::t) (fun s t=>(100000,some (.R 123 7 cW s.1))::t) [] [] (fun s3=>
  If (decide (s3.2<x2)) (
   wL (E:=(List aq)) (s3.1,s3.2) [100000] [0,1,2,3,8] [] (fun s t=>(9,.I s.2)::t) (fun s t=>(100000,some (.R 123 7 cW s.1))::t) [] [] (fun s6=>
    Bi (gb (decide (x1<s6.2)) (aq.mk (aH.mk 0 0 0 0) 0 0 []) (idx s6.1 s6.2)) fun v8=>
    Bi (gb (decide (x1<s6.2)) (aq.mk (aH.mk 0 0 0 0) 0 0 []) (idx s6.1 (IntKind.wrap .i64 (s6.2-1)))) fun v10=>
    Bi (gb (decide (x1<s6.2)) (0) (xT v8 v10)) fun v12=>
    If ((decide (x1<s6.2))&&(decide (v12<0))) (
     Bi (idx s6.1 (IntKind.wrap .i64 (s6.2-1))) fun qm=>
     Bi (idx s6.1 s6.2) fun pF=>
     eT 51 cW qm fun qt=>
     Bi (idx (List.set s6.1 (Int.toNat s6.2) qt) (IntKind.wrap .i64 (s6.2-1))) fun xw=>
     eT 52 cW pF fun v20=>
     nX [] [] (some (.next ((List.set (List.set s6.1 (Int.toNat s6.2) qt) (Int.toNat (IntKind.wrap .i64 (s6.2-1))) v20),(IntKind.wrap .i64 (s6.2-1))))))<|
    some (.done s6.1)) fun e21=>
   nX [] [] (some (.next (e21,(IntKind.wrap .i64 (s3.2+1))))))<|
  some (.done s3.1)) fun e22=>
 rX [] (some e22)
instance Ai{x1 x2 o0}:MA (fQ x1 x2 o0) prog 195 (fun _=>1) fun r=>⟨[.row 100000,.I x1,.I x2,.val (.func (.func 85) #[] #[])],[(100000,some (.R 123 7 cW o0))],.gW [],[(100000,some (.R 123 7 cW r))],[]⟩:=⟨fun hM=>by unfold fQ at hM;exact ae func195 ntmps195⟩
@[reducible] noncomputable def mZ(s3:Unit):Option (List aq) :=
 none
noncomputable def gZ(x1:Int)(x2:Int)(x3:Int)(o0:List aq):Option (List aq) :=
 o1<|
 If (decide ((IntKind.wrap .i64 (x2-x1))≤12)) (
  Bi (cl 30 [] (fQ x1 x2 o0)) fun v2=>
  rX [] (some v2))<|
 If (x3==0) (
  none)<|
 jn mZ 7 [100000] [0,1,2,3,4,10,11,12] [100000] i2 i2<|
 If (!true) (
  none)<|
 nX [] [] (mZ ())
instance Cq{x1 x2 x3 o0}:MA (gZ x1 x2 x3 o0) prog 141 (fun _=>1) fun r=>⟨[.row 100000,.I x1,.I x2,.I x3,.val (.func (.func 85) #[] #[])],[(100000,some (.R 123 7 cW o0))],.gW [],[(100000,some (.R 123 7 cW r))],[]⟩:=⟨fun hM=>by unfold gZ at hM;exact ae func141 ntmps141⟩
noncomputable def eX(o0:List aq):Option (List aq) :=
 Bi (oB (IntKind.wrap .u64 (o0.length:Int))) fun v2=>
 Bi (cl 13 [] (gZ 0 (o0.length:Int) v2 o0)) fun v4=>
 rX [] (some v4)
instance AK{o0}:MA (eX o0) prog 84 (fun _=>1) fun r=>⟨[.row 100000,.val (.func (.func 85) #[] #[])],[(100000,some (.R 123 7 cW o0))],.gW [],[(100000,some (.R 123 7 cW r))],[]⟩:=⟨fun hM=>by unfold eX at hM;exact ae func84 ntmps84⟩
noncomputable def yH(x0:List aq):Option (bS×Int) :=
 fO (E:=bS×Int) () 13 [] [0,2,11,12] [2] i2 i2 [] [] m64 (x0.length:Int) (fun k1 _=>
  Bi (idx x0 (k1:Int)) fun uG=>
  Bi (tS uG) fun vY=>
  If (vY != 0) (
   some (.done ((bS.mk []),vY)))<|
  nX [] [] (some (.next ()))) fun
  |.next _=>
   Ck (iJ 72 0 (x0.length:Int))<|
   eT 26 cW (aq.mk (aH.mk 0 0 0 0) 0 0 []) fun _=>
   fL ([]:List aq) 29 [] [2,27,28] [2] (fun _ t=>(7,.row 10001)::t) (fun s t=>(10001,some (.R 123 7 cW s))::t) [] [(10001,26)] m64 (x0.length:Int) (fun k4 s6=>
    Bi (idx x0 (k4:Int)) fun qt=>
    Bi (rK qt) fun xw=>
    eT 36 (bA 7 cW) [xw] fun v20=>
    Ck (dL 72 (s6.length+List.length v20))<|
    nX [] [(10001,37)] (some (s6++v20))) fun s6=>
   Bi (cl 40 [(100000,10001)] (eX s6)) fun v8=>
   wL (E:=(Unit)⊕(bS×Int)) 1 [] [2] [2] (fun s t=>(7,.L 7 cW v8)::(10,.I s)::t) i2 [.z 10001] [] (fun wH=>
    If (decide (wH<(v8.length:Int))) (
     Bi (idx v8 wH) fun v12=>
     Bi (idx v8 (IntKind.wrap .i64 (wH-1))) fun qm=>
     If ((v12.cG.bw==qm.cG.bw)&&((v12.cG.gA==qm.cG.gA)&&((v12.cG.gB==qm.cG.gB)&&((v12.cG.gN==qm.cG.gN)&&true)))) (
      some (.done (.inr ((bS.mk []),5))))<|
     nX [] [] (some (.next (IntKind.wrap .i64 (wH+1)))))<|
    some (.done (.inl ()))) fun
    |.inl _=>
     If (decide (96<(v8.length:Int))) (
      some ((bS.mk []),3))<|
     some ((bS.mk v8),0)
    |.inr r=>some r
  |.done r=>some r
instance ach{x0}:MC (yH x0) fun r=>bx prog 43 [.L 7 cW x0] (.gW [.agg (zn r.1),.I r.2]):=⟨fun hM=>by unfold yH at hM;exact pb func43 ntmps43⟩
noncomputable def BL(x0:bj):Option ((cH)⊕(Int)) :=
 Bi (cl 9 [] (vL x0)) fun v2=>
 sm v2 (fun ud=>
  Bi (tK x0) fun v4=>
  Bi (uM x0) fun v6=>
  Ck (ByteArray.size v4≤9223372036854775807)<|
  Bi (wF (bytesOf v4)) fun v9=>
  wk [.b 25]<|rX [] (some (.inl (cH.mk v6 v4 v9 ud)))) fun Ps=>
  If (Ps != 0) (
   rX [] (some (.inr Ps)))<|
  Bi (tK x0) fun v4=>
  Bi (uM x0) fun v6=>
  Ck (ByteArray.size v4≤9223372036854775807)<|
  Bi (wF (bytesOf v4)) fun v9=>
  none
instance aeX{x0}:MA (BL x0) prog 41 (fun | .inl _=>0 | .inr _=>0) fun | .inl r=>⟨[.agg (tX x0)],[],.gW [.jA (sQ r),.I 0],[],[]⟩ | .inr r=>⟨[.agg (tX x0)],[],.gW [.val (.pointer none),.I r],[],[]⟩:=⟨fun {r} hM=>by unfold BL at hM;rcases r with r|r <;> exact ab func41 ntmps41⟩
noncomputable def qu(x0:dg):Option ((cH×dK)⊕(dK)) :=
 Bi (mI x0) fun v2=>
 Bi (lM v2) fun v4=>
 Bi (cl 12 [] (BL v4)) fun v6=>
 sm v6 (fun ac4=>
  rX [] (some (.inl (ac4,v2)))) fun aiL=>
  If (aiL != 0) (
   rX [] (some (.inr v2)))<|
  rX [] (some (.inr v2))
instance MU{x0}:MA (qu x0) prog 15 (fun | .inl _=>0 | .inr _=>0) fun | .inl r=>⟨[.agg (KD x0)],[],.gW [.jA (sQ r.1),.agg (GF r.2)],[],[]⟩ | .inr r=>⟨[.agg (KD x0)],[],.gW [.val (.pointer none),.agg (GF r)],[],[]⟩:=⟨fun {r} hM=>by unfold qu at hM;rcases r with r|r <;> exact ab func15 ntmps15⟩
noncomputable def oY(x0:List aq):Option (bS×Bool) :=
 Bi (yH x0) fun v2=>
 some (v2.1,(v2.2==0))
instance Ob{x0}:MC (oY x0) fun r=>bx prog 16 [.L 7 cW x0] (.gW [.agg (zn r.1),.bool r.2]):=⟨fun hM=>by unfold oY at hM;exact pb func16 ntmps16⟩
noncomputable def nS(x0:dA):Option (dt×dK×Bool) :=
 Bi (cl 12 [] (qu x0.JM)) fun v2=>
 sm v2 (fun ud=>
  Bi (jr x0.je 10) fun v4=>
  Bi (oY v4) fun v6=>
  Bi (kp x0.ql 3) fun v8=>
  Ck ((0:Int)≤x0.mL∧(0:Int)<13)<|
  some ((dt.mk ud.1 v6.1 v8 (IntKind.wrap .i64 (x0.mL % 13))),ud.2,v6.2)) fun Ps=>
  Bi (jr x0.je 10) fun v4=>
  Bi (oY v4) fun v6=>
  Bi (kp x0.ql 3) fun v8=>
  Ck ((0:Int)≤x0.mL∧(0:Int)<13)<|
  none
instance MT{x0}:MC (nS x0) fun r=>bx prog 5 [.agg (KA x0)] (.gW [.agg (vh r.1),.agg (GF r.2.1),.bool r.2.2]):=⟨fun hM=>by unfold nS at hM;exact pb func5 ntmps5⟩
end Go.Proofs.YtpeihknododmlaaGreatDoor
namespace Go.Proofs.YtpeihknododmlaaGreatDoor
open Go.Proofs.Tryz
def I6(x:Int):Prop:=-9223372036854775808≤x∧x≤9223372036854775807
structure ChD(c:aq):Prop where
 k0:0≤c.cG.bw
 k1:c.cG.bw≤255
 a:I6 c.cG.gA
 b:I6 c.cG.gB
 n:I6 c.cG.gN
 at_:I6 c.AN
 d:I6 c.gD
 args:∀x∈c.bR,I6 x
structure AF(c:aq):Prop where
 k0:1≤c.cG.bw
 k1:c.cG.bw≤9
 a0:0≤c.cG.gA
 a1:c.cG.gA≤2
 b0:0≤c.cG.gB
 b1:c.cG.gB≤2
 n0:0≤c.cG.gN
 n1:c.cG.gN≤3
 bz:c.cG.bw=2∨c.cG.bw=3∨c.cG.bw=4∨c.cG.bw=8∨c.cG.bw=9→c.cG.gB=0
 t0:0≤c.AN
 t1:c.AN≤12
 tz:5≤c.cG.bw→c.AN=0
 d0:0≤c.gD
 d1:c.gD≤5
 dz:c.cG.bw=1∨c.cG.bw=4∨c.cG.bw=5∨c.cG.bw=8→c.gD=0
 dp:c.cG.bw=3∨c.cG.bw=6∨c.cG.bw=9→1≤c.gD
 d2:c.cG.bw=2→c.gD≤1
 d3:c.cG.bw=3→c.gD≤3
 ar:c.bR.length≤2
 arz:c.cG.bw≠1→c.bR = []
 args:∀x∈c.bR,I6 x
theorem qL{x n:Int}(hx:I6 x)(n0:0<n)(n1:n≤1000):Wp (cL x n) fun r=>0≤r∧r<n:=by
 unfold cL;refine aK (by omega) (aK (by omega) (ah ?_));have h1:=Int.tmod_lt_of_pos x n0;have h2:-n<x.tmod n:=Int.lt_tmod_of_pos x n0;rw[wrap_i64 (n:=x.tmod n+n) (by omega) (by omega)];exact⟨Int.tmod_nonneg _ (by omega),Int.tmod_lt_of_pos _ n0⟩
def pO(k:aH):Int:=k.bw*1000000+k.gA*10000+k.gB*100+k.gN
structure KB(k:aH):Prop where
 a0:0≤k.gA
 a1:k.gA≤9
 b0:0≤k.gB
 b1:k.gB≤9
 n0:0≤k.gN
 n1:k.gN≤9
theorem AF.kb{c:aq}(h:AF c):KB c.cG:=by
 obtain⟨_,_,a0,a1,b0,b1,n0,n1,_⟩:=h;exact⟨a0,by omega,b0,by omega,n0,by omega⟩
theorem abM{x y:aH}(hx:KB x)(hy:KB y):nR x y=some (decide (pO x<pO y)):=by
 obtain⟨a0,a1,b0,b1,n0,n1⟩:=hx;obtain⟨c0,c1,d0,d1,m0,m1⟩:=hy;unfold nR pO;refine ca (ak (fun h=>ah ?_) (fun h=>ak (fun h2=>ah ?_) (fun h2=>ak (fun h3=>ah ?_) (fun h3=>ah ?_))))
 ·have:x.bw≠y.bw:=by simpa using h
  exact decide_eq_decide.2 ⟨fun _=>by omega,fun _=>by omega⟩
 ·have:x.bw=y.bw:=by simpa using h
  have:x.gA≠y.gA:=by simpa using h2
  exact decide_eq_decide.2 ⟨fun _=>by omega,fun _=>by omega⟩
 ·have:x.bw=y.bw:=by simpa using h
  have:x.gA=y.gA:=by simpa using h2
  have:x.gB≠y.gB:=by simpa using h3
  exact decide_eq_decide.2 ⟨fun _=>by omega,fun _=>by omega⟩
 ·have:x.bw=y.bw:=by simpa using h
  have:x.gA=y.gA:=by simpa using h2
  have:x.gB=y.gB:=by simpa using h3
  exact decide_eq_decide.2 ⟨fun _=>by omega,fun _=>by omega⟩
theorem Yh{x y:aH}(hx:KB x)(hy:KB y):((x.bw==y.bw)&&((x.gA==y.gA)&&((x.gB==y.gB)&&((x.gN==y.gN)&&true))))=decide (pO x=pO y):=by
 obtain⟨a0,a1,b0,b1,n0,n1⟩:=hx;obtain⟨c0,c1,d0,d1,m0,m1⟩:=hy;unfold pO
 by_cases h:x.bw=y.bw∧x.gA=y.gA∧x.gB=y.gB∧x.gN=y.gN
 ·obtain⟨h1,h2,h3,h4⟩:=h
  rw[decide_eq_true (by omega)];simp[h1,h2,h3,h4]
 ·rw[decide_eq_false (by omega)]
  cases hh:((x.bw==y.bw)&&((x.gA==y.gA)&&((x.gB==y.gB)&&((x.gN==y.gN)&&true))))with
  |false=>rfl
  |true=>
   exfalso
   simp only[Bool.and_eq_true,beq_iff_eq]at hh;exact h ⟨hh.1,hh.2.1,hh.2.2.1,hh.2.2.2.1⟩
def Ru(l:List aq):Prop:=l.Pairwise fun a b=>pO a.cG<pO b.cG
structure Ins(s:List aq)(c:aq)(j:Nat)(t:List aq×Bool):Prop where
 mem:∀x∈t.1,x∈s∨x=c
 srt:Ru t.1
 len:t.1.length≤j+1
 aCL:t.2=false→t.1.length≤j
 lt:t.2=false→∀x∈t.1,pO x.cG<pO c.cG
 rest:∀(i:Nat) (x:aq),j≤i→s[i]? = some x→∀y∈t.1,pO y.cG<pO x.cG
theorem Ru.snoc{l:List aq}{x:aq}(h:Ru l)(k:∀y∈l,pO y.cG<pO x.cG):Ru (l++[x]):=by
 unfold Ru;rw[List.pairwise_append];exact⟨h,by simp,fun a ha b hb=>by simp at hb;subst hb;exact k a ha⟩
theorem Ru.ix{l:List aq}(h:Ru l){i j:Nat}{x y:aq}(hx:l[i]? = some x)(hy:l[j]? = some y)(Dn:i<j):pO x.cG<pO y.cG:=by
 obtain⟨hi,rfl⟩:=List.getElem?_eq_some_iff.1 hx;obtain⟨hj,rfl⟩:=List.getElem?_eq_some_iff.1 hy;exact(List.pairwise_iff_getElem.1 h) i j hi hj Dn
theorem acB{l:List aq}(hl:l.length≤1000)(hk:∀x∈l,KB x.cG):Wp (lh l) fun r=>Ru r∧(∀x∈r,x∈l)∧r.length≤l.length:=by
 unfold lh;refine cw (fun j s=>Ru s∧(∀x∈s,x∈l)∧s.length≤j) (by unfold m64;omega) ⟨List.Pairwise.nil,by simp,by simp⟩ ?_ (fun s h=>ah (by rw[Int.toNat_natCast]at h;exact h));rintro j s hj ⟨s1,s2,s3⟩;refine cS (bJ hj (fun c c1 c2=>?_));have kc0:=hk c c2;refine cw (fun i t=>Ins s c i t) (by unfold m64;omega) ⟨by simp,List.Pairwise.nil,by simp,by simp,by simp,by simp⟩ ?_ ?_
 ·rintro i ⟨t,dn⟩ hi ⟨g1,g2,g3,g4,g5,g6⟩
  dsimp only at g1 g2 g3 g4 g5 g6 ⊢;refine bJ hi (fun x x1 x2=>?_);have kx:=hk x (s2 x x2);rw[Yh kx kc0]
  -- x is put behind what there is
  have put:∀(t':List aq) (d':Bool),(∀y∈t',y∈s∨y=c)→Ru t'→t'.length≤i+1→(d'=false→t'.length≤i∧∀y∈t',pO y.cG<pO c.cG)→(d'=false→pO x.cG<pO c.cG)→(∀y∈t',pO y.cG<pO x.cG)→Wp (oi x (t',d')) (Ins s c (i+1)):=by
   intro t' d' h1 h2 h3 h4 h5 h6;refine aV (aK (xt (by dsimp only;omega) (by decide)) (ax (ah ⟨fun y hy=>?_,h2.snoc h6,by simp;omega,fun e=>by have:=(h4 e).1;simp;omega,fun e y hy=>?_,fun m y hm hy z hz=>?_⟩)))
   ·rcases List.mem_append.1 hy with hy|hy
    ·exact h1 y hy
    ·simp at hy;subst hy;exact .inl x2
   ·rcases List.mem_append.1 hy with hy|hy
    ·exact(h4 e).2 y hy
    ·simp at hy;subst hy;exact h5 e
   ·have hxy:=s1.ix x1 hy (by omega)
    rcases List.mem_append.1 hz with hz|hz
    ·have:=h6 z hz;omega
    ·simp at hz;subst hz;exact hxy
  have hx6:=g6 i x (Nat.le_refl _) x1
  have k3:∀d':Bool,(d'=false→dn=false∧pO x.cG≠pO c.cG)→Wp (oj c t x d') (Ins s c (i+1)):=by
   intro d' hd;refine cS ?_;refine au (P:=fun b=>d'=false→b=decide (pO c.cG<pO x.cG)) (ia (fun _=>⟨_,abM kc0 kx,fun _=>rfl⟩) (fun h e=>by rw[e]at h;cases h)) (fun b hb=>?_);refine ak (fun h=>?_) (fun h=>?_)
   ·have hd':d'=false:=by cases d' with
     |false=>rfl
     |true=>cases h
    have pE:pO c.cG<pO x.cG:=by rw[hb hd',hd']at h;simpa using h
    obtain⟨h1,h2⟩:=hd hd';refine aV (aK (xt (by omega) (by decide)) (ax (put _ true (fun y hy=>?_) (g2.snoc (g5 h1)) (by have:=g4 h1;simp;omega) (by simp) (by simp) (fun y hy=>?_))))
    ·rcases List.mem_append.1 hy with hy|hy
     ·exact g1 y hy
     ·simp at hy;exact .inr hy
    ·rcases List.mem_append.1 hy with hy|hy
     ·exact hx6 y hy
     ·simp at hy;subst hy;exact pE
   ·refine ax (put t d' g1 g2 g3 (fun e=>?_) (fun e=>?_) hx6)
    ·obtain⟨h1,h2⟩:=hd e
     exact⟨g4 h1,g5 h1⟩
    ·obtain⟨h1,h2⟩:=hd e
     rw[hb e,e]at h;have:¬pO c.cG<pO x.cG:=by simpa using h
     omega
  refine cS (ak (fun h=>ax (k3 true (by simp))) (fun h=>ax (k3 dn (fun e=>⟨e,of_decide_eq_false h⟩))))
 ·rintro⟨t,dn⟩ ⟨g1,g2,g3,g4,g5,g6⟩
  dsimp only at g1 g2 g3 g4 g5 g6 ⊢;rw[Int.toNat_natCast]at g3 g4
  have mem:∀x∈t,x∈l:=fun x hx=>by
   rcases g1 x hx with h|rfl
   ·exact s2 x h
   ·exact c2
  refine cS (ak (fun h=>?_) (fun h=>?_))
  ·have hd:dn=false:=by simpa using h
   have:=g4 hd;refine aV (aK (xt (by omega) (by decide)) (ax (ax (ax (ah ⟨g2.snoc (g5 hd),fun x hx=>?_,by simp;omega⟩)))));rcases List.mem_append.1 hx with hx|hx
   ·exact mem x hx
   ·simp at hx;subst hx;exact c2
  ·exact ax (ax (ax (ah ⟨g2,mem,by omega⟩)))
theorem RF{l:List aq}(hl:l.length≤9223372036854775807)(hd:∀c∈l,ChD c):Wp (jr l 10) fun r=>Ru r∧(∀c∈r,AF c)∧r.length≤10:=by
 unfold jr;refine ly (fun s=>0≤s.2∧s.2≤10∧s.1.length≤s.2.toNat∧∀c∈s.1,AF c) (fun s=>(10-s.2).toNat) ⟨Int.le_refl _,by dsimp only;decide,by simp,by simp⟩ (by dsimp only;decide) ?_;rintro⟨out,k⟩ ⟨k0,k1,k2,k3⟩;dsimp only at k0 k1 k2 k3 ⊢;refine ak (fun hb=>?_) (fun hb=>ah (cR ?_))
 ·obtain⟨Ky,Co⟩:k<(l.length:Int)∧k<10:=by simpa using hb
  refine cS (fI k0 Ky (fun c c1 c2=>?_));have h:=hd c c2;have q0:=h.k0;have q1:=h.k1;have u8a:IntKind.wrap .u8 (c.cG.bw % 9+9)=c.cG.bw % 9+9:=wrap_u8 (by omega) (by omega);rw[u8a];obtain⟨kd,hkd,kd1,kd9⟩:∃kd:Int,IntKind.wrap .u8 (1+(c.cG.bw % 9+9) % 9)=kd∧1≤kd∧kd≤9:=⟨_,rfl,by rw[wrap_u8 (by omega) (by omega)];omega,by rw[wrap_u8 (by omega) (by omega)];omega⟩;refine aK ⟨q0,by decide⟩ (aK (by omega) ?_);refine au (qL h.a (by decide) (by decide)) (fun a ha=>?_);refine au (qL h.n (by decide) (by decide)) (fun n hn=>?_)
  have fin:∀(b t d:Int) (ar:List Int),AF ⟨⟨kd,a,b,n⟩,t,d,ar⟩→Wp (dR out k c a n (b,t,d,ar)) (Rdn (fun s=>(0≤s.2∧s.2≤10∧s.1.length≤s.2.toNat∧∀c∈s.1,AF c)∧(10-s.2).toNat<(10-k).toNat) fun e=>Wp (wk [.z 10001]<|Bi (lh e) fun Nq=>some Nq) fun r=>Ru r∧(∀c∈r,AF c)∧r.length≤10):=by
   intro b t d ar Cj;unfold dR;rw[u8a,hkd];refine cR (aV (aK (xt (by omega) (by decide)) (ax (ax (ah ?_)))));rw[wrap_i64 (n:=k+1) (by omega) (by omega)];refine⟨⟨by dsimp only;omega,by dsimp only;omega,by simp;omega,fun x hx=>?_⟩,by dsimp only;omega⟩;rcases List.mem_append.1 hx with hx|hx
   ·exact k3 x hx
   ·simp at hx;subst hx;exact Cj
  have mk:∀{b t d:Int} {ar:List Int},0≤b∧b<3→(kd=2∨kd=3∨kd=4∨kd=8∨kd=9→b=0)→0≤t∧t<13→(5≤kd→t=0)→0≤d∧d≤5→(kd=1∨kd=4∨kd=5∨kd=8→d=0)→(kd=3∨kd=6∨kd=9→1≤d)→(kd=2→d≤1)→(kd=3→d≤3)→ar.length≤2→(kd≠1→ar = [])→(∀x∈ar,I6 x)→AF ⟨⟨kd,a,b,n⟩,t,d,ar⟩:=by
   intro b t d ar hb hbz ht htz hd hdz hdp hd2 hd3 Wo harz hari;exact⟨kd1,kd9,ha.1,by dsimp only;omega,hb.1,by dsimp only;omega,hn.1,by dsimp only;omega,hbz,ht.1,by dsimp only;omega,htz,hd.1,hd.2,hdz,hdp,hd2,hd3,Wo,harz,hari⟩
  rw[hkd];have eqk:∀{v:Int},(kd==v)=true→kd=v:=fun h=>by simpa using h
  have nek:∀{v:Int},(kd==v)=false→kd≠v:=fun h=>by simpa using h
  refine cS (ak (fun h1=>?_) (fun h1=>?_))
  ·have:=eqk h1
   have Cw:c.bR.length≤c.bR.length:=Nat.le_refl _;refine au (qL h.b (by decide) (by decide)) (fun b hb=>?_);refine au (qL h.at_ (by decide) (by decide)) (fun t ht=>?_)
   have hal:(List.take (Int.toNat (if 2<(c.bR.length:Int)then 2 else(c.bR.length:Int))) c.bR).length≤2:=by
    rw[List.length_take];split <;> omega
   refine aK (by unfold eN;split <;> omega) (aK (Ed (by omega) (by decide)) (ax (fin _ _ _ _ (mk hb (by omega) ht (by omega) (by omega) (by omega) (by omega) (by omega) (by omega) hal (by omega) (fun x hx=>h.args x (List.mem_of_mem_take hx))))))
  have e1:=nek h1;refine ak (fun h2=>?_) (fun h2=>?_)
  ·have:=eqk h2
   refine au (qL h.at_ (by decide) (by decide)) (fun t ht=>au (qL h.d (by decide) (by decide)) (fun d hd=>ax (fin _ _ _ _ (mk (by omega) (by omega) ht (by omega) (by omega) (by omega) (by omega) (by omega) (by omega) (by simp) (by simp) (by simp)))))
  have e2:=nek h2;refine ak (fun h3=>?_) (fun h3=>?_)
  ·have:=eqk h3
   refine au (qL h.at_ (by decide) (by decide)) (fun t ht=>au (qL h.d (by decide) (by decide)) (fun d hd=>?_));rw[wrap_i64 (n:=1+d) (by omega) (by omega)];exact ax (fin _ _ _ _ (mk (by omega) (by omega) ht (by omega) (by omega) (by omega) (by omega) (by omega) (by omega) (by simp) (by simp) (by simp)))
  have e3:=nek h3;refine ak (fun h4=>?_) (fun h4=>?_)
  ·have:=eqk h4
   refine au (qL h.at_ (by decide) (by decide)) (fun t ht=>ax (fin _ _ _ _ (mk (by omega) (by omega) ht (by omega) (by omega) (by omega) (by omega) (by omega) (by omega) (by simp) (by simp) (by simp))))
  have e4:=nek h4;refine ak (fun h5=>?_) (fun h5=>?_)
  ·have:=eqk h5
   refine au (qL h.b (by decide) (by decide)) (fun b hb=>ax (fin _ _ _ _ (mk (by omega) (by omega) (by omega) (by omega) (by omega) (by omega) (by omega) (by omega) (by omega) (by simp) (by simp) (by simp))))
  have e5:=nek h5;refine ak (fun h6=>?_) (fun h6=>?_)
  ·have:=eqk h6
   refine au (qL h.b (by decide) (by decide)) (fun b hb=>au (qL h.d (by decide) (by decide)) (fun d hd=>?_));rw[wrap_i64 (n:=1+d) (by omega) (by omega)];exact ax (fin _ _ _ _ (mk (by omega) (by omega) (by omega) (by omega) (by omega) (by omega) (by omega) (by omega) (by omega) (by simp) (by simp) (by simp)))
  have e6:=nek h6;refine ak (fun h7=>?_) (fun h7=>?_)
  ·have:=eqk h7
   refine au (qL h.b (by decide) (by decide)) (fun b hb=>au (qL h.d (by decide) (by decide)) (fun d hd=>ax (fin _ _ _ _ (mk (by omega) (by omega) (by omega) (by omega) (by omega) (by omega) (by omega) (by omega) (by omega) (by simp) (by simp) (by simp)))))
  have e7:=nek h7;refine ak (fun h9=>?_) (fun h9=>?_)
  ·have:=eqk h9
   refine au (qL h.d (by decide) (by decide)) (fun d hd=>?_);rw[wrap_i64 (n:=1+d) (by omega) (by omega)];exact ax (fin _ _ _ _ (mk (by omega) (by omega) (by omega) (by omega) (by omega) (by omega) (by omega) (by omega) (by omega) (by simp) (by simp) (by simp)))
  have e9:=nek h9;exact ax (fin _ _ _ _ (mk (by omega) (by omega) (by omega) (by omega) (by omega) (by omega) (by omega) (by omega) (by omega) (by simp) (by simp) (by simp)))
 ·refine au (acB (by omega) (fun x hx=>(k3 x hx).kb)) ?_
  rintro r ⟨r1,r2,r3⟩;exact ah ⟨r1,fun c hc=>k3 c (r2 c hc),by omega⟩
theorem zB{x a b:Int}(h:a≤x∧x≤b):mu x a b=some true:=by
 unfold mu;rw[decide_eq_true h.1,decide_eq_true h.2];rfl
theorem OU{k:aH}{b:Int}(ha:0≤k.gA∧k.gA≤7)(hb:0≤k.gB∧k.gB≤b)(hn:0≤k.gN∧k.gN≤65535):jj k b=some 0 :=
 ca (aA (zB ha) (gh rfl (zB hb) (gh rfl (zB hn) (ak (fun h=>by cases h) (fun _=>ah rfl)))))
theorem xR{x v:Int}(h:(x==v)=true):x=v:=by simpa using h
theorem wC{x v:Int}(h:(x==v)=false):x≠v:=by simpa using h
theorem Pj{c:aq}(h:AF c):sa c.cG=some 0:=by
 obtain⟨k0,k1,a0,a1,b0,b1,n0,n1,bz,_⟩:=h;have k7:jj c.cG 7=some 0:=OU ⟨a0,by omega⟩ ⟨b0,by omega⟩ ⟨n0,by omega⟩;have kz:c.cG.gB=0→jj c.cG 0=some 0:=fun e=>OU ⟨a0,by omega⟩ ⟨b0,by omega⟩ ⟨n0,by omega⟩
 have k2:∀b:Bool,(b=false→c.cG.gB=0)→Wp (pv c.cG b) (· = 0):=fun b hb=>ak (fun _=>ax (qB k7)) (fun h=>ax (qB (kz (hb h))))
 unfold sa;refine ca (ak (fun h=>by simp at h;omega) (fun _=>cS (ak (fun _=>ax (qB k7)) (fun h1=>ak (fun h2=>ax (qB (kz ?_))) (fun h2=>cS ?_)))))
 ·have:=xR h2;omega
 ·have:=wC h1;have:=wC h2
  refine ak (fun h5=>ax (k2 _ ?_)) (fun h5=>ak (fun h6=>ax (k2 _ ?_)) (fun h6=>ax (k2 _ ?_)))
  ·intro e;rw[e]at h5;cases h5
  ·intro e;rw[e]at h6;cases h6
  ·intro e;have:=wC e;have:=wC h5;have:=wC h6;omega
theorem Ch{c:aq}{a:Int}{s:Int×Int×Int}(ha:0≤c.AN∧c.AN≤a)(hd:s.1≤c.gD∧c.gD≤s.2.1)(hl:(c.bR.length:Int)≤s.2.2):lx c a s=some 0 :=
 ca (aA (zB ha) (gh rfl (zB hd) (ak (fun h=>by simp at h;omega) (fun _=>ah rfl))))
theorem ZA{c:aq}(h:AF c):tS c=some 0:=by
 have hk:=Pj h;obtain⟨k0,k1,a0,a1,b0,b1,n0,n1,bz,t0,t1,tz,d0,d1,dz,dp,d2,d3,ar,arz,_⟩:=h;have l0:c.cG.bw≠1→(c.bR.length:Int)≤0:=fun e=>by rw[arz e];exact Int.le_refl _
 unfold tS
 have K3:∀(a:Int) (b:Bool),c.AN≤a→b=(decide (c.cG.bw=6)||decide (c.cG.bw=9))→c.cG.bw≠1→c.cG.bw≠2→c.cG.bw≠3→Wp (uC c a b) (· = 0):=by
  intro a b ha hb h1 h2 h3;have l0:=l0 h1;refine ak (fun h=>ax (qB (Ch ⟨t0,ha⟩ ⟨?_,?_⟩ l0))) (fun h=>ak (fun h7=>ax (qB (Ch ⟨t0,ha⟩ ⟨d0,by dsimp only;omega⟩ l0))) (fun h7=>ax (qB (Ch ⟨t0,ha⟩ ⟨d0,?_⟩ l0))))
  ·rw[h]at hb
   have:c.cG.bw=6∨c.cG.bw=9:=by simpa using hb.symm
   dsimp only;omega
  ·dsimp only;omega
  ·rw[h]at hb
   have:¬(c.cG.bw=6∨c.cG.bw=9):=by have:=hb.symm;simp at this;omega
   have:=wC h7;dsimp only;omega
 have K1:∀a:Int,c.AN≤a→Wp (uD c a) (· = 0):=by
  intro a ha;refine cS (ak (fun h=>ax (qB (Ch ⟨t0,ha⟩ ⟨d0,?_⟩ (by dsimp only;omega)))) (fun h1=>ak (fun h=>ax (qB (Ch ⟨t0,ha⟩ ⟨d0,?_⟩ (l0 (wC h1))))) (fun h2=>ak (fun h=>ax (qB (Ch ⟨t0,ha⟩ ⟨?_,?_⟩ (l0 (wC h1))))) (fun h3=>cS ?_))))
  ·have:=xR h;dsimp only;omega
  ·have:=xR h;dsimp only;omega
  ·have:=xR h;dsimp only;omega
  ·have:=xR h;dsimp only;omega
  ·have e1:=wC h1;have e2:=wC h2;have e3:=wC h3
   refine ak (fun h=>ax (K3 a _ ha ?_ e1 e2 e3)) (fun h=>ax (K3 a _ ha ?_ e1 e2 e3))
   ·rw[xR h];rfl
   ·have:=wC h;simp[this];rfl
 refine ca (aA hk (ak (fun h=>by cases h) (fun _=>cS ?_)));unfold xS;refine od (ah (ak (fun h=>ax (K1 200 (by omega))) (fun h=>ax (K1 0 ?_))));have:¬(c.cG.bw=1∨c.cG.bw=2∨c.cG.bw=3∨c.cG.bw=4):=by simp at h;omega
 have:=tz (by omega);omega
theorem qz(a b:Int):eM a b=some (if a<b then -1 else if b<a then 1 else 0):=by
 unfold eM oD;refine ca (aA (x:=false) (by simp) (aA (x:=false) (by simp) (ak (fun h=>by cases h) (fun _=>ak (fun h=>by cases h) (fun _=>ak (fun h=>?_) (fun h=>ak (fun h2=>?_) (fun h2=>?_)))))))
 ·have:a<b:=by simpa using h
  exact ah (by rw[if_pos this])
 ·have h1:¬a<b:=by simpa using h
  have h2:b<a:=by simpa using h2
  exact ah (by rw[if_neg h1,if_pos h2])
 ·have h1:¬a<b:=by simpa using h
  have h2:¬b<a:=by simpa using h2
  exact ah (by rw[if_neg h1,if_neg h2])
theorem Tj(a b:Int):mR a b=some (if a<b then -1 else if b<a then 1 else 0):=by
 unfold mR pt;refine ca (aA (x:=false) (by simp) (aA (x:=false) (by simp) (ak (fun h=>by cases h) (fun _=>ak (fun h=>by cases h) (fun _=>ak (fun h=>?_) (fun h=>ak (fun h2=>?_) (fun h2=>?_)))))))
 ·have:a<b:=by simpa using h
  exact ah (by rw[if_pos this])
 ·have h1:¬a<b:=by simpa using h
  have h2:b<a:=by simpa using h2
  exact ah (by rw[if_neg h1,if_pos h2])
 ·have h1:¬a<b:=by simpa using h
  have h2:¬b<a:=by simpa using h2
  exact ah (by rw[if_neg h1,if_neg h2])
def Sq:List Int→Int
 |[]=>0
 |a::l=>if a≠0 then a else Sq l
theorem XB:∀(l:List Int) (j:Nat) (v:Int),(∀k<j,l[k]? = some 0)→l[j]? = some v→v≠0→Sq l=v
 |[],j,v,_,h,_=>by simp at h
 |a::l,0,v,_,h,hv=>by simp at h;subst h;unfold Sq;rw[if_pos hv]
 |a::l,j+1,v,h0,h,hv=>by
  have:=h0 0 (by omega);simp at this;subst this;unfold Sq;rw[if_neg (by simp)];exact XB l j v (fun k hk=>by have:=h0 (k+1) (by omega);simpa using this) (by simpa using h) hv
theorem adp:∀(l:List Int),(∀a∈l,a=0)→Sq l=0
 |[],_=>rfl
 |a::l,h=>by
  have:=h a (by simp);subst this;unfold Sq;rw[if_neg (by simp)];exact adp l (fun b hb=>h b (by simp[hb]))
theorem BN{l:List Int}(hl:l.length≤1000):tv l=some (Sq l):=by
 unfold tv;refine ca (eI (fun j _=>∀k,k<j→l[k]? = some 0) (by unfold m64;omega) (fun k h=>by omega) ?_ ?_)
 ·intro j _ hj hI
  refine bJ hj (fun v v1 v2=>ak (fun h=>ah (ah ?_)) (fun h=>ax (ah ?_)))
  ·have:v≠0:=by simpa using h
   exact(XB l j v hI v1 this).symm
  ·have hv:v=0:=by simpa using h
   intro k hk;rcases Nat.lt_or_ge k j with h|h
   ·exact hI k h
   ·obtain rfl:k=j:=by omega
    rw[v1,hv]
 ·intro _ hI
  rw[Int.toNat_natCast]at hI;refine ah (adp l (fun a ha=>?_)).symm;obtain⟨k,hk,rfl⟩:=List.getElem_of_mem ha;have:=hI k hk;rw[List.getElem?_eq_getElem hk]at this;exact Option.some.inj this
theorem Hz{x y:aH}(hx:KB x)(hy:KB y):Wp (ld x y) fun v=>(v<0↔pO x<pO y)∧(v=0↔pO x=pO y):=by
 obtain⟨a0,a1,b0,b1,n0,n1⟩:=hx;obtain⟨c0,c1,d0,d1,m0,m1⟩:=hy;have sg:∀a b:Int,∃v:Int,(if a<b then(-1:Int)else if b<a then 1 else 0)=v∧(v<0↔a<b)∧(v=0↔a=b):=fun a b=>⟨_,rfl,by split;omega;split <;> omega,by split;omega;split <;> omega⟩
 obtain⟨v1,e1,f1,g1⟩:=sg x.bw y.bw;obtain⟨v2,e2,f2,g2⟩:=sg x.gA y.gA;obtain⟨v3,e3,f3,g3⟩:=sg x.gB y.gB;obtain⟨v4,e4,f4,g4⟩:=sg x.gN y.gN;unfold ld;rw[Tj,qz,qz,qz,e1,e2,e3,e4];refine aA rfl (aA rfl (aA rfl (aA rfl (aV (aA (BN (by simp)) (ah ?_))))));unfold pO
 by_cases h1:v1=0
 ·by_cases h2:v2=0
  ·by_cases h3:v3=0
   ·by_cases h4:v4=0
    ·simp only[Sq,h1,h2,h3,h4];simp;omega
    ·simp only[Sq,h1,h2,h3];simp[h4];omega
   ·simp only[Sq,h1,h2];simp[h3];omega
  ·simp only[Sq,h1];simp[h2];omega
 ·simp only[Sq];simp[h1];omega
theorem HA{c:aq}(h:AF c):rK c=some c:=by
 have:=h.ar;unfold rK;exact ca (aK (Ed (by omega) (by decide)) (cR (ah rfl)))
theorem anB{b:ByteArray}{i:Int}(h0:0≤i)(h1:i<b.size):Wp (Ah b i) fun _=>True:=by
 unfold Ah;rw[if_pos h0,getElem?_pos b i.toNat (by omega)];exact⟨_,rfl,trivial⟩
theorem u8r(x:Int):0≤IntKind.wrap .u8 x∧IntKind.wrap .u8 x<256:=by
 show 0≤x % 256∧x % 256<256;omega
theorem Ml(x:Int):Gw (oB x):=by
 unfold oB uA;have k3:∀s,Wp (rA s) fun _=>True:=fun s=>au (anB (u8r _).1 (u8r _).2) (fun _ _=>ah trivial)
 have k2:∀s,Wp (rB s) fun _=>True:=fun s=>cS (ak (fun _=>ax (k3 _)) (fun _=>ax (k3 _)))
 have k1:∀s,Wp (rD s) fun _=>True:=fun s=>cS (ak (fun _=>ax (k2 _)) (fun _=>ax (k2 _)))
 exact au (P:=fun _=>True) (cS (ak (fun _=>ax (k1 _)) (fun _=>ax (k1 _)))) (fun _ _=>ah trivial)
theorem Ug{l:List aq}(hl:l.length≤10)(hs:Ru l)(hk:∀c∈l,AF c):eX l=some l:=by
 unfold eX;refine ca (au (Ml _) (fun v _=>aA (x:=l) ?_ (aI (ah rfl))));unfold cl gZ;refine ca (KM (ak (fun _=>aA (x:=l) ?_ (aI (ah rfl))) (fun h=>?_)))
 ·unfold cl fQ
  refine ca (ly (fun s=>s.1=l∧1≤s.2∧s.2≤100) (fun s=>(100-s.2).toNat) ⟨rfl,by dsimp only;decide,by dsimp only;decide⟩ (by dsimp only;decide) ?_);rintro⟨s,i⟩ ⟨rfl,i1,i2⟩;dsimp only at i1 i2 hl hs hk ⊢;refine ak (fun hb=>?_) (fun _=>ah (aI (ah rfl)));have hi:i<(s.length:Int):=by simpa using hb
  refine ly (fun t=>t=(s,i)) (fun _=>0) rfl (by decide) ?_;rintro _ rfl;dsimp only;rw[wrap_i64 (n:=i-1) (by omega) (by omega)];obtain⟨x,x1,x2,x3⟩:=mc (xs:=s) (i:=i) (by omega) hi;obtain⟨y,y1,y2,y3⟩:=mc (xs:=s) (i:=i-1) (by omega) (by omega);have pE:=hs.ix y2 x2 (by omega);refine gh (by simp;omega) x1 (gh (by simp;omega) y1 ?_);refine au (P:=fun v=>¬v<0) (ia (fun _=>?_) (fun h=>by simp at h;omega)) (fun v hv=>?_)
  ·unfold xT
   exact au (Hz (hk x x3).kb (hk y y3).kb) (fun v hv=>ah (by have:=hv.1;omega))
  ·refine ak (fun h=>by simp at h;omega) (fun _=>ah ?_)
   rw[wrap_i64 (n:=i+1) (by omega) (by omega)];exact ax (ah ⟨⟨rfl,by dsimp only;omega,by dsimp only;omega⟩,by dsimp only;omega⟩)
 ·rw[wrap_i64 (by omega) (by omega)]at h
  simp at h;omega
theorem afj{l:List aq}(hl:l.length≤10)(hs:Ru l)(hk:∀c∈l,AF c):yH l=some (⟨l⟩,0):=by
 unfold yH;refine ca (eI (fun _ _=>True) (by unfold m64;omega) trivial ?_ ?_)
 ·intro j _ hj _
  exact bJ hj (fun c _ c2=>aA (ZA (hk c c2)) (ak (fun h=>by cases h) (fun _=>ax (ah trivial))))
 intro _ _;refine aK (by unfold iJ;omega) (aV ?_);refine cw (fun j s=>MI (fun a b=>b=a) l j s) (by unfold m64;omega) MI.zero ?_ ?_
 ·intro j s hj h
  exact bJ hj (fun c c1 c2=>aA (HA (hk c c2)) (aV (aK (xt (by have:=h.1;omega) (by decide)) (ax (ah (h.snoc c1 rfl))))))
 intro s hm;rw[Int.toNat_natCast]at hm;have:=Rg (f:=id) hm (fun a b _ h=>h);rw[List.map_id]at this;subst this;refine aA (by unfold cl;exact Ug hl hs hk) ?_;refine ly (fun s'=>1≤s'∧s'≤100) (fun s'=>(100-s').toNat) ⟨by decide,by decide⟩ (by decide) ?_;rintro i ⟨i1,i2⟩;refine ak (fun hb=>?_) (fun _=>ah (ak (fun h=>by simp at h;omega) (fun _=>ah rfl)));have hi:i<(s.length:Int):=by simpa using hb
 rw[wrap_i64 (n:=i-1) (by omega) (by omega)];obtain⟨x,x1,x2,x3⟩:=mc (xs:=s) (i:=i) (by omega) hi;obtain⟨y,y1,y2,y3⟩:=mc (xs:=s) (i:=i-1) (by omega) (by omega);have pE:=hs.ix y2 x2 (by omega);refine aA x1 (aA y1 ?_);rw[Yh (hk x x3).kb (hk y y3).kb,decide_eq_false (by omega)];refine ak (fun h=>by cases h) (fun _=>ax (ah ?_));rw[wrap_i64 (n:=i+1) (by omega) (by omega)];exact⟨by omega,by omega⟩
def ArD(a:bZ):Prop:=I6 a.AN∧I6 a.bM∧∀x∈a.bR,I6 x
def HdD(h:aU):Prop:=I6 h.cu.gS∧I6 h.cu.uS∧I6 h.cu.gN∧∀a∈h.gY,ArD a
structure ZD(a:bZ):Prop where
 t0:1≤a.AN
 t1:a.AN≤100
 h0:0≤a.bM
 h1:a.bM≤3
 al:a.bR.length≤2
 args:∀x∈a.bR,I6 x
structure Zy(h:aU):Prop where
 f0:0≤h.cu.gS
 f1:h.cu.gS≤2
 t0:0≤h.cu.uS
 t1:h.cu.uS≤2
 n0:0≤h.cu.gN
 n1:h.cu.gN≤3
 al:h.gY.length≤2
 ar:∀a∈h.gY,ZD a
 up:h.gY.Pairwise fun a b=>a.AN≤b.AN
def afk(a b:aU):Prop:=¬(a.cu.gS=b.cu.gS∧a.cu.uS=b.cu.uS∧a.cu.gN=b.cu.gN)
theorem Zw{l:List aU}(hl:l.length≤9223372036854775807)(hd:∀h∈l,HdD h):Wp (kp l 3) fun r=>(∀h∈r,Zy h)∧r.length≤3∧r.Pairwise afk:=by
 unfold kp;refine ly (fun s=>0≤s.2∧s.2≤3∧s.1.length≤s.2.toNat∧(∀h∈s.1,Zy h)∧s.1.Pairwise afk) (fun s=>(3-s.2).toNat) ⟨Int.le_refl _,by dsimp only;decide,by simp,by simp,List.Pairwise.nil⟩ (by dsimp only;decide) ?_;rintro⟨out,k⟩ ⟨k0,k1,k2,k3,k4⟩;dsimp only at k0 k1 k2 k3 k4 ⊢;refine ak (fun hb=>?_) (fun hb=>ah (cR (ah ⟨k3,by omega,k4⟩)));obtain⟨Ky,Co⟩:k<(l.length:Int)∧k<3:=by simpa using hb
 have wk1:IntKind.wrap .i64 (k+1)=k+1:=wrap_i64 (by omega) (by omega);obtain⟨h,h1,_,h3⟩:=mc (xs:=l) k0 Ky;obtain⟨d1,d2,d3,d4⟩:=hd h h3;refine cS (aA h1 ?_);refine au (qL d1 (by decide) (by decide)) (fun f hf=>au (qL d2 (by decide) (by decide)) (fun t ht=>au (qL d3 (by decide) (by decide)) (fun n hn=>?_)));refine cw (fun j s=>s=false→∀(i:Nat) (x:aU),i<j→out[i]? = some x→¬(x.cu.gS=f∧x.cu.uS=t∧x.cu.gN=n)) (by unfold m64;omega) (fun _ i x hi=>by omega) ?_ ?_
 ·intro j s hj hs
  refine bJ hj (fun x x1 x2=>ax (ah (fun e i y hi hy=>?_)));rw[Bool.or_eq_false_iff]at e;rcases Nat.lt_or_ge i j with pE|hge
  ·exact hs e.1 i y pE hy
  ·obtain rfl:i=j:=by omega
   rw[x1]at hy;obtain rfl:=Option.some.inj hy;rintro⟨q1,q2,q3⟩;have:=e.2;rw[q1,q2,q3]at this;simp at this
 intro s hs;rw[Int.toNat_natCast]at hs;refine ak (fun h'=>?_) (fun h'=>?_)
 ·refine ax (ax (ah ?_))
  rw[wk1];exact⟨⟨by dsimp only;omega,by dsimp only;omega,by dsimp only;omega,k3,k4⟩,by dsimp only;omega⟩
 have pQ:=hs h';refine ly (fun q=>1≤q.1∧q.1≤1+7*q.2.1∧0≤q.2.1∧q.2.1≤2∧q.2.2.length=q.2.1.toNat∧(∀a∈q.2.2,ZD a∧a.AN≤q.1)∧q.2.2.Pairwise fun a b=>a.AN≤b.AN) (fun q=>(2-q.2.1).toNat) ⟨Int.le_refl _,by dsimp only;decide,Int.le_refl _,by dsimp only;decide,rfl,by simp,List.Pairwise.nil⟩ (by dsimp only;decide) ?_;rintro⟨last,i,ar⟩ ⟨l0,l1,i0,i1,al,aok,aup⟩;dsimp only at l0 l1 i0 i1 al aok aup ⊢;refine aA h1 ?_;refine ak (fun hb=>?_) (fun hb=>?_)
 ·obtain⟨Ky,Co⟩:i<(h.gY.length:Int)∧i<2:=by simpa using hb
  refine fI i0 Ky (fun a a1 a2=>?_);obtain⟨e1,e2,e3⟩:=d4 a a2;refine au (qL e1 (by decide) (by decide)) (fun at_ Jc=>au (qL e2 (by decide) (by decide)) (fun hd hhd=>?_))
  have Nr:(List.take (Int.toNat (if 2<(a.bR.length:Int)then 2 else(a.bR.length:Int))) a.bR).length≤2:=by
   rw[List.length_take];split <;> omega
  rw[wrap_i64 (n:=last+at_) (by omega) (by omega),wrap_i64 (n:=i+1) (by omega) (by omega)];refine aK (by unfold eN;split <;> omega) (aK (Ed (by omega) (by decide)) (aV (aK (xt (by omega) (by decide)) (ax (ah ⟨⟨by dsimp only;omega,by dsimp only;omega,by dsimp only;omega,by dsimp only;omega,by simp;omega,fun x hx=>?_,?_⟩,by dsimp only;omega⟩)))))
  ·rcases List.mem_append.1 hx with hx|hx
   ·have:=aok x hx
    exact⟨this.1,by dsimp only;omega⟩
   ·simp at hx;subst hx
    exact⟨⟨by dsimp only;omega,by dsimp only;omega,hhd.1,by dsimp only;omega,Nr,fun y hy=>e3 y (List.mem_of_mem_take hy)⟩,Int.le_refl _⟩
  ·dsimp only
   rw[List.pairwise_append];refine⟨aup,by simp,fun x hx y hy=>?_⟩;simp at hy;subst hy;have:=(aok x hx).2;dsimp only;omega
 ·refine ah (cR (aV (aK (xt (by omega) (by decide)) (ax (ax (ah ?_))))))
  rw[wk1];refine⟨⟨by dsimp only;omega,by dsimp only;omega,by simp;omega,fun x hx=>?_,?_⟩,by dsimp only;omega⟩
  ·rcases List.mem_append.1 hx with hx|hx
   ·exact k3 x hx
   ·simp at hx;subst hx
    exact⟨hf.1,by dsimp only;omega,ht.1,by dsimp only;omega,hn.1,by dsimp only;omega,by dsimp only;omega,fun a ha=>(aok a ha).1,aup⟩
  ·dsimp only
   rw[List.pairwise_append];refine⟨k4,by simp,fun x hx y hy=>?_⟩;simp at hy;subst hy;obtain⟨m,hm,rfl⟩:=List.getElem_of_mem hx;exact pQ m _ hm (List.getElem?_eq_getElem hm)
structure AE(F:cH):Prop where
 tree:∃gP,Dk gP F.qn
 prog:aij F.qn.aF.length F.yw
theorem aik{gP:List (List Int)}{f:bj}(hf:Dk gP f):Wp (BL f) fun r=>∃F,r = .inl F∧AE F:=by
 unfold BL;refine au (aQ (RD hf)) ?_;rintro _ ⟨p,rfl,hp⟩;refine CP (fun q hq=>?_) (fun q hq=>by cases hq);cases hq;refine au (Zu hf) (fun s hs=>?_);refine aA (acQ hf) (aK (by omega) ?_);exact au (afb (by rw[Fg];omega)) (fun d _=>cR (aI (ah ⟨_,rfl,⟨gP,hf⟩,hp⟩)))
structure Ma(w:dA):Prop where
 anG:Mh w.JM
 cl:w.je.length≤9223372036854775807
 cs:∀c∈w.je,ChD c
 hl:w.ql.length≤9223372036854775807
 hs:∀h∈w.ql,HdD h
 z0:0≤w.mL
 z1:w.mL≤255
structure yJ(i:dt):Prop where
 fl:AE i.fx
 srt:Ru i.je.aW
 ch:∀c∈i.je.aW,AF c
 cl:i.je.aW.length≤10
 hd:∀h∈i.ql,Zy h
 hl:i.ql.length≤3
 hn:i.ql.Pairwise afk
 z0:0≤i.mL
 z1:i.mL≤12
theorem acH{w:dA}(hw:Ma w):Wp (nS w) fun r=>yJ r.1∧r.2.2=true:=by
 have z0:=hw.z0;have z1:=hw.z1;unfold nS;refine au (P:=fun r=>∃F t,r = .inl (F,t)∧AE F) (aQ ?_) ?_
 ·unfold qu
  refine au (ZC hw.anG) (fun t ht=>au (Vw ht) ?_);rintro f ⟨gP,hf⟩;refine au (aQ (aik hf)) ?_;rintro _ ⟨F,rfl,hF⟩;refine CP (fun q hq=>?_) (fun q hq=>by cases hq);cases hq;exact aI (ah ⟨F,t,rfl,hF⟩)
 ·rintro _ ⟨F,t,rfl,hF⟩
  refine CP (fun q hq=>?_) (fun q hq=>by cases hq);cases hq;refine au (RF hw.cl hw.cs) ?_;rintro c ⟨c1,c2,c3⟩;refine aA (x:=(⟨c⟩,true)) ?_ ?_
  ·unfold oY
   exact ca (aA (afj c3 c1 c2) (ah rfl))
  refine au (Zw hw.hl hw.hs) ?_;rintro h ⟨h1,h2,h3⟩;refine aK ⟨z0,by decide⟩ (ah ⟨?_,rfl⟩);rw[wrap_i64 (by omega) (by omega)];exact⟨hF,c1,c2,c3,h1,h2,h3,by dsimp only;omega,by dsimp only;omega⟩
open Go.RowKit Go.Lib
section
variable {P:Program}
theorem vM{w:World}{b:Nat}{cur:Array Value}{E:TypeId}(h:w.heap[b]? = some (.cells cur E (0,0))){j:Nat}{v:Value}(hj:cur.toList[j]? = some v):w.cell? ⟨b,j,none⟩=some v:=by
 rw[Array.getElem?_toList]at hj;simp[World.cell?,h,hj]
theorem wN(w:World)(dT sT ty elem:TypeId)(sz g o af4 aqe:Nat)(a:Addr)(HW aae:Nat)(cur:Array Value)(t:TypeId)(cs:List Value)
  (hu:P.underlying dT=some (.slice elem)) (hs:(P.info? elem).map (·.size)=some sz)
  (hg:w.heap[g]? = some (.cells cur t (0,0))) (hn:cs.length=Nat.min HW af4*sz)
  (RO:∀j v,cs[j]? = some v→w.cell? (a.add j)=some v) (ZP:o+cs.length≤cur.size) (h1:∀v∈cs,v.oneCell'=true) :
  (Builtin.copy_ #[dT,sT] ty #[.slice (some ⟨g,o,none⟩) af4 aqe,.slice (some a) HW aae]).run P w =
   .ok (goInt (Nat.min HW af4)) (w.setRow g (cur.toList.take o++cs++cur.toList.drop (o+cs.length)).toArray):=by
 have hl:=run_loadCells_list (P:=P) w a cs RO;have yL:=run_storeCells_at P g o t cs 0 cur w hg (by simpa using ZP) h1;cases hq:P.info? elem with
 |none=>simp[hq]at hs
 |some i=>
  have hi:i.size=sz:=by simpa [hq]using hs
  simp[Builtin.copy_,run_underlying hu,Builtin.lenOf,Builtin.firstCells,sizeOf,typeInfo,hq,hi,←hn,hl,yL]
theorem zG(w:World)(t tx ty e:TypeId)(i:TypeInfo)(ht:P.underlying t=some (.slice e))(hi:P.info? e=some i)(b HW aae:Nat)(x:Value)(n:Nat)(news:List Value)(hs:Go.Src P i.size tx x n news w)
  (si:HW+n≤aae) (cur:Array Value) (E:TypeId) (hg:w.heap[b]? = some (.cells cur E (0,0))) (ZP:HW*i.size+news.length≤cur.size) :
  (Builtin.append_ #[t,tx] ty #[.slice (some ⟨b,0,none⟩) HW aae,x]).run P w = .ok (.slice (some ⟨b,0,none⟩) (HW+n) aae) (w.setRow b (cur.toList.take (HW*i.size)++news++cur.toList.drop (HW*i.size+news.length)).toArray):=by
 have yL:=run_storeCells_at P b (HW*i.size) E news 0 cur w hg (by simpa using ZP) hs.one;simp only[Nat.add_zero]at yL;rcases hs.kind with⟨e',hk⟩ | hk <;> simp[Builtin.append_,run_underlying ht,run_underlying hk,sizeOf,typeInfo,hi,hs.len,si,hs.cells,Addr.add_lit,yL]
theorem CD{ops:Array Oper}{o:Oper}{a:Act}{w:World}{K:Act→World→Prop}{Q:Exit→Act→World→Prop}{E:Prop}
  (hg:o.guard=none) (d x:Operand) (dT sT:TypeId) (Jh:o.op=Op.call { callee:=Callee.builtin Builtin.copy,args:=#[d,x],argTypes:=#[dT,sT] })
  (v u:Value) (hd:a.eval d=v) (hx:a.eval x=u) {v':Value} {w':World} (hr:(Builtin.copy_ #[dT,sT] o.type #[v,u]).run P w = .ok v' w') (hK:K (a.put o.dst v') w') :
  if Region.wanted o (yielded ops a.tmps)=true then Oper.wp P o a w K Q else E:=by
 have hw:Region.wanted o (yielded ops a.tmps)=true:=by simp[Region.wanted,hg]
 rw[if_pos hw];unfold Oper.wp execOp;simp only[Jh,resolve,invoke,builtin,Sem.run_bind,Sem.run_pure,Result.andThen_ok,List.map_toArray,List.map_cons,List.map_nil,hd,hx,hr];exact hK
theorem AJ{ops:Array Oper}{o:Oper}{a:Act}{w:World}{K:Act→World→Prop}{Q:Exit→Act→World→Prop}{E:Prop}
  (hg:o.guard=none) (d x:Operand) (dT sT:TypeId) (Jh:o.op=Op.call { callee:=Callee.builtin Builtin.append,args:=#[d,x],argTypes:=#[dT,sT] })
  (v u:Value) (hd:a.eval d=v) (hx:a.eval x=u) {v':Value} {w':World} (hr:(Builtin.append_ #[dT,sT] o.type #[v,u]).run P w = .ok v' w') (hK:K (a.put o.dst v') w') :
  if Region.wanted o (yielded ops a.tmps)=true then Oper.wp P o a w K Q else E:=by
 have hw:Region.wanted o (yielded ops a.tmps)=true:=by simp[Region.wanted,hg]
 rw[if_pos hw];unfold Oper.wp execOp;simp only[Jh,resolve,invoke,builtin,Sem.run_bind,Sem.run_pure,Result.andThen_ok,List.map_toArray,List.map_cons,List.map_nil,hd,hx,hr];exact hK
theorem AI(w:World){ops:Array Oper}{rest:List Oper}{o:Oper}{a:Act}{Q:Exit→Act→World→Prop}(hgd:o.guard=none)(d s:Operand)(t t':TypeId)
  (ho:o.op = .call { callee:=.builtin .copy,args:=#[d,s],argTypes:=#[t,t'] }) (v u:Value) (hd:a.eval d=v) (hs:a.eval s=u) {v':Value} {w':World}
  (hr:(Builtin.copy_ #[t,t'] o.type #[v,u]).run P w = .ok v' w') (h:wpList P ops Q rest (a.put o.dst v') w'):wpList P ops Q (o::rest) a w :=
 wpList_plain hgd fun _ hK=>by
  unfold Oper.wp execOp;simp only[ho,resolve,invoke,builtin,Sem.run_bind,Sem.run_pure,Result.andThen_ok,List.map_toArray,List.map_cons,List.map_nil,hd,hs,hr];exact hK _ _ h
end
set_option maxHeartbeats 6400000 in
theorem anO(b vb n c i vc:Nat)(cur qV:Array Value)(w:World)(hi:i<n)(si:n+1≤c)(hc:c≤9223372036854775807)(hvb:vb≠b)(hb:w.heap[b]? = some (.cells cur 255 (0,0)))(yS:cur.size=c*8)
  (hv:w.heap[vb]? = some (.cells qV 255 (0,0))) (Mt:8≤qV.size) (h1:∀v∈cur.toList.take (n*8),v.oneCell'=true) (h1v:∀v∈qV.toList.take 8,v.oneCell'=true) :
  Calls prog 215 #[.slice (some ⟨b,0,none⟩) n c,.int .i64 i,.slice (some ⟨vb,0,none⟩) 1 vc] w fun e w'=>
   e = .returned (.slice (some ⟨b,0,none⟩) (n+1) c)∧∃A:Array Value,w'=w.drew.setRow b A∧A.size=cur.size∧A.toList.take ((n+1)*8)=cur.toList.take (i*8)++qV.toList.take 8++(cur.toList.take (n*8)).drop (i*8):=by
 have yQ:(prog.info? 255).map (·.size)=some 8:=by kernel_rfl
 have aqg:∀w,(Go.sizeOf 255).run prog w = .ok 8 w:=fun w=>by
  cases hq:prog.info? 255 with
  |none=>simp[hq]at yQ
  |some i=>simp[hq]at yQ;simp[sizeOf,typeInfo,hq,yQ]
 have h8n:n*8+8≤c*8:=by omega
 have h8i:i*8+8≤n*8:=by omega
 have MG:∀(g:Nat) (cs:Array Value),w.heap[g]? = some (.cells cs 255 (0,0))→w.shape? g=some (255,cs.size)∧∀j,w.frozen? ⟨g,j,none⟩=false:=fun g cs hg=>by
  constructor
  ·simp[World.shape?,hg]
  ·intro j;simp[World.frozen?,hg]
 have hov:∀lb cb,(callFunc 278 #[.slice (some ⟨vb,0,none⟩) 1 vc,.slice (some ⟨b,(i+1)*8,none⟩) lb cb]).run prog w = .ok (.value (.bool false)) w:=fun lb cb=>by
  rw[run_callFunc_extern (fn:=Tryz.f278) (by kernel_rfl) (by kernel_rfl) (by kernel_rfl) (by kernel_rfl) (e:=Extern.SlicesOverlaps.overlaps #[238,238] #[4]) (by kernel_rfl),
   Lib.run_overlaps_apart w 238 4 255 (by kernel_rfl) 8 aqg ⟨vb,0,none⟩ ⟨b,(i+1)*8,none⟩ 1 vc lb cb hvb 255 255 qV.size cur.size (MG _ _ hv).1 (MG _ _ hb).1 (by omega) ((MG _ _ hv).2 _) ((MG _ _ hv).2 _)]
  rfl
 have ZO:¬((i:Int)=(n:Int)):=by omega
 obtain⟨S,hS⟩:∃S,S=(cur.toList.take (n*8)).drop (i*8):=⟨_,rfl⟩;have Qj:S.length=(n-i)*8:=by rw[hS,List.length_drop,List.length_take,Array.length_toList,yS];omega
 obtain⟨X,hX⟩:∃X:Array Value,X=(cur.toList.take ((i+1)*8)++S++cur.toList.drop ((i+1)*8+S.length)).toArray:=⟨_,rfl⟩;have hXs:X.size=cur.size:=by rw[hX];simp[Qj];omega
 have hwd:w.drew.heap[b]? = some (.cells cur 255 (0,0)):=hb
 have aqi:∀ty dc sc,(Builtin.copy_ #[238,238] ty #[.slice (some ⟨b,(i+1)*8,none⟩) (n+1-(i+1)) dc,.slice (some ⟨b,i*8,none⟩) (n+1-i) sc]).run prog w.drew = .ok (goInt ((n-i:Nat):Int)) (w.drew.setRow b X):=fun ty dc sc=>by
  have hm:Nat.min (n+1-i) (n+1-(i+1))=n-i:=by simp only[Nat.min_def];split <;> omega
  have:=wN (P:=prog) w.drew 238 238 ty 255 8 b ((i+1)*8) (n+1-(i+1)) dc ⟨b,i*8,none⟩ (n+1-i) sc cur 255 S (by kernel_rfl) yQ hwd (by rw[Qj,hm])
   (fun j v hj=>by
    rw[Addr.add_lit];refine vM hwd ?_;rw[hS,List.getElem?_drop,List.getElem?_take]at hj
    split at hj
    ·exact hj
    ·cases hj) (by rw[Qj,yS];omega) (fun v hv=>h1 v (by rw[hS]at hv;exact List.mem_of_mem_drop hv))
  rw[hm]at this;rw[this,hX]
 obtain⟨V,hV⟩:∃V,V=qV.toList.take 8:=⟨_,rfl⟩;have Py:V.length=8:=by rw[hV,List.length_take,Array.length_toList];omega
 have hw1:(w.drew.setRow b X).heap[b]? = some (.cells X 255 (0,0)):=setRow_heap w.drew b cur X 255 _ hwd;have hw2:(w.drew.setRow b X).heap[vb]? = some (.cells qV 255 (0,0)):=by rw[←hv];exact setRow_other w.drew b vb X hvb
 have ajk:∀ty dc,(Builtin.copy_ #[238,238] ty #[.slice (some ⟨b,i*8,none⟩) (n+1-i) dc,.slice (some ⟨vb,0,none⟩) 1 vc]).run prog (w.drew.setRow b X) = .ok (goInt ((1:Nat):Int)) (w.drew.setRow b (X.toList.take (i*8)++V++X.toList.drop (i*8+V.length)).toArray):=fun ty dc=>by
  have hm:Nat.min 1 (n+1-i)=1:=by simp only[Nat.min_def];split <;> omega
  have:=wN (P:=prog) (w.drew.setRow b X) 238 238 ty 255 8 b (i*8) (n+1-i) dc ⟨vb,0,none⟩ 1 vc X 255 V (by kernel_rfl) yQ hw1 (by rw[Py,hm])
   (fun j v hj=>by
    rw[Addr.add_lit];refine vM hw2 ?_;rw[hV,List.getElem?_take]at hj
    split at hj
    ·rw[Nat.zero_add];exact hj
    ·cases hj) (by rw[Py,hXs,yS];omega) (fun v hv=>h1v v (hV ▸ hv))
  rw[hm]at this;rw[this,setRow_setRow]
 have mixed:prog.follows Departure.mixedOrders=true:=by kernel_rfl
 have aqj:IntKind.i64.wrap ((i:Int)+1)=(i:Int)+1:=by rw[IntKind.wrap_i64];omega
 have aqk:(0:Int)≤(i:Int)+1:=by omega
 have Cf:i≤n:=by omega
 have aGt:i≤n+1:=by omega
 have htn:((i:Int)+1).toNat=i+1:=by omega
 have Co:¬(c=i+1):=by omega
 have Gc:(i:Int)≤(n:Int)+1:=by omega
 have Il:¬(c=i):=by omega
 obtain⟨A,hA⟩:∃A:Array Value,A=(X.toList.take (i*8)++V++X.toList.drop (i*8+V.length)).toArray:=⟨_,rfl⟩;rw[←hA]at ajk;have TP:A.size=cur.size:=by rw[hA];simp[Py];omega
 have hAt:A.toList.take ((n+1)*8)=cur.toList.take (i*8)++V++S:=by
  have e1:X.toList.take (i*8)=cur.toList.take (i*8):=by
   rw[hX];simp only[List.toList_toArray];rw[List.append_assoc,List.take_append_of_le_length (by simp;omega),List.take_take,Nat.min_eq_left (by omega)]
  have e2:X.toList.drop (i*8+V.length)=S++cur.toList.drop ((i+1)*8+S.length):=by
   rw[hX,Py];simp only[List.toList_toArray];rw[List.append_assoc,List.drop_append,List.drop_of_length_le (by simp;omega),List.nil_append];have:i*8+8-(List.take ((i+1)*8) cur.toList).length=0:=by simp;omega
   rw[this,List.drop_zero]
  rw[hA,e1,e2];simp only[List.toList_toArray];rw[←List.append_assoc];refine List.take_left' ?_;simp[Py,Qj];omega
 rw[←hS,←hV];clear hA hX hS hV
 go_enter func215,ntmps215
 go_wp2_with (simp only[hov])
 go_region_law_o (refine CD (P:=prog) rfl _ _ 238 238 rfl _ _ (by simp[Act.eval,Act.put];rfl) (by simp[Act.eval,Act.put];rfl) (aqi _ _ _) ?_)
 go_wp2_with (refine AI _ rfl _ _ 238 238 rfl _ _ rfl rfl (ajk _ _) ?_)
 go_ret
 exact⟨rfl,A,rfl,by first|exact TP|exact TP.trans yS,hAt⟩
set_option maxHeartbeats 6400000 in
theorem anQ(b vb n c vc:Nat)(cur qV:Array Value)(w:World)(si:n+1≤c)(hb:w.heap[b]? = some (.cells cur 255 (0,0)))(yS:cur.size=c*8)
  (hv:w.heap[vb]? = some (.cells qV 255 (0,0))) (Mt:8≤qV.size) (h1v:∀v∈qV.toList.take 8,v.oneCell'=true) :
  Calls prog 215 #[.slice (some ⟨b,0,none⟩) n c,.int .i64 n,.slice (some ⟨vb,0,none⟩) 1 vc] w fun e w'=>
   e = .returned (.slice (some ⟨b,0,none⟩) (n+1) c)∧∃A:Array Value,w'=w.setRow b A∧A.size=cur.size∧A.toList.take ((n+1)*8)=cur.toList.take (n*8)++qV.toList.take 8:=by
 obtain⟨i0,TL,hz0,Du⟩:∃i0,prog.info? 255=some i0∧i0.zero=i0.zero∧i0.size=8:=by
  have yQ:(prog.info? 255).map (·.size)=some 8:=by kernel_rfl
  cases hq:prog.info? 255 with
  |none=>simp[hq]at yQ
  |some i=>exact⟨i,rfl,rfl,by simpa [hq]using yQ⟩
 have Gg:prog.underlying 238=some (.slice 255):=by kernel_rfl
 have Py:(qV.toList.take 8).length=8:=by rw[List.length_take,Array.length_toList];omega
 have RO:Go.Src prog i0.size 238 (.slice (some ⟨vb,0,none⟩) 1 vc) 1 (qV.toList.take 8) w:=by
  rw[Du]
  exact Go.Src.ofSlice w Gg ⟨vb,0,none⟩ 1 vc _ (by rw[Py]) (fun j u hj=>by
   rw[Addr.add_lit];refine vM hv ?_;rw[List.getElem?_take]at hj
   split at hj
   ·rw[Nat.zero_add];exact hj
   ·cases hj) h1v
 have h8:n*8+8≤c*8:=by omega
 have mw:∀ty,(Builtin.append_ #[238,238] ty #[.slice (some ⟨b,0,none⟩) n c,.slice (some ⟨vb,0,none⟩) 1 vc]).run prog w=_:=fun ty=>
  zG w 238 238 ty 255 i0 Gg TL b n c _ 1 _ RO si cur 255 hb (by rw[Py,Du,yS];exact h8)
 rw[Du,Py]at mw;have hz1:¬((1:Int)=0):=by omega
 obtain⟨A,hA⟩:∃A:Array Value,A=(cur.toList.take (n*8)++qV.toList.take 8++cur.toList.drop (n*8+8)).toArray:=⟨_,rfl⟩;rw[←hA]at mw;have TP:A.size=cur.size:=by rw[hA];simp;omega
 have hAt:A.toList.take ((n+1)*8)=cur.toList.take (n*8)++qV.toList.take 8:=by
  rw[hA];simp only[List.toList_toArray];refine List.take_left' ?_;simp;omega
 clear hA
 go_enter func215,ntmps215
 go_wp2_with (at_builtin;refine Lib.wpList_append_run _ rfl _ _ _ _ rfl _ _ rfl rfl _ _ (mw _) ?_)
 go_ret
 exact⟨rfl,A,rfl,by first|exact TP|exact TP.trans yS,hAt⟩
set_option maxHeartbeats 6400000 in
theorem ah3(base:Option Addr)(vb n c vc:Nat)(Pz:List Value)(qV:Array Value)(w:World)(hnc:n≤c)(si:c<n+1)(VQ:(n+1)*80≤140737488355328)(hl:Pz.length=n*8)(Mq:base=none→n=0∧c=0)
  (hold:∀a,base=some a→∀j v,Pz[j]? = some v→w.cell? (a.add j)=some v)
  (hv:w.heap[vb]? = some (.cells qV 255 (0,0))) (Mt:8≤qV.size) (h1v:∀v∈qV.toList.take 8,v.oneCell'=true) :
  Calls prog 215 #[.slice base n c,.int .i64 n,.slice (some ⟨vb,0,none⟩) 1 vc] w fun e w'=>
   ∃(c':Nat) (A:Array Value),e = .returned (.slice (some ⟨w.heap.size,0,none⟩) (n+1) c')∧w'=w.drew.alloc (.cells A 255)∧n+1≤c'∧c'≤9223372036854775807∧A.size=c'*8∧A.toList.take ((n+1)*8)=Pz++qV.toList.take 8:=by
 obtain⟨i0,TL,z,hz0,Du,hzb,hzz⟩:∃i0,prog.info? 255=some i0∧∃z,i0.zero=some z∧i0.size=8∧i0.bytes=80∧z.cells.size=8:=by
  have yQ:(prog.info? 255).map (fun i=>(i.size,i.bytes,i.zero.map fun z=>z.cells.size))=some (8,80,some 8):=by kernel_rfl
  cases hq:prog.info? 255 with
  |none=>simp[hq]at yQ
  |some i=>
   simp only[hq,Option.map_some,Option.some.injEq,Prod.mk.injEq,Option.map_eq_some_iff]at yQ;obtain⟨h1,h2,z,h3,h4⟩:=yQ;exact⟨i,rfl,z,h3,h1,h2,h4⟩
 have Gg:prog.underlying 238=some (.slice 255):=by kernel_rfl
 have Py:(qV.toList.take 8).length=8:=by rw[List.length_take,Array.length_toList];omega
 have RO:Go.Src prog i0.size 238 (.slice (some ⟨vb,0,none⟩) 1 vc) 1 (qV.toList.take 8) w:=by
  rw[Du]
  exact Go.Src.ofSlice w Gg ⟨vb,0,none⟩ 1 vc _ (by rw[Py]) (fun j u hj=>by
   rw[Addr.add_lit];refine vM hv ?_;rw[List.getElem?_take]at hj
   split at hj
   ·rw[Nat.zero_add];exact hj
   ·cases hj) h1v
 have aeb:(Builtin.firstCells i0.size n (.slice base n c)).run prog w.drew = .ok Pz.toArray w.drew:=by
  rw[Du];cases base with
  |none=>
   obtain⟨rfl,rfl⟩:=Mq rfl;rw[List.length_eq_zero_iff.1 hl];exact run_firstCells_none w.drew 8 0 0 0
  |some a=>exact run_firstCells_some w.drew 8 n a n c Pz hl (fun j v hj=>hold a rfl j v hj)
 have hG1:=grownCap_ge w (n+1) c 255;have hG2:=grownCap_le_maxLen w (n+1) c 255 (by unfold maxLen;omega)
 have mw:∀ty,(Builtin.append_ #[238,238] ty #[.slice base n c,.slice (some ⟨vb,0,none⟩) 1 vc]).run prog w=_:=fun ty=>
  run_append_grow_src w 238 238 ty 255 i0 z Gg TL hz0 base n c Pz aeb _ 1 _ RO si (by omega) (by rw[hzb];exact growslice_fits si VQ)
 obtain⟨G,hG⟩:∃G,G=grownCap w (n+1) c 255:=⟨_,rfl⟩;rw[←hG]at mw hG1 hG2;obtain⟨A,hA⟩:∃A:Array Value,A=(Pz++qV.toList.take 8).toArray++Builtin.zeroCells z.cells (G-(n+1)):=⟨_,rfl⟩;rw[←hA]at mw
 have hZ:(Builtin.zeroCells z.cells (G-(n+1))).size=(G-(n+1))*8:=by
  have e1:(Builtin.zeroCells z.cells (G-(n+1))).toList=(List.replicate (G-(n+1)) z.cells.toList).flatten:=qM z.cells (by omega) _;rw[←Array.length_toList,e1];simp[hzz]
 have TP:A.size=G*8:=by
  rw[hA,Array.size_append,hZ];simp[hl];omega
 have hAt:A.toList.take ((n+1)*8)=Pz++qV.toList.take 8:=by
  rw[hA];simp only[Array.toList_append,List.toList_toArray];exact List.take_left' (by simp[hl];omega)
 have hG3:G≤9223372036854775807:=by unfold maxLen at hG2;exact hG2
 clear hA hG hG2 aeb hold
 have main:Calls prog 215 #[.slice base n c,.int .i64 n,.slice (some ⟨vb,0,none⟩) 1 vc] w fun e w'=>e = .returned (.slice (some ⟨w.heap.size,0,none⟩) (n+1) G)∧w'=w.drew.alloc (.cells A 255):=by
  go_enter func215,ntmps215
  cases base with
  |none=>
   obtain⟨rfl,rfl⟩:=Mq rfl
   go_wp2_with (at_builtin;refine Lib.wpList_append_run _ rfl _ _ _ _ rfl _ _ rfl rfl _ _ (mw _) ?_)
   go_ret
   exact⟨rfl,rfl⟩
  |some a=>
   obtain⟨ab,ao,asp⟩:=a
   go_wp2_with (at_builtin;refine Lib.wpList_append_run _ rfl _ _ _ _ rfl _ _ rfl rfl _ _ (mw _) ?_)
   all_goals (go_ret;exact⟨rfl,rfl⟩)
 exact main.mono fun e w' h=>⟨G,A,h.1,h.2,hG1,hG3,TP,hAt⟩
set_option maxHeartbeats 6400000 in
theorem anP(b vb n c i vc:Nat)(cur qV:Array Value)(w:World)(hi:i<n)(hnc:n≤c)(si:c<n+1)(VQ:(n+1)*80≤140737488355328)(hvb:vb≠b)(hb:w.heap[b]? = some (.cells cur 255 (0,0)))(yS:cur.size=c*8)
  (hv:w.heap[vb]? = some (.cells qV 255 (0,0))) (Mt:8≤qV.size) (h1:∀v∈cur.toList.take (n*8),v.oneCell'=true) (h1v:∀v∈qV.toList.take 8,v.oneCell'=true) :
  Calls prog 215 #[.slice (some ⟨b,0,none⟩) n c,.int .i64 i,.slice (some ⟨vb,0,none⟩) 1 vc] w fun e w'=>
   ∃(c':Nat) (A:Array Value) (X Y:Array Value),e = .returned (.slice (some ⟨w.heap.size,0,none⟩) (n+1) c')∧w'=(((w.alloc (.cells X 255)).drew.setRow w.heap.size Y).drew).setRow w.heap.size A∧n+1≤c'∧c'≤9223372036854775807∧A.size=c'*8∧A.toList.take ((n+1)*8)=cur.toList.take (i*8)++qV.toList.take 8++(cur.toList.take (n*8)).drop (i*8):=by
 obtain⟨i0,TL,z,hz0,Du,hzb,hzz⟩:∃i0,prog.info? 255=some i0∧∃z,i0.zero=some z∧i0.size=8∧i0.bytes=80∧z.cells.size=8:=by
  have yQ:(prog.info? 255).map (fun i=>(i.size,i.bytes,i.zero.map fun z=>z.cells.size))=some (8,80,some 8):=by kernel_rfl
  cases hq:prog.info? 255 with
  |none=>simp[hq]at yQ
  |some i=>
   simp only[hq,Option.map_some,Option.some.injEq,Prod.mk.injEq,Option.map_eq_some_iff]at yQ;obtain⟨h1,h2,z,h3,h4⟩:=yQ;exact⟨i,rfl,z,h3,h1,h2,h4⟩
 have Gg:prog.underlying 238=some (.slice 255):=by kernel_rfl
 have u3:prog.underlying 3=some (.int .i64):=by kernel_rfl
 have ajm:(prog.info? 255).map (·.size)=some 8:=by rw[TL];simp[Du]
 have hcn:c=n:=by omega
 subst hcn;have h8i:i*8+8≤c*8:=by omega
 obtain⟨V,hV⟩:∃V,V=qV.toList.take 8:=⟨_,rfl⟩;have Py:V.length=8:=by rw[hV,List.length_take,Array.length_toList];omega
 obtain⟨S,hS⟩:∃S,S=(cur.toList.take (c*8)).drop (i*8):=⟨_,rfl⟩;have Qj:S.length=(c-i)*8:=by rw[hS,List.length_drop,List.length_take,Array.length_toList,yS];omega
 obtain⟨O,hO⟩:∃O,O=cur.toList.take (i*8):=⟨_,rfl⟩;have hOl:O.length=i*8:=by rw[hO,List.length_take,Array.length_toList,yS];omega
 have hold:(Builtin.firstCells i0.size i (.slice (some ⟨b,0,none⟩) i c)).run prog w.drew = .ok O.toArray w.drew:=by
  rw[Du]
  exact run_firstCells_some w.drew 8 i ⟨b,0,none⟩ i c O hOl (fun j v hj=>by
   rw[Addr.add_lit,Nat.zero_add];refine vM (w:=w.drew) hb ?_;rw[hO,List.getElem?_take]at hj
   split at hj
   ·exact hj
   ·cases hj)
 have hkk:(c:Int)+1-(i:Int)=((c+1-i:Nat):Int):=by omega
 have hik:i+(c+1-i)=c+1:=by omega
 have hG1:=grownCap_ge w (c+1) c 255;have hG2:=grownCap_le_maxLen w (c+1) c 255 (by unfold maxLen;omega);obtain⟨G,hG⟩:∃G,G=grownCap w (c+1) c 255:=⟨_,rfl⟩;obtain⟨R,hR⟩:∃R:Array Value,R=O.toArray++Builtin.zeroCells z.cells (c+1-i)++Builtin.zeroCells z.cells (G-(c+1)):=⟨_,rfl⟩
 have hrz:∀ty,(Builtin.append_ #[238,3] ty #[.slice (some ⟨b,0,none⟩) i c,.int .i64 ((c:Int)+1-(i:Int))]).run prog w = .ok (.slice (some ⟨w.heap.size,0,none⟩) (c+1) G) (w.drew.alloc (.cells R 255)):=fun ty=>by
  have h:=Lib.run_append_grow_zeros w 238 3 ty 255 i0 z .i64 .i64 Gg u3 TL hz0 (some ⟨b,0,none⟩) i c O.toArray.toList (by simpa using hold) (c+1-i) (by omega) (by omega) (by omega) (by omega) (by rw[hzb];omega) (by rw[hzb,hik];exact growslice_fits si VQ);rw[hik,←hG]at h;rw[hkk,h,hR]
 rw[←hG]at hG1 hG2
 have hZ:∀k,(Builtin.zeroCells z.cells k).size=k*8:=fun k=>by
  have e1:(Builtin.zeroCells z.cells k).toList=(List.replicate k z.cells.toList).flatten:=qM z.cells (by omega) _;rw[←Array.length_toList,e1];simp[hzz]
 have hRs:R.size=G*8:=by
  rw[hR,Array.size_append,Array.size_append,hZ,hZ];simp[hOl];omega
 have hRt:R.toList.take (i*8)=O:=by
  rw[hR];simp only[Array.toList_append,List.toList_toArray];rw[List.append_assoc];exact List.take_left' hOl
 have hG3:G≤9223372036854775807:=by unfold maxLen at hG2;exact hG2
 obtain⟨W1,hW1⟩:∃W1,W1=(w.drew.alloc (.cells R 255)):=⟨_,rfl⟩;have hbl:b<w.heap.size:=(Array.getElem?_eq_some_iff.1 hb).1;have RH:vb<w.heap.size:=(Array.getElem?_eq_some_iff.1 hv).1;have hn1:W1.heap[w.heap.size]? = some (.cells R 255 (0,0)):=by rw[hW1];exact heap_alloc_new w.drew _
 have hv1:W1.heap[vb]? = some (.cells qV 255 (0,0)):=by rw[hW1,Below.heap_alloc _ _ _ (by simpa using RH)];exact hv
 have Ky:W1.heap[b]? = some (.cells cur 255 (0,0)):=by rw[hW1,Below.heap_alloc _ _ _ (by simpa using hbl)];exact hb
 obtain⟨Y,hY⟩:∃Y:Array Value,Y=(R.toList.take (i*8)++V++R.toList.drop (i*8+V.length)).toArray:=⟨_,rfl⟩;have hYs:Y.size=R.size:=by rw[hY];simp[Py];omega
 have aqo:∀(W:World),(∀x,W.heap[x]? = W1.heap[x]?)→∀ty dc,(Builtin.copy_ #[238,238] ty #[.slice (some ⟨w.heap.size,i*8,none⟩) (c+1-i) dc,.slice (some ⟨vb,0,none⟩) 1 vc]).run prog W = .ok (goInt ((1:Nat):Int)) (W.setRow w.heap.size Y):=fun W hW ty dc=>by
  have hm:Nat.min 1 (c+1-i)=1:=by simp only[Nat.min_def];split <;> omega
  have:=wN (P:=prog) W 238 238 ty 255 8 w.heap.size (i*8) (c+1-i) dc ⟨vb,0,none⟩ 1 vc R 255 V Gg ajm ((hW _).trans hn1) (by rw[Py,hm])
   (fun j v hj=>by
    rw[Addr.add_lit];refine vM ((hW _).trans hv1) ?_;rw[hV,List.getElem?_take]at hj
    split at hj
    ·rw[Nat.zero_add];exact hj
    ·cases hj) (by rw[Py,hRs];omega) (fun v hv=>h1v v (hV ▸ hv))
  rw[hm]at this;rw[this,hY]
 obtain⟨A,hA⟩:∃A:Array Value,A=(Y.toList.take ((i+1)*8)++S++Y.toList.drop ((i+1)*8+S.length)).toArray:=⟨_,rfl⟩;have hn2:(W1.setRow w.heap.size Y).heap[w.heap.size]? = some (.cells Y 255 (0,0)):=setRow_heap W1 _ R Y 255 _ hn1;have Co:(W1.setRow w.heap.size Y).heap[b]? = some (.cells cur 255 (0,0)):=(setRow_other W1 _ b Y (by omega)).trans Ky
 have aqp:∀(W:World),(∀x,W.heap[x]? = (W1.setRow w.heap.size Y).heap[x]?)→∀ty dc sc,(Builtin.copy_ #[238,238] ty #[.slice (some ⟨w.heap.size,(i+1)*8,none⟩) (c-i) dc,.slice (some ⟨b,i*8,none⟩) (c-i) sc]).run prog W = .ok (goInt ((c-i:Nat):Int)) (W.setRow w.heap.size A):=fun W hW ty dc sc=>by
  have hm:Nat.min (c-i) (c-i)=c-i:=Nat.min_self _
  have:=wN (P:=prog) W 238 238 ty 255 8 w.heap.size ((i+1)*8) (c-i) dc ⟨b,i*8,none⟩ (c-i) sc Y 255 S Gg ajm ((hW _).trans hn2) (by rw[Qj,hm])
   (fun j v hj=>by
    rw[Addr.add_lit];refine vM ((hW _).trans Co) ?_;rw[hS,List.getElem?_drop,List.getElem?_take]at hj
    split at hj
    ·exact hj
    ·cases hj) (by rw[Qj,hYs,hRs];omega) (fun v hv=>h1 v (by rw[hS]at hv;exact List.mem_of_mem_drop hv))
  rw[hm]at this;rw[this,hA]
 have TP:A.size=G*8:=by rw[hA];simp[Qj];omega
 have hAt:A.toList.take ((c+1)*8)=O++V++S:=by
  have e1:Y.toList.take ((i+1)*8)=O++V:=by
   rw[hY];simp only[List.toList_toArray];rw[hRt];exact List.take_left' (by simp[hOl,Py];omega)
  rw[hA,e1];simp only[List.toList_toArray];exact List.take_left' (by simp[hOl,Py,Qj];omega)
 rw[←hS,←hV,←hO];have mixed:prog.follows Departure.mixedOrders=true:=by kernel_rfl
 have aqj:IntKind.i64.wrap ((i:Int)+1)=(i:Int)+1:=by rw[IntKind.wrap_i64];omega
 have aqk:(0:Int)≤(i:Int)+1:=by omega
 have ZO:¬((i:Int)=(c:Int)):=by omega
 have hz3:(c:Int)<(c:Int)+1:=by omega
 have Cf:i≤c:=by omega
 have htn:((i:Int)+1).toNat=i+1:=by omega
 have hGi:¬(G=i):=by omega
 have aGw:¬(G=i+1):=by omega
 have hci:¬(c=i):=by omega
 have Gc:(i:Int)≤(c:Int):=by omega
 subst hW1;have hF:∀x:Nat,(World.drew (World.setRow (World.drew (World.alloc w (.cells R 255))) w.heap.size Y)).heap[x]? = ((w.drew.alloc (.cells R 255)).setRow w.heap.size Y).heap[x]? := fun _=>rfl
 clear hkk hik hold hR hG hRt hV hS hO hY hA
 go_enter func215,ntmps215
 go_wp2_with (first
  |(at_builtin;refine Lib.wpList_append_run _ rfl _ _ _ _ rfl _ _ rfl rfl _ _ (hrz _) ?_)
  |(refine AI _ rfl _ _ 238 238 rfl _ _ rfl rfl (aqo _ (fun _=>rfl) _ _) ?_))
 go_region_law_o (refine CD (P:=prog) rfl _ _ 238 238 rfl _ _ (by simp[Act.eval,Act.put];rfl) (by simp[Act.eval,Act.put];rfl) (aqp (((w.alloc (.cells R 255)).drew.setRow w.heap.size Y).drew) hF _ _ _) ?_)
 go_wp2
 go_ret
 exact⟨G,A,R,Y,rfl,rfl,hG1,hG3,TP,hAt⟩
set_option maxHeartbeats 6400000 in
theorem aoz(b n c i j:Nat)(cur:Array Value)(w:World)(hi:i<j)(hj:j≤n)(hnc:n≤c)(hc:c≤9223372036854775807)(hb:w.heap[b]? = some (.cells cur 255 (0,0)))(yS:cur.size=c*8)(h1:∀v∈cur.toList.take (n*8),v.oneCell'=true) :
  Calls prog 106 #[.slice (some ⟨b,0,none⟩) n c,.int .i64 i,.int .i64 j] w fun e w'=>
   e = .returned (.slice (some ⟨b,0,none⟩) (i+(n-j)) c)∧∃A:Array Value,w'=w.drew.setRow b A∧A.size=cur.size∧A.toList.take ((i+(n-j))*8)=cur.toList.take (i*8)++(cur.toList.take (n*8)).drop (j*8):=by
 obtain⟨i0,TL,Du⟩:∃i0,prog.info? 255=some i0∧i0.size=8:=by
  have yQ:(prog.info? 255).map (·.size)=some 8:=by kernel_rfl
  cases hq:prog.info? 255 with
  |none=>simp[hq]at yQ
  |some i=>exact⟨i,rfl,by simpa [hq]using yQ⟩
 obtain⟨z0,xF,TE⟩:=(inferInstance:oa prog 238 255 8 80 _).h;have hzo:=Bu (T:=238) TE (by rfl);have Gg:prog.underlying 238=some (.slice 255):=by kernel_rfl
 obtain⟨S,hS⟩:∃S,S=(cur.toList.take (n*8)).drop (j*8):=⟨_,rfl⟩;have Qj:S.length=(n-j)*8:=by rw[hS,List.length_drop,List.length_take,Array.length_toList,yS];omega
 have hbd:w.drew.heap[b]? = some (.cells cur 255 (0,0)):=hb
 have RO:∀q,n-j=0∨q=j*8→Go.Src prog i0.size 238 (.slice (some ⟨b,q,none⟩) (n-j) (c-j)) (n-j) S w.drew:=fun q hq=>by
  rw[Du];refine Go.Src.ofSlice w.drew Gg ⟨b,q,none⟩ (n-j) (c-j) S Qj (fun k u hk=>?_) (fun u hu=>h1 u (by rw[hS]at hu;exact List.mem_of_mem_drop hu));have hkl:=(List.getElem?_eq_some_iff.1 hk).1;rcases hq with hq|rfl
  ·rw[Qj,hq]at hkl;omega
  ·rw[Addr.add_lit]
   refine vM hbd ?_;rw[hS,List.getElem?_drop,List.getElem?_take]at hk
   split at hk
   ·exact hk
   ·cases hk
 obtain⟨X,hX⟩:∃X:Array Value,X=(cur.toList.take (i*8)++S++cur.toList.drop (i*8+S.length)).toArray:=⟨_,rfl⟩;have h8:i*8+(n-j)*8≤c*8:=by omega
 have hXs:X.size=cur.size:=by rw[hX];simp[Qj];omega
 have hXt:X.toList.take ((i+(n-j))*8)=cur.toList.take (i*8)++S:=by
  rw[hX];simp only[List.toList_toArray];exact List.take_left' (by simp[Qj];omega)
 have mw:∀q,n-j=0∨q=j*8→∀ty,(Builtin.append_ #[238,238] ty #[.slice (some ⟨b,0,none⟩) i c,.slice (some ⟨b,q,none⟩) (n-j) (c-j)]).run prog w.drew = .ok (.slice (some ⟨b,0,none⟩) (i+(n-j)) c) (w.drew.setRow b X):=fun q hq ty=>by
  have:=zG w.drew 238 238 ty 255 i0 Gg TL b i c _ (n-j) S (RO q hq) (by omega) cur 255 hbd (by rw[Du,Qj,yS];exact h8);rw[this,hX,Du]
 have hbX:(w.drew.setRow b X).heap[b]? = some (.cells X 255 (0,0)):=setRow_heap w.drew b cur X 255 _ hbd;have hk:n-(i+(n-j))=j-i:=by omega
 have h9:(i+(n-j))*8+(j-i)*8≤c*8:=by omega
 obtain⟨A,hA⟩:∃A:Array Value,A=(X.toList.take ((i+(n-j))*8)++(List.replicate (j-i) z0.cells.toList).flatten++X.toList.drop ((i+(n-j))*8+(j-i)*8)).toArray:=⟨_,rfl⟩;have hZ:((List.replicate (j-i) z0.cells.toList).flatten).length=(j-i)*8:=by simp[xF.Dv]
 have TP:A.size=cur.size:=by rw[hA];simp[xF.Dv];omega
 have hAt:A.toList.take ((i+(n-j))*8)=cur.toList.take (i*8)++S:=by
  rw[hA,hXt];simp only[List.toList_toArray];rw[List.append_assoc];exact List.take_left' (by simp[Qj];omega)
 have ajo:∀ty sc,(Builtin.clear_ #[238] ty #[.slice (some ⟨b,(i+(n-j))*8,none⟩) (n-(i+(n-j))) sc]).run prog (w.drew.setRow b X) = .ok (.tuple #[]) (w.drew.setRow b A):=fun ty sc=>by
  rw[hk];have:=Ke (P:=prog) xF (w.drew.setRow b X) (n:=j-i) (c:=sc) (o:=(i+(n-j))*8) hbX (by omega) hzo ty (by omega);rw[this,hA,setRow_setRow]
 have mixed:prog.follows Departure.mixedOrders=true:=by kernel_rfl
 have ZO:¬((i:Int)=(j:Int)):=by omega
 have Cf:i≤n:=by omega
 have aGy:(i:Int)≤(n:Int):=by omega
 have hjI:(j:Int)≤(n:Int):=by omega
 have aGz:(i:Int)≤(j:Int):=by omega
 have hjc:(j:Int)≤(c:Int):=by omega
 have aGA:(n:Int)≤(c:Int):=by omega
 have Dn:i≤j:=by omega
 have Cw:¬(c=i+(n-j)):=by omega
 have hle:i+(n-j)≤n:=by omega
 have aGB:(i:Int)+((n-j:Nat):Int)≤(n:Int):=by omega
 rw[←hS];clear hS hX hA hXt hZ;have aGC:(i:Int)≤(c:Int):=by omega
 have hic:i≤c:=by omega
 by_cases hcj:c=j
 ·have hr:=mw 0 (.inl (by omega))
  have hcn:c=n:=by omega
  subst hcj;subst hcn;have e0:c-c=0:=Nat.sub_self c;rw[e0,Nat.add_zero]at hr ajo hAt hk ⊢
  go_enter func106,ntmps106
  go_wp2
  go_region_law_o (refine AJ (P:=prog) rfl _ _ 238 238 rfl (.slice (some ⟨b,0,none⟩) i c) (.slice (some ⟨b,0,none⟩) 0 0) (by simp[Act.eval,Act.put]) (by simp[Act.eval,Act.put]) (hr _) ?_)
  go_wp2
  go_ret
  exact⟨rfl,A,rfl,by first|exact TP|exact TP.trans yS,hAt⟩
 ·have hr:=mw (j*8) (.inr rfl)
  rw[hk]at ajo
  go_enter func106,ntmps106
  go_wp2
  go_region_law_o (refine AJ (P:=prog) rfl _ _ 238 238 rfl (.slice (some ⟨b,0,none⟩) i c) (.slice (some ⟨b,j*8,none⟩) (n-j) (c-j)) (by simp[Act.eval,Act.put]) (by simp[Act.eval,Act.put]) (hr _) ?_)
  go_wp2
  go_ret
  exact⟨rfl,A,rfl,by first|exact TP|exact TP.trans yS,hAt⟩
theorem NZ{C:Ctx}{F:dI}{γ:fc}{h:eY}{used:List Nat}{w w':World}(H:WS C F γ h used w){id0 id:Nat}{e0 e1:HE}{g0 g1:Value}(h0:cB h id0=some e0)(hg:γ id0=some g0)(S:vf w w' (eU g0))(hi:id ∉ used)
  (he:Cv F γ w' e1 g1) (hb:∀b,eU g1=some b→eU g0=some b∨b=w.heap.size):WS C F (γ.up id g1) ((id,some e1)::(id0,none)::h) (id::used) w':=by
 refine(H.FI h0 hg S).add hi he (fun b iO=>?_);rcases hb b iO with q|q
 ·have ho:=H.own id0 e0 g0 b h0 hg q
  refine⟨ho.1,ho.2,fun yd e' g' hh qi AG=>?_⟩;rw[dj]at hh
  split at hh
  ·cases hh
  ·rename_i pQ
   exact pQ (H.apart id0 yd e0 e' g0 g' b h0 hh hg qi q AG)
 ·subst q
  refine⟨?_,.inr H.size,fun yd e' g' hh qi AG=>?_⟩
  ·cases hF:F w.heap.size with
   |none=>rfl
   |some cs=>exact absurd (H.flt hF) (Nat.lt_irrefl _)
  ·rw[dj]at hh
   split at hh
   ·cases hh
   ·obtain⟨g2,k1,k2⟩:=H.uB yd e' hh
    rw[qi]at k1;injection k1 with k1;subst k1
    exact absurd (k2.lt _ AG) (Nat.lt_irrefl _)
def Zh(l:List aD)(i:Int)(v:List aD):Option (List aD) :=
 Ih (0≤i∧i≤l.length∧v.length=1∧(l.length+1)*80≤140737488355328) (some (l.take i.toNat++v++l.drop i.toNat))
def Zi(l:List aD)(i j:Int):Option (List aD) :=
 Ih (0≤i∧i<j∧j≤l.length) (some (l.take i.toNat++l.drop j.toNat))
instance amO{l v:List aD}{i:Int}:MA (Zh l i v) prog 215 (fun _=>3) fun r=>⟨[.row 100000,.I i,.row 100001],[(100000,some (.R 255 8 dm l)),(100001,some (.R 255 8 dm v))],.row 50000,[(50000,some (.R 255 8 dm r)),(100000,none),(100001,none)],[50000]⟩:=⟨fun {r} hM=>by
 obtain⟨⟨TL,hil,hv1,VQ⟩,hM⟩:=tj hM;obtain rfl:=Option.some.inj hM;obtain⟨k,rfl⟩:=Int.eq_ofNat_of_zero_le TL;simp only[Int.toNat_natCast];have hkl:k≤l.length:=by omega
 intro C F γ heap used w vs f vg px hinj H hv;have he:cB heap (f 100000)=some (.row 255 8 (l.map dm)):=vg 100000 _ rfl;have he2:cB heap (f 100001)=some (.row 255 8 (v.map dm)):=vg 100001 _ rfl;have pQ:f 100001≠f 100000:=fun e=>absurd (hinj 100001 (by simp) 100000 (by simp) e) (by decide)
 have hn5:f 50000 ∉ used:=px 50000 (by simp);obtain⟨g,hg,xs,BT,hxs⟩:=H.uB _ _ he;obtain⟨g2,vP,ys,TQ,hys⟩:=H.uB _ _ he2;simp only[yo,DV.ua,sM,Rs]at hv;obtain⟨v1,r1,rfl,k1,v2,r2,rfl,rfl,v3,r3,rfl,k3,rfl⟩:=hv;rw[hg]at k1;injection k1 with k1;subst k1
 rw[vP]at k3;injection k3 with k3;subst k3
 rw[List.length_map]at BT TQ;rw[hv1]at TQ;rcases TQ.2 with⟨_,q⟩|⟨vb,vc,qV,rfl,_,p2,p3,p4,p5,p6⟩
 ·cases q
 have Mt:8≤qV.size:=by omega
 have ajp:=hys.one;have aag:=hxs.one;have yM:=hxs.len;rw[List.length_map]at yM;have aBg:ys.length=8:=TQ.1
 have hE:∀k,k≤l.length→mT F 8 ((l.take k++v++l.drop k).map dm) (xs.take (k*8)++ys++xs.drop (k*8)):=fun k hk=>by
  rw[List.map_append,List.map_append,List.map_take,List.map_drop];exact((hxs.take k).append hys).append (hxs.drop k)
 have hlen:((l.take k++v++l.drop k).map dm).length=l.length+1:=by simp[hv1];omega
 -- the end of all ways: the new row stands
 have fin:∀(w':World) (b c':Nat) (A:Array Value),vf w w' (eU g)→w'.heap[b]? = some (.cells A 255 (0,0))→(eU g=some b∨b=w.heap.size)→l.length+1≤c'→c'≤maxLen→A.size=c'*8→A.toList.take ((l.length+1)*8)=xs.take (k*8)++ys++xs.drop (k*8) →
   ∃u F' γ',Ending.returned (.slice (some ⟨b,0,none⟩) (l.length+1) c') = .returned u∧sd F F'∧rM γ γ'∧WS C F' γ' (sL f [(50000,some (.R 255 8 dm (l.take k++v++l.drop k))),(100000,none),(100001,none)]++heap) (List.map f [50000]++used) w'∧Rs F' γ' (DV.ua f (.row 50000)) u:=by
  intro w' b c' A S hA hb h1 h2 h3 h4
  have ZZ:Cv F γ w' (.row 255 8 ((l.take k++v++l.drop k).map dm)) (.slice (some ⟨b,0,none⟩) (l.length+1) c'):=by
   refine⟨xs.take (k*8)++ys++xs.drop (k*8),⟨?_,.inr ⟨b,c',A,?_,Nat.zero_le _,hA,?_,h2,h3,?_⟩⟩,hE k hkl⟩
   ·rw[hlen,←h4,List.length_take,Array.length_toList (xs:=A),h3];omega
   ·rw[hlen]
   ·rw[hlen];exact h1
   ·rw[hlen];exact h4
  have W:=NZ H he hg S hn5 ZZ (fun b' iO=>by
   simp only[eU,Option.some.injEq]at iO;subst iO;exact hb)
  refine⟨_,F,γ.up (f 50000) (.slice (some ⟨b,0,none⟩) (l.length+1) c'),rfl,sd.refl _,sS _ (H.fresh hn5),?_,by simp only[DV.ua,Rs];exact vi _ _ _⟩;refine(W.forget (f 100001)).congr (fun id e hi=>?_) (fun _ h=>h);simp only[sL,List.map_cons,List.map_nil,List.cons_append,List.nil_append,Option.map_some,Option.map_none,HE.ua]at hi;rw[dj]at hi ⊢;rw[dj]at hi ⊢;rw[dj]at hi ⊢;have aqq:f 50000≠f 100001:=fun e=>hn5 (e ▸ H.us _ _ vP)
  split at hi
  ·rename_i q
   rw[if_neg (by rw[←q];exact aqq.symm),if_pos q];exact hi
  ·rename_i q
   split at hi
   ·cases hi
   ·rename_i q2
    split at hi
    ·cases hi
    ·rename_i q3
     rw[if_neg q3,if_neg q,if_neg q2];exact hi
 have aBh:∀(W:World) (X:List Obj),True:=fun _ _=>trivial
 have PA:∀u∈qV.toList.take 8,u.oneCell'=true:=fun u hu=>ajp u (by rw[←p6];exact hu)
 have p6':qV.toList.take 8=ys:=p6;have aGD:vb<w.heap.size:=(Array.getElem?_eq_some_iff.1 p2).1;rcases BT.2 with⟨rfl,hl0⟩|⟨b,c,cur,rfl,_,q2,q3,q4,q5,q6⟩
 · -- the nil row
  have hk0:k=0:=by omega
  subst hk0;rw[hl0]at hkl;have hc:=ah3 none vb 0 0 vc [] qV w (Nat.le_refl _) (by omega) (by omega) rfl (fun _=>⟨rfl,rfl⟩) (fun a ha=>by cases ha) p2 Mt PA;refine hc.mono ?_;rintro e w' ⟨c',A,rfl,rfl,h1,h2,h3,h4⟩;have hx0:xs = []:=List.eq_nil_of_length_eq_zero (by rw[yM,hl0]);have:=fin (w.drew.alloc (.cells A 255)) w.heap.size c' A ((vf.drew w).trans (vf.alloc _ _)).any (heap_alloc_new w.drew _) (.inr rfl) (by omega) h2 h3 (by rw[hl0,h4,hx0,p6'];simp);rw[hl0]at this;exact this
 ·have hbv:vb≠b:=fun e=>pQ (H.apart _ _ _ _ _ _ b he2 he vP hg (by simp[eU,e]) (by simp[eU]))
  have hbl:b<w.heap.size:=(Array.getElem?_eq_some_iff.1 q2).1;have q4':c≤9223372036854775807:=by unfold maxLen at q4;exact q4
  have hxo:∀u∈cur.toList.take (l.length*8),u.oneCell'=true:=fun u hu=>aag u (by rw[←q6];exact hu)
  have hx1:cur.toList.take (k*8)=xs.take (k*8):=by rw[←q6,List.take_take,Nat.min_eq_left (by omega)]
  by_cases si:l.length+1≤c
  ·by_cases hend:k=l.length
   ·subst hend
    refine(anQ b vb l.length c vc cur qV w si q2 q5 p2 Mt PA).mono ?_;rintro e w' ⟨rfl,A,rfl,h1,h2⟩;obtain⟨s1,s2⟩:=vf.setRow A q2;exact fin _ b c A s1 s2 (.inl rfl) si q4 (h1.trans q5) (by rw[h2,hx1,p6',List.drop_of_length_le (by omega),List.append_nil])
   ·refine(anO b vb l.length c k vc cur qV w (by omega) si q4' hbv q2 q5 p2 Mt hxo PA).mono ?_
    rintro e w' ⟨rfl,A,rfl,h1,h2⟩;obtain⟨s1,s2⟩:=vf.setRow (w:=w.drew) A q2;exact fin _ b c A ((vf.drew w).any.trans s1) s2 (.inl rfl) si q4 (h1.trans q5) (by rw[h2,hx1,p6',q6])
  ·by_cases hend:k=l.length
   ·subst hend
    have hc:=ah3 (some ⟨b,0,none⟩) vb l.length c vc xs qV w q3 (by omega) VQ yM (fun h=>by cases h) (fun a ha j u hj=>by
     injection ha with ha;subst ha
     rw[Addr.add_lit,Nat.zero_add];refine vM q2 ?_;rw[←q6,List.getElem?_take]at hj
     split at hj
     ·exact hj
     ·cases hj) p2 Mt PA
    refine hc.mono ?_;rintro e w' ⟨c',A,rfl,rfl,h1,h2,h3,h4⟩;exact fin (w.drew.alloc (.cells A 255)) w.heap.size c' A ((vf.drew w).trans (vf.alloc _ _)).any (heap_alloc_new w.drew _) (.inr rfl) h1 h2 h3 (by rw[h4,p6',List.take_of_length_le (by omega),List.drop_of_length_le (by omega),List.append_nil])
   ·refine(anP b vb l.length c k vc cur qV w (by omega) q3 (by omega) VQ hbv q2 q5 p2 Mt hxo PA).mono ?_
    rintro e w' ⟨c',A,X,Y,rfl,rfl,h1,h2,h3,h4⟩;have a1:(w.alloc (.cells X 255)).drew.heap[w.heap.size]? = some (.cells X 255 (0,0)):=heap_alloc_new w _;obtain⟨s1,s2⟩:=vf.setRow (w:=(w.alloc (.cells X 255)).drew) Y a1;obtain⟨s3,s4⟩:=vf.setRow (w:=((w.alloc (.cells X 255)).drew.setRow w.heap.size Y).drew) A s2
    have S:vf w (((w.alloc (.cells X 255)).drew.setRow w.heap.size Y).drew.setRow w.heap.size A) none:=by
     have t1:vf w (w.alloc (.cells X 255)).drew none:=(vf.alloc w _).trans (vf.drew _);have t2:=s1.trans ((vf.drew _).any.trans s3);refine⟨t2.os.trans t1.os,t2.tape.trans t1.tape,t2.output.trans t1.output,Nat.le_trans t1.size t2.size,fun i hi _=>?_⟩;have Fk:i<(w.alloc (.cells X 255)).drew.heap.size:=Nat.lt_of_lt_of_le hi t1.size;exact(t2.block i Fk (by simp;omega)).trans (t1.block i hi (by simp))
    exact fin _ w.heap.size c' A S.any s4 (.inr rfl) h1 h2 h3 (by rw[h4,hx1,p6',q6])⟩
instance amP{l:List aD}{i j:Int}:MA (Zi l i j) prog 106 (fun _=>2) fun r=>⟨[.row 100000,.I i,.I j],[(100000,some (.R 255 8 dm l))],.row 50000,[(50000,some (.R 255 8 dm r)),(100000,none)],[50000]⟩:=⟨fun {r} hM=>by
 obtain⟨⟨TL,Dn,Dt⟩,hM⟩:=tj hM;obtain rfl:=Option.some.inj hM;obtain⟨k,rfl⟩:=Int.eq_ofNat_of_zero_le TL;obtain⟨m,rfl⟩:=Int.eq_ofNat_of_zero_le (show 0≤j by omega);simp only[Int.toNat_natCast];have hkm:k<m:=by omega
 have hml:m≤l.length:=by omega
 intro C F γ heap used w vs f vg px hinj H hv;have he:cB heap (f 100000)=some (.row 255 8 (l.map dm)):=vg 100000 _ rfl;have hn5:f 50000 ∉ used:=px 50000 (by simp);obtain⟨g,hg,xs,BT,hxs⟩:=H.uB _ _ he;simp only[yo,DV.ua,sM,Rs]at hv;obtain⟨v1,r1,rfl,k1,v2,r2,rfl,rfl,v3,r3,rfl,rfl,rfl⟩:=hv;rw[hg]at k1;injection k1 with k1;subst k1
 rw[List.length_map]at BT;rcases BT.2 with⟨_,q⟩|⟨b,c,cur,rfl,_,q2,q3,q4,q5,q6⟩
 ·omega
 have aag:=hxs.one;have yM:=hxs.len;rw[List.length_map]at yM;have q4':c≤9223372036854775807:=by unfold maxLen at q4;exact q4
 have hxo:∀u∈cur.toList.take (l.length*8),u.oneCell'=true:=fun u hu=>aag u (by rw[←q6];exact hu)
 have hx1:cur.toList.take (k*8)=xs.take (k*8):=by rw[←q6,List.take_take,Nat.min_eq_left (by omega)]
 have hlen:((l.take k++l.drop m).map dm).length=k+(l.length-m):=by simp;omega
 refine(aoz b l.length c k m cur w hkm hml q3 q4' q2 q5 hxo).mono ?_;rintro e w' ⟨rfl,A,rfl,h1,h2⟩;obtain⟨s1,s2⟩:=vf.setRow (w:=w.drew) A q2
 have ZZ:Cv F γ (w.drew.setRow b A) (.row 255 8 ((l.take k++l.drop m).map dm)) (.slice (some ⟨b,0,none⟩) (k+(l.length-m)) c):=by
  refine⟨xs.take (k*8)++xs.drop (m*8),⟨?_,.inr ⟨b,c,A,?_,Nat.zero_le _,s2,?_,q4,h1.trans q5,?_⟩⟩,?_⟩
  ·rw[hlen,List.length_append,List.length_take,List.length_drop,yM];omega
  ·rw[hlen]
  ·rw[hlen];omega
  ·rw[hlen,h2,hx1,q6]
  ·rw[List.map_append,List.map_take,List.map_drop]
   exact(hxs.take k).append (hxs.drop m)
 have W:=NZ H he hg ((vf.drew w).any.trans s1) hn5 ZZ (fun b' iO=>by
  simp only[eU,Option.some.injEq]at iO ⊢;exact .inl iO)
 exact⟨_,F,γ.up (f 50000) (.slice (some ⟨b,0,none⟩) (k+(l.length-m)) c),rfl,sd.refl _,sS _ (H.fresh hn5),W,by simp only[DV.ua,Rs];exact vi _ _ _⟩⟩
end Go.Proofs.YtpeihknododmlaaGreatDoor
namespace Go.Proofs.YtpeihknododmlaaGreatDoor
open Go.Proofs.Tryz
open Go.RowKit
attribute [local irreducible] ik du bx iM oE dL eN iJ
def Ex(x:Nat→Int):List DV:=[.int .i64 (x 0),.int .i64 (x 1),.int .i64 (x 2),.int .i64 (x 3),.int .i64 (x 4),.int .i64 (x 5),.int .i64 (x 6),.int .i64 (x 7)]
structure aj where
 gf:bS
 df:List aU
 cY:Nat→(Nat→Int)
 eG:Nat→Int
 dh:Nat→Int
 bh:List (aH×Bool)
structure aP where
 aW:List aD
structure aN where
 dw:List aL
 aR:List Bool
 aX:List Int
def GH(x:aN):List DV:=[.sl 3 (List.map ff x.dw),.sl 1 (List.map DV.bool x.aR),.sl 1 (List.map (DV.int .i64) x.aX)]
def fH(x:aN):DV:=.agg (GH x)
structure bU where
 cu:ei
 kV:Int
 qO:bZ
def Qm(x:bU):List DV:=[.int .i64 x.cu.gS,.int .i64 x.cu.uS,.int .i64 x.cu.gN,.int .i64 x.kV,.int .i64 x.qO.AN,.int .i64 x.qO.bM,.sl 1 (List.map (DV.int .i64) x.qO.bR)]
def uH(x:bU):DV:=.agg (Qm x)
structure ay where
 CJ:dt
 mf:List aq
 sG:List bU
 aCR:Unit
 ajw:Unit
 rH:Int
 ba:aN
 dS:List aN
 cj:List AEv
def OZ.cs(x:Nat→Int):List DV:=[.int .i64 (x 0),.int .i64 (x 1),.int .i64 (x 2)]
structure cq where
 bw:Int
 uS:Int
 bM:Int
 EX:Int
 cG:Int
 Rh:Int
 LK:Bool
 bR:List Int
def Wz(x:cq):List DV:=[.int .u8 x.bw,.int .i64 x.uS,.int .i64 x.bM,.int .i64 x.EX,.int .i64 x.cG,.int .i64 x.Rh,.bool x.LK,.sl 1 (List.map (DV.int .i64) x.bR)]
def oc(x:cq):DV:=.agg (Wz x)
structure bV where
 bG:aL
 cZ:List cq
 jT:Int
def bV.cs(x:bV):List DV:=[.sl 1 (List.map (DV.int .i64) x.bG.ez),.sl 1 (List.map jm x.bG.cX),.sl 2 (List.map uI x.bG.dW.aW),.sl 8 (List.map oc x.cZ),.int .i64 x.jT]
structure dV where
 bR:List Int
 BK:Int
 aR:List Bool
 dW:Int
 xb:List Int
structure aJ where
 aE:bV
 cE:List aC
 bX:dV
 cy:List Int
 sF:Int
 nI:Int
 dh:Int
 nJ:Bool
def aj.b0(x:aj)(d1:DV)(d82:DV):List DV:=[.sl 7 (List.map cW x.gf.aW),d1,.int .i64 ((x.cY 0) 0),.int .i64 ((x.cY 0) 1),.int .i64 ((x.cY 0) 2),.int .i64 ((x.cY 0) 3),.int .i64 ((x.cY 0) 4),.int .i64 ((x.cY 0) 5),.int .i64 ((x.cY 0) 6),.int .i64 ((x.cY 0) 7),.int .i64 ((x.cY 1) 0),.int .i64 ((x.cY 1) 1),.int .i64 ((x.cY 1) 2),.int .i64 ((x.cY 1) 3),.int .i64 ((x.cY 1) 4),.int .i64 ((x.cY 1) 5),.int .i64 ((x.cY 1) 6),.int .i64 ((x.cY 1) 7),.int .i64 ((x.cY 2) 0),.int .i64 ((x.cY 2) 1),.int .i64 ((x.cY 2) 2),.int .i64 ((x.cY 2) 3),.int .i64 ((x.cY 2) 4),.int .i64 ((x.cY 2) 5),.int .i64 ((x.cY 2) 6),.int .i64 ((x.cY 2) 7),.int .i64 ((x.cY 3) 0),.int .i64 ((x.cY 3) 1),.int .i64 ((x.cY 3) 2),.int .i64 ((x.cY 3) 3),.int .i64 ((x.cY 3) 4),.int .i64 ((x.cY 3) 5),.int .i64 ((x.cY 3) 6),.int .i64 ((x.cY 3) 7),.int .i64 ((x.cY 4) 0),.int .i64 ((x.cY 4) 1),.int .i64 ((x.cY 4) 2),.int .i64 ((x.cY 4) 3),.int .i64 ((x.cY 4) 4),.int .i64 ((x.cY 4) 5),.int .i64 ((x.cY 4) 6),.int .i64 ((x.cY 4) 7),.int .i64 ((x.cY 5) 0),.int .i64 ((x.cY 5) 1),.int .i64 ((x.cY 5) 2),.int .i64 ((x.cY 5) 3),.int .i64 ((x.cY 5) 4),.int .i64 ((x.cY 5) 5),.int .i64 ((x.cY 5) 6),.int .i64 ((x.cY 5) 7),.int .i64 ((x.cY 6) 0),.int .i64 ((x.cY 6) 1),.int .i64 ((x.cY 6) 2),.int .i64 ((x.cY 6) 3),.int .i64 ((x.cY 6) 4),.int .i64 ((x.cY 6) 5),.int .i64 ((x.cY 6) 6),.int .i64 ((x.cY 6) 7),.int .i64 ((x.cY 7) 0),.int .i64 ((x.cY 7) 1),.int .i64 ((x.cY 7) 2),.int .i64 ((x.cY 7) 3),.int .i64 ((x.cY 7) 4),.int .i64 ((x.cY 7) 5),.int .i64 ((x.cY 7) 6),.int .i64 ((x.cY 7) 7),.int .i64 (x.eG 0),.int .i64 (x.eG 1),.int .i64 (x.eG 2),.int .i64 (x.eG 3),.int .i64 (x.eG 4),.int .i64 (x.eG 5),.int .i64 (x.eG 6),.int .i64 (x.eG 7),.int .i64 (x.dh 0),.int .i64 (x.dh 1),.int .i64 (x.dh 2),.int .i64 (x.dh 3),.int .i64 (x.dh 4),.int .i64 (x.dh 5),.int .i64 (x.dh 6),.int .i64 (x.dh 7),d82]
def aU.b0(x:aU)(d3:DV):List DV:=[.int .i64 x.cu.gS,.int .i64 x.cu.uS,.int .i64 x.cu.gN,d3]
def ay.b0(x:ay)(d4:DV)(d6:DV)(d7:DV)(d9:DV)(d10:DV)(d11:DV)(d12:DV)(d13:DV):List DV:=[.jA (sQ x.CJ.fx),.sl 7 (List.map cW x.CJ.je.aW),.sl 4 (List.map da x.CJ.ql),.int .i64 x.CJ.mL,d4,.sl 7 (List.map uH x.sG),d6,d7,.int .i64 x.rH,d9,d10,d11,d12,d13]
def ay.b1(x:ay)(d0:DV)(d1:DV)(d2:DV)(d4:DV)(d5:DV)(d6:DV)(d7:DV)(d9:DV)(d10:DV)(d11:DV)(d12:DV)(d13:DV):List DV:=[d0,d1,d2,.int .i64 x.CJ.mL,d4,d5,d6,d7,.int .i64 x.rH,d9,d10,d11,d12,d13]
def aJ.b0(x:aJ)(d0:DV)(d1:DV)(d3:DV)(d8:DV)(d11:DV):List DV:=[d0,d1,.sl 2 (List.map uI x.aE.bG.dW.aW),d3,.int .i64 x.aE.jT,.sl 4 (List.map fw x.cE),.sl 1 (List.map (DV.int .i64) x.bX.bR),.int .i64 x.bX.BK,d8,.int .i64 x.bX.dW,.sl 1 (List.map (DV.int .i64) x.bX.xb),d11,.int .i64 x.sF,.int .i64 x.nI,.int .i64 x.dh,.bool x.nJ]
noncomputable def fZ(x0:Int):Option Bool :=
 some ((decide (0≤x0))&&(decide (x0<8)))
instance PW{x0}:MC (fZ x0) fun r=>bx prog 146 [.I x0] (.bool r):=⟨fun hM=>by unfold fZ at hM;exact pb func146 ntmps146⟩
noncomputable def uv(x0:aU):Option Bool :=
 Bi (fZ x0.cu.gS) fun v2=>
 Bi (gb (!(!v2)) (false) (fZ x0.cu.uS)) fun v4=>
 If (((((!v2)||(!v4))||(decide (x0.cu.gN<0)))||(decide (65535<x0.cu.gN)))||(decide (2<(x0.gY.length:Int)))) (
  some false)<|
 fO (E:=Bool) 1 38 [] [36,37] [] (fun s t=>(4,.I s)::t) i2 [] [] m64 (x0.gY.length:Int) (fun k5 s7=>
  Bi (idx x0.gY (k5:Int)) fun v9=>
  If ((((decide (v9.AN<s7))||(decide (v9.bM<0)))||(decide (8≤v9.bM)))||(decide (4<(v9.bR.length:Int)))) (
   some (.done false))<|
  nX [] [] (some (.next v9.AN))) fun
  |.next s7=>
   some true
  |.done r=>some r
instance Wc{x0}:MC (uv x0) fun r=>bx prog 88 [.agg (KK x0)] (.bool r):=⟨fun hM=>by unfold uv at hM;exact pb func88 ntmps88⟩
noncomputable def mr(x0:aU)(o0:ei):Option Bool :=
 rX [] (some ((x0.cu.gS==o0.gS)&&((x0.cu.uS==o0.uS)&&((x0.cu.gN==o0.gN)&&true))))
instance Hj{x0 o0}:MA (mr x0 o0) prog 148 (fun _=>0) fun r=>⟨[.agg (KK x0),.ref 100000 0],[(100000,some (.bC 127 (Bq o0)))],.bool r,[(100000,some (.bC 127 (Bq o0)))],[]⟩:=⟨fun hM=>by unfold mr at hM;exact ab func148 ntmps148⟩
noncomputable def fB(o1:ei)(o0:List aU):Option Int :=
 fO (E:=Int) () 8 [100000,100001] [0,1,7] [100000,100001] i2 i2 [] [] m64 (o0.length:Int) (fun k1 _=>
  Bi (idx o0 (k1:Int)) fun v4=>
  Bi (cl 16 [(100000,100001)] (mr v4 o1)) fun v6=>
  If v6 (
   rX [] (some (.done (k1:Int))))<|
  nX [] [] (some (.next ()))) fun
  |.next _=>
   rX [] (some (-1))
  |.done r=>some r
instance BA{o1 o0}:MA (fB o1 o0) prog 207 (fun _=>0) fun r=>⟨[.row 100000,.Dh 148 [.ref 100001 0]],[(100000,some (.R 130 4 da o0)),(100001,some (.bC 127 (Bq o1)))],.I r,[(100000,some (.R 130 4 da o0)),(100001,some (.bC 127 (Bq o1)))],[]⟩:=⟨fun hM=>by unfold fB at hM;exact ab func207 ntmps207⟩
noncomputable def fS(o1:ei)(o0:List aU):Option Bool :=
 Bi (cl 7 [] (fB o1 o0)) fun v2=>
 rX [] (some (decide (0≤v2)))
instance AL{o1 o0}:MA (fS o1 o0) prog 147 (fun _=>0) fun r=>⟨[.row 100000,.Dh 148 [.ref 100001 0]],[(100000,some (.R 130 4 da o0)),(100001,some (.bC 127 (Bq o1)))],.bool r,[(100000,some (.R 130 4 da o0)),(100001,some (.bC 127 (Bq o1)))],[]⟩:=⟨fun hM=>by unfold fS at hM;exact ab func147 ntmps147⟩
noncomputable def js(x1:ei)(o0:aj):Option Bool :=
 Bi (cl 10 [(100000,100001),(100001,3)] (fS x1 o0.df)) fun v2=>
 rX [] (some v2)
instance IE{x1 o0}:MA (js x1 o0) prog 89 (fun _=>0) fun r=>⟨[.ref 100000 0,.agg (Bq x1)],[(100000,some (.bC 234 (aj.b0 o0 (.row 100001) (.row 100002)))),(100001,some (.R 130 4 da o0.df)),(100002,some (.mp (pN cM DV.bool o0.bh)))],.bool r,[(100000,some (.bC 234 (aj.b0 o0 (.row 100001) (.row 100002)))),(100001,some (.R 130 4 da o0.df)),(100002,some (.mp (pN cM DV.bool o0.bh)))],[]⟩:=⟨fun hM=>by unfold js at hM;exact ab func89 ntmps89⟩
noncomputable def gV(x0:bZ):Option bZ :=
 Ck (dL 8 (x0.bR.length))<|
 wk [.z 5]<|some x0
instance LC{x0}:MC (gV x0) fun r=>bx prog 90 [.agg (KG x0)] (.agg (KG r)):=⟨fun hM=>by unfold gV at hM;exact pb func90 ntmps90⟩
noncomputable def wX(x0:bS)(x1:List aU):Option ((aj)⊕((Unit)⊕((Unit)⊕(Unit)))) :=
 If (decide (16<(x1.length:Int))) (
  rX [] (some (.inr (.inr (.inl ())))))<|
 mv (pN cM DV.bool) []<|
 wk [.c 18 48801 1 130 4]<|
 fO (E:=(aj)⊕((Unit)⊕((Unit)⊕(Unit)))) ([]:List aU) 21 [] [6,19,20] [] i2 (fun s t=>(18,some (.bC 234 (aj.b0 (aj.mk x0 [] (arr (arr 0 []) [(arr 0 [0,0,0,0,0,0,0,0]),(arr 0 [0,0,0,0,0,0,0,0]),(arr 0 [0,0,0,0,0,0,0,0]),(arr 0 [0,0,0,0,0,0,0,0]),(arr 0 [0,0,0,0,0,0,0,0]),(arr 0 [0,0,0,0,0,0,0,0]),(arr 0 [0,0,0,0,0,0,0,0]),(arr 0 [0,0,0,0,0,0,0,0])]) (arr 0 [0,0,0,0,0,0,0,0]) (arr 0 [0,0,0,0,0,0,0,0]) []) (.row 10001) (.row 10002))))::(10001,some (.R 130 4 da s))::(10002,some (.mp (pN cM DV.bool ([]:List (aH×Bool)))))::t) [] [(10001,48801),(10002,16)] m64 (x1.length:Int) (fun k1 s3=>
  Bi (idx x1 (k1:Int)) fun v5=>
  Bi (uv v5) fun v7=>
  If (!v7) (
   rX [] (some (.done (.inr (.inl ())))))<|
  Bi (cl 31 [(100000,18),(100001,10001),(100002,10002)] (js v5.cu (aj.mk x0 s3 (arr (arr 0 []) [(arr 0 [0,0,0,0,0,0,0,0]),(arr 0 [0,0,0,0,0,0,0,0]),(arr 0 [0,0,0,0,0,0,0,0]),(arr 0 [0,0,0,0,0,0,0,0]),(arr 0 [0,0,0,0,0,0,0,0]),(arr 0 [0,0,0,0,0,0,0,0]),(arr 0 [0,0,0,0,0,0,0,0]),(arr 0 [0,0,0,0,0,0,0,0])]) (arr 0 [0,0,0,0,0,0,0,0]) (arr 0 [0,0,0,0,0,0,0,0]) ([]:List (aH×Bool))))) fun v9=>
  If v9 (
   rX [] (some (.done (.inr (.inr (.inr ()))))))<|
  fL ([]:List bZ) 38 [] [6,9,19,20,21,36,37] [] i2 (fun s t=>(9,some (.bC 130 (aU.b0 v5 (.row 10005))))::(18,some (.bC 234 (aj.b0 (aj.mk x0 [] (arr (arr 0 []) [(arr 0 [0,0,0,0,0,0,0,0]),(arr 0 [0,0,0,0,0,0,0,0]),(arr 0 [0,0,0,0,0,0,0,0]),(arr 0 [0,0,0,0,0,0,0,0]),(arr 0 [0,0,0,0,0,0,0,0]),(arr 0 [0,0,0,0,0,0,0,0]),(arr 0 [0,0,0,0,0,0,0,0]),(arr 0 [0,0,0,0,0,0,0,0])]) (arr 0 [0,0,0,0,0,0,0,0]) (arr 0 [0,0,0,0,0,0,0,0]) []) (.row 10003) (.row 10004))))::(10003,some (.R 130 4 da s3))::(10004,some (.mp (pN cM DV.bool ([]:List (aH×Bool)))))::(10005,some (.R 132 3 xy s))::t) [.c 9 10006 3 132 3] [(10003,10001),(10004,10002),(10005,10006)] m64 (v5.gY.length:Int) (fun k10 Ji=>
   Bi (idx v5.gY (k10:Int)) fun pF=>
   Bi (gV pF) fun ob=>
   eT 46 (bA 3 xy) [ob] fun xw=>
   Ck (dL 40 (Ji.length+List.length xw))<|
   nX [] [(10005,47)] (some (Ji++xw))) fun Ji=>
  wk [.z 10005]<|
  eT 56 (bA 4 da) [(aU.mk v5.cu Ji)] fun mU=>
  Ck (dL 48 (s3.length+List.length mU))<|
  nX [] [(10001,57),(10002,10004)] (some (.next (s3++mU)))) fun
  |.next s3=>
   rX [(50000,18),(50001,10001),(50002,10002)] (some (.inl (aj.mk x0 s3 (arr (arr 0 []) [(arr 0 [0,0,0,0,0,0,0,0]),(arr 0 [0,0,0,0,0,0,0,0]),(arr 0 [0,0,0,0,0,0,0,0]),(arr 0 [0,0,0,0,0,0,0,0]),(arr 0 [0,0,0,0,0,0,0,0]),(arr 0 [0,0,0,0,0,0,0,0]),(arr 0 [0,0,0,0,0,0,0,0]),(arr 0 [0,0,0,0,0,0,0,0])]) (arr 0 [0,0,0,0,0,0,0,0]) (arr 0 [0,0,0,0,0,0,0,0]) ([]:List (aH×Bool)))))
  |.done r=>some r
instance aar{x0 x1}:MA (wX x0 x1) prog 46 (fun | .inl _=>3 | .inr (.inl _)=>0 | .inr (.inr (.inl _))=>0 | .inr (.inr (.inr _))=>0) fun | .inl r=>⟨[.agg (zn x0),.L 4 da x1],[],.gW [.ref 50000 0,.I 0],[(50000,some (.bC 234 (aj.b0 r (.row 50001) (.row 50002)))),(50001,some (.R 130 4 da r.df)),(50002,some (.mp (pN cM DV.bool r.bh)))],[50000,50001,50002]⟩ | .inr (.inl r)=>⟨[.agg (zn x0),.L 4 da x1],[],.gW [.val (.pointer none),.I 1],[],[]⟩ | .inr (.inr (.inl r))=>⟨[.agg (zn x0),.L 4 da x1],[],.gW [.val (.pointer none),.I 3],[],[]⟩ | .inr (.inr (.inr r))=>⟨[.agg (zn x0),.L 4 da x1],[],.gW [.val (.pointer none),.I 5],[],[]⟩:=⟨fun {r} hM=>by unfold wX at hM;rcases r with r|r|r|r <;> exact ab func46 ntmps46⟩
noncomputable def Ay:Option aP :=
 wk [.c 2 47200 0 255 8]<|
 rX [(50000,2),(50001,47200)] (some (aP.mk ([]:List aD)))
instance:MA (Ay) prog 47 (fun _=>2) fun r=>⟨[],[],.ref 50000 0,[(50000,some (.bC 240 [.row 50001])),(50001,some (.R 255 8 dm r.aW))],[50000,50001]⟩:=⟨fun hM=>by unfold Ay at hM;exact ab func47 ntmps47⟩
noncomputable def uu(x0:dt):Option dt :=
 fL ([]:List aU) 12 [] [1,2,10,11] [1,2] (fun _ t=>(3,.row 10001)::t) (fun s t=>(10001,some (.R 130 4 da s))::t) [.r 3 10005 130 4] [(10001,10005)] m64 (x0.ql.length:Int) (fun k1 s3=>
  Bi (idx x0.ql (k1:Int)) fun v5=>
  fL ([]:List bZ) 22 [] [1,2,6,10,11,12,20,21] [1,2] (fun _ t=>(3,.row 10002)::t) (fun s t=>(6,some (.bC 130 (aU.b0 v5 (.row 10003))))::(10002,some (.R 130 4 da s3))::(10003,some (.R 132 3 xy s))::t) [.c 6 10004 3 132 3] [(10002,10001),(10003,10004)] m64 (v5.gY.length:Int) (fun k6 s8=>
   Bi (idx v5.gY (k6:Int)) fun v12=>
   Ck (dL 8 (v12.bR.length))<|
   wk [.z 28]<|
   eT 33 (bA 3 xy) [v12] fun qm=>
   Ck (dL 40 (s8.length+List.length qm))<|
   nX [] [(10003,34)] (some (s8++qm))) fun s8=>
  wk [.z 10003]<|
  eT 39 (bA 4 da) [(aU.mk v5.cu s8)] fun v9=>
  Ck (dL 48 (s3.length+List.length v9))<|
  nX [] [(10001,40)] (some (s3++v9))) fun s3=>
 wk [.z 10001]<|some ({ x0 with ql:=s3 }:dt)
instance VY{x0}:MC (uu x0) fun r=>bx prog 91 [.agg (vh x0)] (.agg (vh r)):=⟨fun hM=>by unfold uu at hM;exact pb func91 ntmps91⟩
noncomputable def kS(x0:bU)(x1:bU):Option Int :=
 Bi (eM x0.qO.AN x1.qO.AN) fun v2=>
 Bi (eM x0.cu.gS x1.cu.gS) fun v4=>
 Bi (eM x0.cu.uS x1.cu.uS) fun v6=>
 Bi (eM x0.cu.gN x1.cu.gN) fun v8=>
 Bi (eM x0.kV x1.kV) fun v10=>
 eT 38 (bA 1 (DV.int .i64)) [v2,v4,v6,v8,v10] fun v11=>
 Bi (tv v11) fun mU=>
 some mU
instance II{x0 x1}:MC (kS x0 x1) fun r=>bx prog 150 [.agg (Qm x0),.agg (Qm x1)] (.I r):=⟨fun hM=>by unfold kS at hM;exact pbz func150 ntmps150 (wz [38])⟩
noncomputable def fA(x1:Int)(x2:Int)(o0:List bU):Option (List bU) :=
 wL (E:=(List bU)) (o0,(IntKind.wrap .i64 (x1+1))) [100000] [0,1,2,3] [] (fun s t=>(8,.I s.2)::t) (fun s t=>(100000,some (.R 253 7 uH s.1))::t) [] [] (fun s3=>
  If (decide (s3.2<x2)) (
   wL (E:=(List bU)) (s3.1,s3.2) [100000] [0,1,2,3,8] [] (fun s t=>(9,.I s.2)::t) (fun s t=>(100000,some (.R 253 7 uH s.1))::t) [] [] (fun s6=>
    Bi (gb (decide (x1<s6.2)) (bU.mk (ei.mk 0 0 0) 0 (bZ.mk 0 0 [])) (idx s6.1 s6.2)) fun v8=>
    Bi (gb (decide (x1<s6.2)) (bU.mk (ei.mk 0 0 0) 0 (bZ.mk 0 0 [])) (idx s6.1 (IntKind.wrap .i64 (s6.2-1)))) fun v10=>
    Bi (gb (decide (x1<s6.2)) (0) (kS v8 v10)) fun v12=>
    If ((decide (x1<s6.2))&&(decide (v12<0))) (
     Bi (idx s6.1 (IntKind.wrap .i64 (s6.2-1))) fun qm=>
     Bi (idx s6.1 s6.2) fun pF=>
     eT 51 uH qm fun qt=>
     Bi (idx (List.set s6.1 (Int.toNat s6.2) qt) (IntKind.wrap .i64 (s6.2-1))) fun xw=>
     eT 52 uH pF fun v20=>
     nX [] [] (some (.next ((List.set (List.set s6.1 (Int.toNat s6.2) qt) (Int.toNat (IntKind.wrap .i64 (s6.2-1))) v20),(IntKind.wrap .i64 (s6.2-1))))))<|
    some (.done s6.1)) fun e21=>
   nX [] [] (some (.next (e21,(IntKind.wrap .i64 (s3.2+1))))))<|
  some (.done s3.1)) fun e22=>
 rX [] (some e22)
instance zz{x1 x2 o0}:MA (fA x1 x2 o0) prog 266 (fun _=>1) fun r=>⟨[.row 100000,.I x1,.I x2,.val (.func (.func 150) #[] #[])],[(100000,some (.R 253 7 uH o0))],.gW [],[(100000,some (.R 253 7 uH r))],[]⟩:=⟨fun hM=>by unfold fA at hM;exact ae func266 ntmps266⟩
@[reducible] noncomputable def lJ(s3:Unit):Option (List bU) :=
 none
noncomputable def gn(x1:Int)(x2:Int)(x3:Int)(o0:List bU):Option (List bU) :=
 o1<|
 If (decide ((IntKind.wrap .i64 (x2-x1))≤12)) (
  Bi (cl 30 [] (fA x1 x2 o0)) fun v2=>
  rX [] (some v2))<|
 If (x3==0) (
  none)<|
 jn lJ 7 [100000] [0,1,2,3,4,10,11,12] [100000] i2 i2<|
 If (!true) (
  none)<|
 nX [] [] (lJ ())
instance Bb{x1 x2 x3 o0}:MA (gn x1 x2 x3 o0) prog 208 (fun _=>1) fun r=>⟨[.row 100000,.I x1,.I x2,.I x3,.val (.func (.func 150) #[] #[])],[(100000,some (.R 253 7 uH o0))],.gW [],[(100000,some (.R 253 7 uH r))],[]⟩:=⟨fun hM=>by unfold gn at hM;exact ae func208 ntmps208⟩
noncomputable def et(o0:List bU):Option (List bU) :=
 Bi (oB (IntKind.wrap .u64 (o0.length:Int))) fun v2=>
 Bi (cl 13 [] (gn 0 (o0.length:Int) v2 o0)) fun v4=>
 rX [] (some v4)
instance yU{o0}:MA (et o0) prog 149 (fun _=>1) fun r=>⟨[.row 100000,.val (.func (.func 150) #[] #[])],[(100000,some (.R 253 7 uH o0))],.gW [],[(100000,some (.R 253 7 uH r))],[]⟩:=⟨fun hM=>by unfold et at hM;exact ae func149 ntmps149⟩
end Go.Proofs.YtpeihknododmlaaGreatDoor

/- Part 7 of what the claim leans on. -/
import Derived.Test.YtaafmkmdfcgeaaaGreatDoorRBv6
set_option linter.unusedVariables false
set_option linter.unusedSimpArgs false
set_option maxRecDepth 100000
set_option maxHeartbeats 4000000
noncomputable section
namespace Go.Proofs.YtaafmkmdfcgeaaaGreatDoor
open Go.Proofs.Tryz
open Go.RowKit Go.Lib
section
variable {P:Program}
theorem vH{w:World}{b:Nat}{cur:Array Value}{E:TypeId}(h:w.heap[b]? = some (.cells cur E (0,0))){j:Nat}{v:Value}(hj:cur.toList[j]? = some v):w.cell? ⟨b,j,none⟩=some v:=by
 rw[Array.getElem?_toList]at hj;simp[World.cell?,h,hj]
theorem wS(w:World)(dT sT ty elem:TypeId)(sz g o al4 awr:Nat)(a:Addr)(KO afN:Nat)(cur:Array Value)(t:TypeId)(cs:List Value)
  (hu:P.underlying dT=some (.slice elem)) (hs:(P.info? elem).map (·.size)=some sz)
  (hg:w.heap[g]? = some (.cells cur t (0,0))) (hn:cs.length=Nat.min KO al4*sz)
  (Wo:∀j v,cs[j]? = some v->w.cell? (a.add j)=some v) (aiD:o+cs.length<=cur.size) (h1:∀v∈cs,v.oneCell'=true) :
  (Builtin.copy_ #[dT,sT] ty #[.slice (some ⟨g,o,none⟩) al4 awr,.slice (some a) KO afN]).run P w =
   .ok (goInt (Nat.min KO al4)) (w.setRow g (cur.toList.take o++cs++cur.toList.drop (o+cs.length)).toArray):=by
 have hl:=run_loadCells_list (P:=P) w a cs Wo;have zb:=run_storeCells_at P g o t cs 0 cur w hg (by simpa using aiD) h1;cases hq:P.info? elem with
 |none=>simp[hq]at hs
 |some i=>
  have hi:i.size=sz:=by simpa [hq]using hs
  simp[Builtin.copy_,run_underlying hu,Builtin.lenOf,Builtin.firstCells,sizeOf,typeInfo,hq,hi,<-hn,hl,zb]
theorem AA(w:World)(t tx ty e:TypeId)(i:TypeInfo)(ht:P.underlying t=some (.slice e))(hi:P.info? e=some i)(b KO afN:Nat)(x:Value)(n:Nat)(news:List Value)(hs:Go.Src P i.size tx x n news w)
  (ry:KO+n<=afN) (cur:Array Value) (E:TypeId) (hg:w.heap[b]? = some (.cells cur E (0,0))) (aiD:KO*i.size+news.length<=cur.size) :
  (Builtin.append_ #[t,tx] ty #[.slice (some ⟨b,0,none⟩) KO afN,x]).run P w = .ok (.slice (some ⟨b,0,none⟩) (KO+n) afN) (w.setRow b (cur.toList.take (KO*i.size)++news++cur.toList.drop (KO*i.size+news.length)).toArray):=by
 have zb:=run_storeCells_at P b (KO*i.size) E news 0 cur w hg (by simpa using aiD) hs.one;simp only[Nat.add_zero]at zb;rcases hs.kind with⟨e',hk⟩ | hk <;> simp[Builtin.append_,run_underlying ht,run_underlying hk,sizeOf,typeInfo,hi,hs.len,ry,hs.cells,Addr.add_lit,zb]
theorem Et{ops:Array Oper}{o:Oper}{a:Act}{w:World}{K:Act->World->Prop}{Q:Exit->Act->World->Prop}{E:Prop}
  (hg:o.guard=none) (d x:Operand) (dT sT:TypeId) (LS:o.op=Op.call { callee:=Callee.builtin Builtin.copy,args:=#[d,x],argTypes:=#[dT,sT] })
  (v u:Value) (hd:a.eval d=v) (hx:a.eval x=u) {v':Value} {w':World} (hr:(Builtin.copy_ #[dT,sT] o.type #[v,u]).run P w = .ok v' w') (hK:K (a.put o.dst v') w') :
  if Region.wanted o (yielded ops a.tmps)=true then Oper.wp P o a w K Q else E:=by
 have hw:Region.wanted o (yielded ops a.tmps)=true:=Sw;rw[if_pos hw];unfold Oper.wp execOp;simp only[LS,resolve,invoke,builtin,Sem.run_bind,Sem.run_pure,Result.andThen_ok,List.map_toArray,List.map_cons,List.map_nil,hd,hx,hr];exact hK
theorem Cb{ops:Array Oper}{o:Oper}{a:Act}{w:World}{K:Act->World->Prop}{Q:Exit->Act->World->Prop}{E:Prop}
  (hg:o.guard=none) (d x:Operand) (dT sT:TypeId) (LS:o.op=Op.call { callee:=Callee.builtin Builtin.append,args:=#[d,x],argTypes:=#[dT,sT] })
  (v u:Value) (hd:a.eval d=v) (hx:a.eval x=u) {v':Value} {w':World} (hr:(Builtin.append_ #[dT,sT] o.type #[v,u]).run P w = .ok v' w') (hK:K (a.put o.dst v') w') :
  if Region.wanted o (yielded ops a.tmps)=true then Oper.wp P o a w K Q else E:=by
 have hw:Region.wanted o (yielded ops a.tmps)=true:=Sw;rw[if_pos hw];unfold Oper.wp execOp;simp only[LS,resolve,invoke,builtin,Sem.run_bind,Sem.run_pure,Result.andThen_ok,List.map_toArray,List.map_cons,List.map_nil,hd,hx,hr];exact hK
theorem Ca(w:World){ops:Array Oper}{rest:List Oper}{o:Oper}{a:Act}{Q:Exit->Act->World->Prop}(hgd:o.guard=none)(d s:Operand)(t t':TypeId)
  (ho:o.op = .call { callee:=.builtin .copy,args:=#[d,s],argTypes:=#[t,t'] }) (v u:Value) (hd:a.eval d=v) (hs:a.eval s=u) {v':Value} {w':World}
  (hr:(Builtin.copy_ #[t,t'] o.type #[v,u]).run P w = .ok v' w') (h:wpList P ops Q rest (a.put o.dst v') w'):wpList P ops Q (o::rest) a w :=
 wpList_plain hgd λ_ hK=>by
  unfold Oper.wp execOp;simp only[ho,resolve,invoke,builtin,Sem.run_bind,Sem.run_pure,Result.andThen_ok,List.map_toArray,List.map_cons,List.map_nil,hd,hs,hr];exact hK _ _ h
end
set_option maxHeartbeats 6400000 in
theorem at7(b vb n c i vc:Nat)(cur qg:Array Value)(w:World)(hi:i<n)(ry:n+1<=c)(hc:c<=9223372036854775807)(hvb:vb≠b)(hb:w.heap[b]? = some (.cells cur 320 (0,0)))(BW:cur.size=c*8)
  (hv:w.heap[vb]? = some (.cells qg 320 (0,0))) (PY:8<=qg.size) (h1:∀v∈cur.toList.take (n*8),v.oneCell'=true) (h1v:∀v∈qg.toList.take 8,v.oneCell'=true) :
  Calls prog 261 #[.slice (some ⟨b,0,none⟩) n c,.int .i64 i,.slice (some ⟨vb,0,none⟩) 1 vc] w λe w'=>
   e = .returned (.slice (some ⟨b,0,none⟩) (n+1) c)∧∃A:Array Value,w'=w.drew.setRow b A∧A.size=cur.size∧A.toList.take ((n+1)*8)=cur.toList.take (i*8)++qg.toList.take 8++(cur.toList.take (n*8)).drop (i*8):=by
 have yl:(prog.info? 320).map (·.size)=some 8:=bp
 have awt:∀w,(Go.sizeOf 320).run prog w = .ok 8 w:=λw=>by
  cases hq:prog.info? 320 with
  |none=>simp[hq]at yl
  |some i=>simp[hq]at yl;simp[sizeOf,typeInfo,hq,yl]
 have h8n:n*8+8<=c*8:=ah;have h8i:i*8+8<=n*8:=ah
 have Qd:∀(g:Nat) (cs:Array Value),w.heap[g]? = some (.cells cs 320 (0,0))->w.shape? g=some (320,cs.size)∧∀j,w.frozen? ⟨g,j,none⟩=false:=λg cs hg=>by
  constructor
  .simp[World.shape?,hg]
  .intro j;simp[World.frozen?,hg]
 have hov:∀lb cb,(callFunc 323 #[.slice (some ⟨vb,0,none⟩) 1 vc,.slice (some ⟨b,(i+1)*8,none⟩) lb cb]).run prog w = .ok (.value (.bool false)) w:=λlb cb=>by
  rw[run_callFunc_extern (fn:=Tryz.f323) bp bp bp bp (e:=Extern.SlicesOverlaps.overlaps #[303,303] #[4]) bp,
   Lib.run_overlaps_apart w 303 4 320 bp 8 awt ⟨vb,0,none⟩ ⟨b,(i+1)*8,none⟩ 1 vc lb cb hvb 320 320 qg.size cur.size (Qd _ _ hv).1 (Qd _ _ hb).1 ah ((Qd _ _ hv).2 _) ((Qd _ _ hv).2 _)]
  rfl
 have hz2:¬((i:Int)=(n:Int)):=ah;obtain⟨S,hS⟩:∃S,S=(cur.toList.take (n*8)).drop (i*8):=⟨_,rfl⟩;have Ud:S.length=(n-i)*8:=adN;obtain⟨X,hX⟩:∃X:Array Value,X=(cur.toList.take ((i+1)*8)++S++cur.toList.drop ((i+1)*8+S.length)).toArray:=⟨_,rfl⟩;have hXs:X.size=cur.size:=by rw[hX];simp[Ud];omega
 have hwd:w.drew.heap[b]? = some (.cells cur 320 (0,0)):=hb
 have awv:∀ty dc sc,(Builtin.copy_ #[303,303] ty #[.slice (some ⟨b,(i+1)*8,none⟩) (n+1-(i+1)) dc,.slice (some ⟨b,i*8,none⟩) (n+1-i) sc]).run prog w.drew = .ok (goInt ((n-i:Nat):Int)) (w.drew.setRow b X):=λty dc sc=>by
  have hm:Nat.min (n+1-i) (n+1-(i+1))=n-i:=adF
  have:=wS (P:=prog) w.drew 303 303 ty 320 8 b ((i+1)*8) (n+1-(i+1)) dc ⟨b,i*8,none⟩ (n+1-i) sc cur 320 S bp yl hwd (by rw[Ud,hm])
   (λj v hj=>by
    rw[Addr.add_lit];refine vH hwd ?_;rw[hS,List.getElem?_drop,List.getElem?_take]at hj
    split at hj
    .exact hj
    .cases hj) (by rw[Ud,BW];omega) (λv hv=>h1 v aeF)
  rw[hm]at this;rw[this,hX]
 obtain⟨V,hV⟩:∃V,V=qg.toList.take 8:=⟨_,rfl⟩;have Ts:V.length=8:=aeH;have hw1:(w.drew.setRow b X).heap[b]? = some (.cells X 320 (0,0)):=setRow_heap w.drew b cur X 320 _ hwd;have hw2:(w.drew.setRow b X).heap[vb]? = some (.cells qg 320 (0,0)):=by rw[<-hv];exact setRow_other w.drew b vb X hvb
 have apv:∀ty dc,(Builtin.copy_ #[303,303] ty #[.slice (some ⟨b,i*8,none⟩) (n+1-i) dc,.slice (some ⟨vb,0,none⟩) 1 vc]).run prog (w.drew.setRow b X) = .ok (goInt ((1:Nat):Int)) (w.drew.setRow b (X.toList.take (i*8)++V++X.toList.drop (i*8+V.length)).toArray):=λty dc=>by
  have hm:Nat.min 1 (n+1-i)=1:=adF
  have:=wS (P:=prog) (w.drew.setRow b X) 303 303 ty 320 8 b (i*8) (n+1-i) dc ⟨vb,0,none⟩ 1 vc X 320 V bp yl hw1 (by rw[Ts,hm])
   (λj v hj=>by
    rw[Addr.add_lit];refine vH hw2 ?_;rw[hV,List.getElem?_take]at hj
    split at hj
    .rw[Nat.zero_add];exact hj
    .cases hj) (by rw[Ts,hXs,BW];omega) (λv hv=>h1v v (hV ▸ hv))
  rw[hm]at this;rw[this,setRow_setRow]
 have mixed:prog.follows Departure.mixedOrders=true:=bp;have aww:IntKind.i64.wrap ((i:Int)+1)=(i:Int)+1:=tX;have awx:(0:Int)<=(i:Int)+1:=ah;have xW:i<=n:=ah;have aM2:i<=n+1:=ah;have htn:((i:Int)+1).toNat=i+1:=ah;have Ap:¬(c=i+1):=ah;have GH:(i:Int)<=(n:Int)+1:=ah;have HJ:¬(c=i):=ah;obtain⟨A,hA⟩:∃A:Array Value,A=(X.toList.take (i*8)++V++X.toList.drop (i*8+V.length)).toArray:=⟨_,rfl⟩;rw[<-hA]at apv;have hAs:A.size=cur.size:=by rw[hA];simp[Ts];omega
 have hAt:A.toList.take ((n+1)*8)=cur.toList.take (i*8)++V++S:=by
  have e1:X.toList.take (i*8)=cur.toList.take (i*8):=by
   rw[hX];simp only[List.toList_toArray];rw[List.append_assoc,List.take_append_of_le_length iC,List.take_take,Nat.min_eq_left ah]
  have e2:X.toList.drop (i*8+V.length)=S++cur.toList.drop ((i+1)*8+S.length):=by
   rw[hX,Ts];simp only[List.toList_toArray];rw[List.append_assoc,List.drop_append,List.drop_of_length_le iC,List.nil_append];have:i*8+8-(List.take ((i+1)*8) cur.toList).length=0:=iC;rw[this,List.drop_zero]
  rw[hA,e1,e2];simp only[List.toList_toArray];rw[<-List.append_assoc];refine List.take_left' ?_;simp[Ts,Ud];omega
 rw[<-hS,<-hV];clear hA hX hS hV
 go_enter func261,ntmps261
 go_wp2_with (simp only[hov])
 go_region_law_o (refine Et (P:=prog) rfl _ _ 303 303 rfl _ _ XZ XZ (awv _ _ _) ?_)
 go_wp2_with (refine Ca _ rfl _ _ 303 303 rfl _ _ rfl rfl (apv _ _) ?_)
 go_ret
 exact⟨rfl,A,rfl,Yc,hAt⟩
set_option maxHeartbeats 6400000 in
theorem aub(b vb n c vc:Nat)(cur qg:Array Value)(w:World)(ry:n+1<=c)(hb:w.heap[b]? = some (.cells cur 320 (0,0)))(BW:cur.size=c*8)
  (hv:w.heap[vb]? = some (.cells qg 320 (0,0))) (PY:8<=qg.size) (h1v:∀v∈qg.toList.take 8,v.oneCell'=true) :
  Calls prog 261 #[.slice (some ⟨b,0,none⟩) n c,.int .i64 n,.slice (some ⟨vb,0,none⟩) 1 vc] w λe w'=>
   e = .returned (.slice (some ⟨b,0,none⟩) (n+1) c)∧∃A:Array Value,w'=w.setRow b A∧A.size=cur.size∧A.toList.take ((n+1)*8)=cur.toList.take (n*8)++qg.toList.take 8:=by
 obtain⟨i0,hi0,hz0,GA⟩:∃i0,prog.info? 320=some i0∧i0.zero=i0.zero∧i0.size=8:=by
  have yl:(prog.info? 320).map (·.size)=some 8:=bp;cases hq:prog.info? 320 with
  |none=>simp[hq]at yl
  |some i=>exact⟨i,rfl,rfl,by simpa [hq]using yl⟩
 have IU:prog.underlying 303=some (.slice 320):=bp;have Ts:(qg.toList.take 8).length=8:=aeG
 have Wo:Go.Src prog i0.size 303 (.slice (some ⟨vb,0,none⟩) 1 vc) 1 (qg.toList.take 8) w:=by
  rw[GA]
  exact Go.Src.ofSlice w IU ⟨vb,0,none⟩ 1 vc _ (by rw[Ts]) (λj u hj=>by
   rw[Addr.add_lit];refine vH hv ?_;rw[List.getElem?_take]at hj
   split at hj
   .rw[Nat.zero_add];exact hj
   .cases hj) h1v
 have h8:n*8+8<=c*8:=ah
 have kp:∀ty,(Builtin.append_ #[303,303] ty #[.slice (some ⟨b,0,none⟩) n c,.slice (some ⟨vb,0,none⟩) 1 vc]).run prog w=_:=λty=>
  AA w 303 303 ty 320 i0 IU hi0 b n c _ 1 _ Wo ry cur 320 hb (by rw[Ts,GA,BW];exact h8)
 rw[GA,Ts]at kp;have hz1:¬((1:Int)=0):=ah;obtain⟨A,hA⟩:∃A:Array Value,A=(cur.toList.take (n*8)++qg.toList.take 8++cur.toList.drop (n*8+8)).toArray:=⟨_,rfl⟩;rw[<-hA]at kp;have hAs:A.size=cur.size:=by rw[hA];simp;omega
 have hAt:A.toList.take ((n+1)*8)=cur.toList.take (n*8)++qg.toList.take 8:=by
  rw[hA];simp only[List.toList_toArray];refine List.take_left' ?_;simp;omega
 clear hA
 go_enter func261,ntmps261
 go_wp2_with (at_builtin;refine Lib.wpList_append_run _ rfl _ _ _ _ rfl _ _ rfl rfl _ _ (kp _) ?_)
 go_ret
 exact⟨rfl,A,rfl,Yc,hAt⟩
set_option maxHeartbeats 6400000 in
theorem an4(base:Option Addr)(vb n c vc:Nat)(Tt:List Value)(qg:Array Value)(w:World)(hnc:n<=c)(ry:c<n+1)(aaL:(n+1)*80<=140737488355328)(hl:Tt.length=n*8)(Td:base=none->n=0∧c=0)
  (hold:∀a,base=some a->∀j v,Tt[j]? = some v->w.cell? (a.add j)=some v)
  (hv:w.heap[vb]? = some (.cells qg 320 (0,0))) (PY:8<=qg.size) (h1v:∀v∈qg.toList.take 8,v.oneCell'=true) :
  Calls prog 261 #[.slice base n c,.int .i64 n,.slice (some ⟨vb,0,none⟩) 1 vc] w λe w'=>
   ∃(c':Nat) (A:Array Value),e = .returned (.slice (some ⟨w.heap.size,0,none⟩) (n+1) c')∧w'=w.drew.alloc (.cells A 320)∧n+1<=c'∧c'<=9223372036854775807∧A.size=c'*8∧A.toList.take ((n+1)*8)=Tt++qg.toList.take 8:=by
 obtain⟨i0,hi0,z,hz0,GA,hzb,hzz⟩:∃i0,prog.info? 320=some i0∧∃z,i0.zero=some z∧i0.size=8∧i0.bytes=80∧z.cells.size=8:=by
  have yl:(prog.info? 320).map (λi=>(i.size,i.bytes,i.zero.map λz=>z.cells.size))=some (8,80,some 8):=bp;cases hq:prog.info? 320 with
  |none=>simp[hq]at yl
  |some i=>
   simp only[hq,Option.map_some,Option.some.injEq,Prod.mk.injEq,Option.map_eq_some_iff]at yl;obtain⟨h1,h2,z,h3,h4⟩:=yl;exact⟨i,rfl,z,h3,h1,h2,h4⟩
 have IU:prog.underlying 303=some (.slice 320):=bp;have Ts:(qg.toList.take 8).length=8:=aeG
 have Wo:Go.Src prog i0.size 303 (.slice (some ⟨vb,0,none⟩) 1 vc) 1 (qg.toList.take 8) w:=by
  rw[GA]
  exact Go.Src.ofSlice w IU ⟨vb,0,none⟩ 1 vc _ (by rw[Ts]) (λj u hj=>by
   rw[Addr.add_lit];refine vH hv ?_;rw[List.getElem?_take]at hj
   split at hj
   .rw[Nat.zero_add];exact hj
   .cases hj) h1v
 have ajV:(Builtin.firstCells i0.size n (.slice base n c)).run prog w.drew = .ok Tt.toArray w.drew:=by
  rw[GA];cases base with
  |none=>
   obtain⟨rfl,rfl⟩:=Td rfl;rw[List.length_eq_zero_iff.1 hl];exact run_firstCells_none w.drew 8 0 0 0
  |some a=>exact run_firstCells_some w.drew 8 n a n c Tt hl (λj v hj=>hold a rfl j v hj)
 have hG1:=grownCap_ge w (n+1) c 320;have hG2:=grownCap_le_maxLen w (n+1) c 320 Ks
 have kp:∀ty,(Builtin.append_ #[303,303] ty #[.slice base n c,.slice (some ⟨vb,0,none⟩) 1 vc]).run prog w=_:=λty=>
  run_append_grow_src w 303 303 ty 320 i0 z IU hi0 hz0 base n c Tt ajV _ 1 _ Wo ry ah (by rw[hzb];exact growslice_fits ry aaL)
 obtain⟨G,hG⟩:∃G,G=grownCap w (n+1) c 320:=⟨_,rfl⟩;rw[<-hG]at kp hG1 hG2;obtain⟨A,hA⟩:∃A:Array Value,A=(Tt++qg.toList.take 8).toArray++Builtin.zeroCells z.cells (G-(n+1)):=⟨_,rfl⟩;rw[<-hA]at kp
 have hZ:(Builtin.zeroCells z.cells (G-(n+1))).size=(G-(n+1))*8:=by
  have e1:(Builtin.zeroCells z.cells (G-(n+1))).toList=(List.replicate (G-(n+1)) z.cells.toList).flatten:=pU z.cells ah _;rw[<-Array.length_toList,e1];simp[hzz]
 have hAs:A.size=G*8:=by
  rw[hA,Array.size_append,hZ];simp[hl];omega
 have hAt:A.toList.take ((n+1)*8)=Tt++qg.toList.take 8:=by
  rw[hA];simp only[Array.toList_append,List.toList_toArray];exact List.take_left' (by simp[hl];omega)
 have hG3:G<=9223372036854775807:=adV;clear hA hG hG2 ajV hold
 have main:Calls prog 261 #[.slice base n c,.int .i64 n,.slice (some ⟨vb,0,none⟩) 1 vc] w λe w'=>e = .returned (.slice (some ⟨w.heap.size,0,none⟩) (n+1) G)∧w'=w.drew.alloc (.cells A 320):=by
  go_enter func261,ntmps261
  cases base with
  |none=>
   obtain⟨rfl,rfl⟩:=Td rfl
   go_wp2_with (at_builtin;refine Lib.wpList_append_run _ rfl _ _ _ _ rfl _ _ rfl rfl _ _ (kp _) ?_)
   go_ret
   exact⟨rfl,rfl⟩
  |some a=>
   obtain⟨ab,ao,asp⟩:=a
   go_wp2_with (at_builtin;refine Lib.wpList_append_run _ rfl _ _ _ _ rfl _ _ rfl rfl _ _ (kp _) ?_)
   all_goals (go_ret;exact⟨rfl,rfl⟩)
 exact main.mono λe w' h=>⟨G,A,h.1,h.2,hG1,hG3,hAs,hAt⟩
set_option maxHeartbeats 6400000 in
theorem aua(b vb n c i vc:Nat)(cur qg:Array Value)(w:World)(hi:i<n)(hnc:n<=c)(ry:c<n+1)(aaL:(n+1)*80<=140737488355328)(hvb:vb≠b)(hb:w.heap[b]? = some (.cells cur 320 (0,0)))(BW:cur.size=c*8)
  (hv:w.heap[vb]? = some (.cells qg 320 (0,0))) (PY:8<=qg.size) (h1:∀v∈cur.toList.take (n*8),v.oneCell'=true) (h1v:∀v∈qg.toList.take 8,v.oneCell'=true) :
  Calls prog 261 #[.slice (some ⟨b,0,none⟩) n c,.int .i64 i,.slice (some ⟨vb,0,none⟩) 1 vc] w λe w'=>
   ∃(c':Nat) (A:Array Value) (X Y:Array Value),e = .returned (.slice (some ⟨w.heap.size,0,none⟩) (n+1) c')∧w'=(((w.alloc (.cells X 320)).drew.setRow w.heap.size Y).drew).setRow w.heap.size A∧n+1<=c'∧c'<=9223372036854775807∧A.size=c'*8∧A.toList.take ((n+1)*8)=cur.toList.take (i*8)++qg.toList.take 8++(cur.toList.take (n*8)).drop (i*8):=by
 obtain⟨i0,hi0,z,hz0,GA,hzb,hzz⟩:∃i0,prog.info? 320=some i0∧∃z,i0.zero=some z∧i0.size=8∧i0.bytes=80∧z.cells.size=8:=by
  have yl:(prog.info? 320).map (λi=>(i.size,i.bytes,i.zero.map λz=>z.cells.size))=some (8,80,some 8):=bp;cases hq:prog.info? 320 with
  |none=>simp[hq]at yl
  |some i=>
   simp only[hq,Option.map_some,Option.some.injEq,Prod.mk.injEq,Option.map_eq_some_iff]at yl;obtain⟨h1,h2,z,h3,h4⟩:=yl;exact⟨i,rfl,z,h3,h1,h2,h4⟩
 have IU:prog.underlying 303=some (.slice 320):=bp;have u3:prog.underlying 3=some (.int .i64):=bp;have apx:(prog.info? 320).map (·.size)=some 8:=by rw[hi0];simp[GA]
 have hcn:c=n:=ah;subst hcn;have h8i:i*8+8<=c*8:=ah;obtain⟨V,hV⟩:∃V,V=qg.toList.take 8:=⟨_,rfl⟩;have Ts:V.length=8:=aeH;obtain⟨S,hS⟩:∃S,S=(cur.toList.take (c*8)).drop (i*8):=⟨_,rfl⟩;have Ud:S.length=(c-i)*8:=adN;obtain⟨O,hO⟩:∃O,O=cur.toList.take (i*8):=⟨_,rfl⟩;have hOl:O.length=i*8:=by rw[hO,List.length_take,Array.length_toList,BW];omega
 have hold:(Builtin.firstCells i0.size i (.slice (some ⟨b,0,none⟩) i c)).run prog w.drew = .ok O.toArray w.drew:=by
  rw[GA]
  exact run_firstCells_some w.drew 8 i ⟨b,0,none⟩ i c O hOl (λj v hj=>by
   rw[Addr.add_lit,Nat.zero_add];refine vH (w:=w.drew) hb ?_;rw[hO,List.getElem?_take]at hj
   split at hj
   .exact hj
   .cases hj)
 have hkk:(c:Int)+1-(i:Int)=((c+1-i:Nat):Int):=ah;have hik:i+(c+1-i)=c+1:=ah;have hG1:=grownCap_ge w (c+1) c 320;have hG2:=grownCap_le_maxLen w (c+1) c 320 Ks;obtain⟨G,hG⟩:∃G,G=grownCap w (c+1) c 320:=⟨_,rfl⟩;obtain⟨R,hR⟩:∃R:Array Value,R=O.toArray++Builtin.zeroCells z.cells (c+1-i)++Builtin.zeroCells z.cells (G-(c+1)):=⟨_,rfl⟩
 have hrz:∀ty,(Builtin.append_ #[303,3] ty #[.slice (some ⟨b,0,none⟩) i c,.int .i64 ((c:Int)+1-(i:Int))]).run prog w = .ok (.slice (some ⟨w.heap.size,0,none⟩) (c+1) G) (w.drew.alloc (.cells R 320)):=λty=>by
  have h:=Lib.run_append_grow_zeros w 303 3 ty 320 i0 z .i64 .i64 IU u3 hi0 hz0 (some ⟨b,0,none⟩) i c O.toArray.toList (by simpa using hold) (c+1-i) ah ah ah ah (by rw[hzb];omega) (by rw[hzb,hik];exact growslice_fits ry aaL);rw[hik,<-hG]at h;rw[hkk,h,hR]
 rw[<-hG]at hG1 hG2
 have hZ:∀k,(Builtin.zeroCells z.cells k).size=k*8:=λk=>by
  have e1:(Builtin.zeroCells z.cells k).toList=(List.replicate k z.cells.toList).flatten:=pU z.cells ah _;rw[<-Array.length_toList,e1];simp[hzz]
 have hRs:R.size=G*8:=by
  rw[hR,Array.size_append,Array.size_append,hZ,hZ];simp[hOl];omega
 have hRt:R.toList.take (i*8)=O:=by
  rw[hR];simp only[Array.toList_append,List.toList_toArray];rw[List.append_assoc];exact List.take_left' hOl
 have hG3:G<=9223372036854775807:=adV;obtain⟨W1,hW1⟩:∃W1,W1=(w.drew.alloc (.cells R 320)):=⟨_,rfl⟩;have hbl:b<w.heap.size:=(Array.getElem?_eq_some_iff.1 hb).1;have Yt:vb<w.heap.size:=(Array.getElem?_eq_some_iff.1 hv).1;have hn1:W1.heap[w.heap.size]? = some (.cells R 320 (0,0)):=by rw[hW1];exact heap_alloc_new w.drew _
 have hv1:W1.heap[vb]? = some (.cells qg 320 (0,0)):=by rw[hW1,Below.heap_alloc _ _ _ (by simpa using Yt)];exact hv
 have ND:W1.heap[b]? = some (.cells cur 320 (0,0)):=by rw[hW1,Below.heap_alloc _ _ _ (by simpa using hbl)];exact hb
 obtain⟨Y,hY⟩:∃Y:Array Value,Y=(R.toList.take (i*8)++V++R.toList.drop (i*8+V.length)).toArray:=⟨_,rfl⟩;have hYs:Y.size=R.size:=by rw[hY];simp[Ts];omega
 have awA:∀(W:World),(∀x,W.heap[x]? = W1.heap[x]?)->∀ty dc,(Builtin.copy_ #[303,303] ty #[.slice (some ⟨w.heap.size,i*8,none⟩) (c+1-i) dc,.slice (some ⟨vb,0,none⟩) 1 vc]).run prog W = .ok (goInt ((1:Nat):Int)) (W.setRow w.heap.size Y):=λW hW ty dc=>by
  have hm:Nat.min 1 (c+1-i)=1:=adF
  have:=wS (P:=prog) W 303 303 ty 320 8 w.heap.size (i*8) (c+1-i) dc ⟨vb,0,none⟩ 1 vc R 320 V IU apx ((hW _).trans hn1) (by rw[Ts,hm])
   (λj v hj=>by
    rw[Addr.add_lit];refine vH ((hW _).trans hv1) ?_;rw[hV,List.getElem?_take]at hj
    split at hj
    .rw[Nat.zero_add];exact hj
    .cases hj) (by rw[Ts,hRs];omega) (λv hv=>h1v v (hV ▸ hv))
  rw[hm]at this;rw[this,hY]
 obtain⟨A,hA⟩:∃A:Array Value,A=(Y.toList.take ((i+1)*8)++S++Y.toList.drop ((i+1)*8+S.length)).toArray:=⟨_,rfl⟩;have hn2:(W1.setRow w.heap.size Y).heap[w.heap.size]? = some (.cells Y 320 (0,0)):=setRow_heap W1 _ R Y 320 _ hn1;have Ap:(W1.setRow w.heap.size Y).heap[b]? = some (.cells cur 320 (0,0)):=(setRow_other W1 _ b Y ah).trans ND
 have awB:∀(W:World),(∀x,W.heap[x]? = (W1.setRow w.heap.size Y).heap[x]?)->∀ty dc sc,(Builtin.copy_ #[303,303] ty #[.slice (some ⟨w.heap.size,(i+1)*8,none⟩) (c-i) dc,.slice (some ⟨b,i*8,none⟩) (c-i) sc]).run prog W = .ok (goInt ((c-i:Nat):Int)) (W.setRow w.heap.size A):=λW hW ty dc sc=>by
  have hm:Nat.min (c-i) (c-i)=c-i:=Nat.min_self _
  have:=wS (P:=prog) W 303 303 ty 320 8 w.heap.size ((i+1)*8) (c-i) dc ⟨b,i*8,none⟩ (c-i) sc Y 320 S IU apx ((hW _).trans hn2) (by rw[Ud,hm])
   (λj v hj=>by
    rw[Addr.add_lit];refine vH ((hW _).trans Ap) ?_;rw[hS,List.getElem?_drop,List.getElem?_take]at hj
    split at hj
    .exact hj
    .cases hj) (by rw[Ud,hYs,hRs];omega) (λv hv=>h1 v aeF)
  rw[hm]at this;rw[this,hA]
 have hAs:A.size=G*8:=by rw[hA];simp[Ud];omega
 have hAt:A.toList.take ((c+1)*8)=O++V++S:=by
  have e1:Y.toList.take ((i+1)*8)=O++V:=by
   rw[hY];simp only[List.toList_toArray];rw[hRt];exact List.take_left' (by simp[hOl,Ts];omega)
  rw[hA,e1];simp only[List.toList_toArray];exact List.take_left' (by simp[hOl,Ts,Ud];omega)
 rw[<-hS,<-hV,<-hO];have mixed:prog.follows Departure.mixedOrders=true:=bp;have aww:IntKind.i64.wrap ((i:Int)+1)=(i:Int)+1:=tX;have awx:(0:Int)<=(i:Int)+1:=ah;have hz2:¬((i:Int)=(c:Int)):=ah;have hz3:(c:Int)<(c:Int)+1:=ah;have xW:i<=c:=ah;have htn:((i:Int)+1).toNat=i+1:=ah;have hGi:¬(G=i):=ah;have aM5:¬(G=i+1):=ah;have hci:¬(c=i):=ah;have GH:(i:Int)<=(c:Int):=ah;subst hW1;have hF:∀x:Nat,(World.drew (World.setRow (World.drew (World.alloc w (.cells R 320))) w.heap.size Y)).heap[x]? = ((w.drew.alloc (.cells R 320)).setRow w.heap.size Y).heap[x]? := λ_=>rfl
 clear hkk hik hold hR hG hRt hV hS hO hY hA
 go_enter func261,ntmps261
 go_wp2_with (first
  |(at_builtin;refine Lib.wpList_append_run _ rfl _ _ _ _ rfl _ _ rfl rfl _ _ (hrz _) ?_)
  |(refine Ca _ rfl _ _ 303 303 rfl _ _ rfl rfl (awA _ (λ_=>rfl) _ _) ?_))
 go_region_law_o (refine Et (P:=prog) rfl _ _ 303 303 rfl _ _ XZ XZ (awB (((w.alloc (.cells R 320)).drew.setRow w.heap.size Y).drew) hF _ _ _) ?_)
 go_wp2
 go_ret
 exact⟨G,A,R,Y,rfl,rfl,hG1,hG3,hAs,hAt⟩
set_option maxHeartbeats 6400000 in
theorem auV(b n c i j:Nat)(cur:Array Value)(w:World)(hi:i<j)(hj:j<=n)(hnc:n<=c)(hc:c<=9223372036854775807)(hb:w.heap[b]? = some (.cells cur 320 (0,0)))(BW:cur.size=c*8)(h1:∀v∈cur.toList.take (n*8),v.oneCell'=true) :
  Calls prog 141 #[.slice (some ⟨b,0,none⟩) n c,.int .i64 i,.int .i64 j] w λe w'=>
   e = .returned (.slice (some ⟨b,0,none⟩) (i+(n-j)) c)∧∃A:Array Value,w'=w.drew.setRow b A∧A.size=cur.size∧A.toList.take ((i+(n-j))*8)=cur.toList.take (i*8)++(cur.toList.take (n*8)).drop (j*8):=by
 obtain⟨i0,hi0,GA⟩:∃i0,prog.info? 320=some i0∧i0.size=8:=by
  have yl:(prog.info? 320).map (·.size)=some 8:=bp;cases hq:prog.info? 320 with
  |none=>simp[hq]at yl
  |some i=>exact⟨i,rfl,by simpa [hq]using yl⟩
 obtain⟨z0,wM,Wj⟩:=(inferInstance:lK prog 303 320 8 80 _).h;have hzo:=Aq (T:=303) Wj dF;have IU:prog.underlying 303=some (.slice 320):=bp;obtain⟨S,hS⟩:∃S,S=(cur.toList.take (n*8)).drop (j*8):=⟨_,rfl⟩;have Ud:S.length=(n-j)*8:=adN;have hbd:w.drew.heap[b]? = some (.cells cur 320 (0,0)):=hb
 have Wo:∀q,n-j=0∨q=j*8->Go.Src prog i0.size 303 (.slice (some ⟨b,q,none⟩) (n-j) (c-j)) (n-j) S w.drew:=λq hq=>by
  rw[GA];refine Go.Src.ofSlice w.drew IU ⟨b,q,none⟩ (n-j) (c-j) S Ud (λk u hk=>?_) (λu hu=>h1 u (by rw[hS]at hu;exact List.mem_of_mem_drop hu));have hkl:=(List.getElem?_eq_some_iff.1 hk).1;rcases hq with hq|rfl
  .rw[Ud,hq]at hkl;omega
  .rw[Addr.add_lit]
   refine vH hbd ?_;rw[hS,List.getElem?_drop,List.getElem?_take]at hk
   split at hk
   .exact hk
   .cases hk
 obtain⟨X,hX⟩:∃X:Array Value,X=(cur.toList.take (i*8)++S++cur.toList.drop (i*8+S.length)).toArray:=⟨_,rfl⟩;have h8:i*8+(n-j)*8<=c*8:=ah;have hXs:X.size=cur.size:=by rw[hX];simp[Ud];omega
 have hXt:X.toList.take ((i+(n-j))*8)=cur.toList.take (i*8)++S:=by
  rw[hX];simp only[List.toList_toArray];exact List.take_left' (by simp[Ud];omega)
 have kp:∀q,n-j=0∨q=j*8->∀ty,(Builtin.append_ #[303,303] ty #[.slice (some ⟨b,0,none⟩) i c,.slice (some ⟨b,q,none⟩) (n-j) (c-j)]).run prog w.drew = .ok (.slice (some ⟨b,0,none⟩) (i+(n-j)) c) (w.drew.setRow b X):=λq hq ty=>by
  have:=AA w.drew 303 303 ty 320 i0 IU hi0 b i c _ (n-j) S (Wo q hq) ah cur 320 hbd (by rw[GA,Ud,BW];exact h8);rw[this,hX,GA]
 have hbX:(w.drew.setRow b X).heap[b]? = some (.cells X 320 (0,0)):=setRow_heap w.drew b cur X 320 _ hbd;have hk:n-(i+(n-j))=j-i:=ah;have h9:(i+(n-j))*8+(j-i)*8<=c*8:=ah;obtain⟨A,hA⟩:∃A:Array Value,A=(X.toList.take ((i+(n-j))*8)++(List.replicate (j-i) z0.cells.toList).flatten++X.toList.drop ((i+(n-j))*8+(j-i)*8)).toArray:=⟨_,rfl⟩;have hZ:((List.replicate (j-i) z0.cells.toList).flatten).length=(j-i)*8:=by simp[wM.Eo]
 have hAs:A.size=cur.size:=by rw[hA];simp[wM.Eo];omega
 have hAt:A.toList.take ((i+(n-j))*8)=cur.toList.take (i*8)++S:=by
  rw[hA,hXt];simp only[List.toList_toArray];rw[List.append_assoc];exact List.take_left' (by simp[Ud];omega)
 have apz:∀ty sc,(Builtin.clear_ #[303] ty #[.slice (some ⟨b,(i+(n-j))*8,none⟩) (n-(i+(n-j))) sc]).run prog (w.drew.setRow b X) = .ok (.tuple #[]) (w.drew.setRow b A):=λty sc=>by
  rw[hk];have:=Nf (P:=prog) wM (w.drew.setRow b X) (n:=j-i) (c:=sc) (o:=(i+(n-j))*8) hbX ah hzo ty ah;rw[this,hA,setRow_setRow]
 have mixed:prog.follows Departure.mixedOrders=true:=bp;have hz2:¬((i:Int)=(j:Int)):=ah;have xW:i<=n:=ah;have aM7:(i:Int)<=(n:Int):=ah;have hjI:(j:Int)<=(n:Int):=ah;have aM8:(i:Int)<=(j:Int):=ah;have hjc:(j:Int)<=(c:Int):=ah;have aM9:(n:Int)<=(c:Int):=ah;have DM:i<=j:=ah;have Em:¬(c=i+(n-j)):=ah;have hle:i+(n-j)<=n:=ah;have aNa:(i:Int)+((n-j:Nat):Int)<=(n:Int):=ah;rw[<-hS];clear hS hX hA hXt hZ;have aNb:(i:Int)<=(c:Int):=ah;have hic:i<=c:=ah
 by_cases hcj:c=j
 .have hr:=kp 0 (.inl ah)
  have hcn:c=n:=ah;subst hcj;subst hcn;have e0:c-c=0:=Nat.sub_self c;rw[e0,Nat.add_zero]at hr apz hAt hk |-
  go_enter func141,ntmps141
  go_wp2
  go_region_law_o (refine Cb (P:=prog) rfl _ _ 303 303 rfl (.slice (some ⟨b,0,none⟩) i c) (.slice (some ⟨b,0,none⟩) 0 0) XX XX (hr _) ?_)
  go_wp2
  go_ret
  exact⟨rfl,A,rfl,Yc,hAt⟩
 .have hr:=kp (j*8) (.inr rfl)
  rw[hk]at apz
  go_enter func141,ntmps141
  go_wp2
  go_region_law_o (refine Cb (P:=prog) rfl _ _ 303 303 rfl (.slice (some ⟨b,0,none⟩) i c) (.slice (some ⟨b,j*8,none⟩) (n-j) (c-j)) XX XX (hr _) ?_)
  go_wp2
  go_ret
  exact⟨rfl,A,rfl,Yc,hAt⟩
theorem Rq{C:Ctx}{F:dj}{γ:eD}{h:eW}{used:List Nat}{w w':World}(H:WS C F γ h used w){id0 id:Nat}{e0 e1:HE}{g0 g1:Value}(h0:cF h id0=some e0)(hg:γ id0=some g0)(S:uF w w' (fA g0))(hi:id ∉ used)
  (he:Gy F γ w' e1 g1) (hb:∀b,fA g1=some b->fA g0=some b∨b=w.heap.size):WS C F (γ.up id g1) ((id,some e1)::(id0,none)::h) (id::used) w':=by
 refine(H.GQ h0 hg S).add hi he (λb je=>?_);rcases hb b je with q|q
 .have ho:=H.own id0 e0 g0 b h0 hg q
  refine⟨ho.1,ho.2,λuS e' g' hh oV BX=>?_⟩;rw[cH]at hh
  split at hh
  .cases hh
  .rename_i nq
   exact nq (H.apart id0 uS e0 e' g0 g' b h0 hh hg oV q BX)
 .subst q
  refine⟨?_,.inr H.size,λuS e' g' hh oV BX=>?_⟩
  .cases hF:F w.heap.size with
   |none=>rfl
   |some cs=>exact absurd (H.flt hF) (Nat.lt_irrefl _)
  .rw[cH]at hh
   split at hh
   .cases hh
   .obtain⟨g2,k1,k2⟩:=H.si uS e' hh
    rw[oV]at k1;injection k1 with k1;subst k1
    exact absurd (k2.lt _ BX) (Nat.lt_irrefl _)
def aeY(l:List aD)(i:Int)(v:List aD):Option (List aD) :=Hu (0<=i∧i<=l.length∧v.length=1∧(l.length+1)*80<=140737488355328) (some (l.take i.toNat++v++l.drop i.toNat))
def aeZ(l:List aD)(i j:Int):Option (List aD) :=Hu (0<=i∧i<j∧j<=l.length) (some (l.take i.toNat++l.drop j.toNat))
instance ath{l v:List aD}{i:Int}:MA (aeY l i v) prog 261 (λ_=>3) λr=>⟨[.row 9000,.I i,.row 9001],[(9000,some (.R 320 8 dG l)),(9001,some (.R 320 8 dG v))],.row 5000,[(5000,some (.R 320 8 dG r)),(9000,none),(9001,none)],[5000]⟩:=⟨fun {r} hM=>by
 obtain⟨⟨hi0,hil,hv1,aaL⟩,hM⟩:=mP hM;obtain rfl:=Option.some.inj hM;obtain⟨k,rfl⟩:=Int.eq_ofNat_of_zero_le hi0;simp only[Int.toNat_natCast];have hkl:k<=l.length:=ah;intro C F γ heap used w vs f rS mz hinj H hv;have he:cF heap (f 9000)=some (.row 320 8 (l.map dG)):=rS 9000 _ rfl;have he2:cF heap (f 9001)=some (.row 320 8 (v.map dG)):=rS 9001 _ rfl;have nq:f 9001≠f 9000:=λe=>absurd (hinj 9001 aR 9000 aR e) aV
 have hn5:f 5000 ∉ used:=mz 5000 aR;obtain⟨g,hg,xs,DK,hxs⟩:=H.si _ _ he;obtain⟨g2,vO,ys,YG,hys⟩:=H.si _ _ he2;simp only[yC,DV.xT,tQ,Rs]at hv;obtain⟨v1,r1,rfl,k1,v2,r2,rfl,rfl,v3,r3,rfl,k3,rfl⟩:=hv;rw[hg]at k1;injection k1 with k1;subst k1
 rw[vO]at k3;injection k3 with k3;subst k3
 rw[List.length_map]at DK YG;rw[hv1]at YG;rcases YG.2 with⟨_,q⟩|⟨vb,vc,qg,rfl,_,p2,p3,p4,p5,p6⟩
 .cases q
 have PY:8<=qg.size:=ah;have apA:=hys.one;have afP:=hxs.one;have zH:=hxs.len;rw[List.length_map]at zH;have aHO:ys.length=8:=YG.1
 have hE:∀k,k<=l.length->rm F 8 ((l.take k++v++l.drop k).map dG) (xs.take (k*8)++ys++xs.drop (k*8)):=λk hk=>by
  rw[List.map_append,List.map_append,List.map_take,List.map_drop];exact((hxs.take k).append hys).append (hxs.drop k)
 have hlen:((l.take k++v++l.drop k).map dG).length=l.length+1:=by simp[hv1];omega
 -- the end of all ways: the new row stands
 have fin:∀(w':World) (b c':Nat) (A:Array Value),uF w w' (fA g)->w'.heap[b]? = some (.cells A 320 (0,0))->(fA g=some b∨b=w.heap.size)->l.length+1<=c'->c'<=maxLen->A.size=c'*8->A.toList.take ((l.length+1)*8)=xs.take (k*8)++ys++xs.drop (k*8) ->
   ∃u F' γ',Ending.returned (.slice (some ⟨b,0,none⟩) (l.length+1) c') = .returned u∧lJ F F'∧nW γ γ'∧WS C F' γ' (sN f [(5000,some (.R 320 8 dG (l.take k++v++l.drop k))),(9000,none),(9001,none)]++heap) (List.map f [5000]++used) w'∧Rs F' γ' (DV.xT f (.row 5000)) u:=by
  intro w' b c' A S hA hb h1 h2 h3 h4
  have afI:Gy F γ w' (.row 320 8 ((l.take k++v++l.drop k).map dG)) (.slice (some ⟨b,0,none⟩) (l.length+1) c'):=by
   refine⟨xs.take (k*8)++ys++xs.drop (k*8),⟨?_,.inr ⟨b,c',A,?_,Nat.zero_le _,hA,?_,h2,h3,?_⟩⟩,hE k hkl⟩
   .rw[hlen,<-h4,List.length_take,Array.length_toList (xs:=A),h3];omega
   .rw[hlen]
   .rw[hlen];exact h1
   .rw[hlen];exact h4
  have W:=Rq H he hg S hn5 afI (λb' je=>by
   simp only[fA,Option.some.injEq]at je;subst je;exact hb)
  refine⟨_,F,γ.up (f 5000) (.slice (some ⟨b,0,none⟩) (l.length+1) c'),rfl,lJ.refl _,pF _ (H.fresh hn5),?_,aeA⟩;refine(W.forget (f 9001)).congr (λid e hi=>?_) (λ_ h=>h);simp only[sN,List.map_cons,List.map_nil,List.cons_append,List.nil_append,Option.map_some,Option.map_none,HE.xT]at hi;rw[cH]at hi |-;rw[cH]at hi |-;rw[cH]at hi |-;have awC:f 5000≠f 9001:=λe=>hn5 (e ▸ H.us _ _ vO)
  split at hi
  .rename_i q
   rw[if_neg (by rw[<-q];exact awC.symm),if_pos q];exact hi
  .rename_i q
   split at hi
   .cases hi
   .rename_i q2
    split at hi
    .cases hi
    .rename_i q3
     rw[if_neg q3,if_neg q,if_neg q2];exact hi
 have aHP:∀(W:World) (X:List Obj),True:=λ_ _=>trivial
 have Tu:∀u∈qg.toList.take 8,u.oneCell'=true:=λu hu=>apA u (by rw[<-p6];exact hu)
 have p6':qg.toList.take 8=ys:=p6;have aNc:vb<w.heap.size:=(Array.getElem?_eq_some_iff.1 p2).1;rcases DK.2 with⟨rfl,hl0⟩|⟨b,c,cur,rfl,_,q2,q3,q4,q5,q6⟩
 . -- the nil row
  have hk0:k=0:=ah;subst hk0;rw[hl0]at hkl;have hc:=an4 none vb 0 0 vc [] qg w (Nat.le_refl _) ah ah rfl (λ_=>⟨rfl,rfl⟩) (λa ha=>by cases ha) p2 PY Tu;refine hc.mono ?_;rintro e w' ⟨c',A,rfl,rfl,h1,h2,h3,h4⟩;have hx0:xs = []:=List.eq_nil_of_length_eq_zero (by rw[zH,hl0]);have:=fin (w.drew.alloc (.cells A 320)) w.heap.size c' A ((uF.drew w).trans (uF.alloc _ _)).any (heap_alloc_new w.drew _) (.inr rfl) ah h2 h3 (by rw[hl0,h4,hx0,p6'];simp);rw[hl0]at this;exact this
 .have hbv:vb≠b:=λe=>nq (H.apart _ _ _ _ _ _ b he2 he vO hg VI (by simp[fA]))
  have hbl:b<w.heap.size:=(Array.getElem?_eq_some_iff.1 q2).1;have q4':c<=9223372036854775807:=adP;have hxo:∀u∈cur.toList.take (l.length*8),u.oneCell'=true:=λu hu=>afP u (by rw[<-q6];exact hu)
  have hx1:cur.toList.take (k*8)=xs.take (k*8):=adK
  by_cases ry:l.length+1<=c
  .by_cases hend:k=l.length
   .subst hend
    refine(aub b vb l.length c vc cur qg w ry q2 q5 p2 PY Tu).mono ?_;rintro e w' ⟨rfl,A,rfl,h1,h2⟩;obtain⟨s1,s2⟩:=uF.setRow A q2;exact fin _ b c A s1 s2 (.inl rfl) ry q4 (h1.trans q5) (by rw[h2,hx1,p6',List.drop_of_length_le ah,List.append_nil])
   .refine(at7 b vb l.length c k vc cur qg w ah ry q4' hbv q2 q5 p2 PY hxo Tu).mono ?_
    rintro e w' ⟨rfl,A,rfl,h1,h2⟩;obtain⟨s1,s2⟩:=uF.setRow (w:=w.drew) A q2;exact fin _ b c A ((uF.drew w).any.trans s1) s2 (.inl rfl) ry q4 (h1.trans q5) (by rw[h2,hx1,p6',q6])
  .by_cases hend:k=l.length
   .subst hend
    have hc:=an4 (some ⟨b,0,none⟩) vb l.length c vc xs qg w q3 ah aaL zH (λh=>dI) (λa ha j u hj=>by
     injection ha with ha;subst ha
     rw[Addr.add_lit,Nat.zero_add];refine vH q2 ?_;rw[<-q6,List.getElem?_take]at hj
     split at hj
     .exact hj
     .cases hj) p2 PY Tu
    refine hc.mono ?_;rintro e w' ⟨c',A,rfl,rfl,h1,h2,h3,h4⟩;exact fin (w.drew.alloc (.cells A 320)) w.heap.size c' A ((uF.drew w).trans (uF.alloc _ _)).any (heap_alloc_new w.drew _) (.inr rfl) h1 h2 h3 (by rw[h4,p6',List.take_of_length_le ah,List.drop_of_length_le ah,List.append_nil])
   .refine(aua b vb l.length c k vc cur qg w ah q3 ah aaL hbv q2 q5 p2 PY hxo Tu).mono ?_
    rintro e w' ⟨c',A,X,Y,rfl,rfl,h1,h2,h3,h4⟩;have a1:(w.alloc (.cells X 320)).drew.heap[w.heap.size]? = some (.cells X 320 (0,0)):=heap_alloc_new w _;obtain⟨s1,s2⟩:=uF.setRow (w:=(w.alloc (.cells X 320)).drew) Y a1;obtain⟨s3,s4⟩:=uF.setRow (w:=((w.alloc (.cells X 320)).drew.setRow w.heap.size Y).drew) A s2
    have S:uF w (((w.alloc (.cells X 320)).drew.setRow w.heap.size Y).drew.setRow w.heap.size A) none:=by
     have t1:uF w (w.alloc (.cells X 320)).drew none:=(uF.alloc w _).trans (uF.drew _);have t2:=s1.trans ((uF.drew _).any.trans s3);refine⟨t2.os.trans t1.os,t2.tape.trans t1.tape,t2.output.trans t1.output,Nat.le_trans t1.size t2.size,λi hi _=>?_⟩;have EH:i<(w.alloc (.cells X 320)).drew.heap.size:=Nat.lt_of_lt_of_le hi t1.size;exact(t2.block i EH iC).trans (t1.block i hi aR)
    exact fin _ w.heap.size c' A S.any s4 (.inr rfl) h1 h2 h3 (by rw[h4,hx1,p6',q6])⟩
instance ati{l:List aD}{i j:Int}:MA (aeZ l i j) prog 141 (λ_=>2) λr=>⟨[.row 9000,.I i,.I j],[(9000,some (.R 320 8 dG l))],.row 5000,[(5000,some (.R 320 8 dG r)),(9000,none)],[5000]⟩:=⟨fun {r} hM=>by
 obtain⟨⟨hi0,DM,IP⟩,hM⟩:=mP hM;obtain rfl:=Option.some.inj hM;obtain⟨k,rfl⟩:=Int.eq_ofNat_of_zero_le hi0;obtain⟨m,rfl⟩:=Int.eq_ofNat_of_zero_le (show 0<=j by omega);simp only[Int.toNat_natCast];have hkm:k<m:=ah;have hml:m<=l.length:=ah;intro C F γ heap used w vs f rS mz hinj H hv;have he:cF heap (f 9000)=some (.row 320 8 (l.map dG)):=rS 9000 _ rfl;have hn5:f 5000 ∉ used:=mz 5000 aR;obtain⟨g,hg,xs,DK,hxs⟩:=H.si _ _ he;simp only[yC,DV.xT,tQ,Rs]at hv;obtain⟨v1,r1,rfl,k1,v2,r2,rfl,rfl,v3,r3,rfl,rfl,rfl⟩:=hv;rw[hg]at k1;injection k1 with k1;subst k1
 rw[List.length_map]at DK;rcases DK.2 with⟨_,q⟩|⟨b,c,cur,rfl,_,q2,q3,q4,q5,q6⟩
 .omega
 have afP:=hxs.one;have zH:=hxs.len;rw[List.length_map]at zH;have q4':c<=9223372036854775807:=adP;have hxo:∀u∈cur.toList.take (l.length*8),u.oneCell'=true:=λu hu=>afP u (by rw[<-q6];exact hu)
 have hx1:cur.toList.take (k*8)=xs.take (k*8):=adK;have hlen:((l.take k++l.drop m).map dG).length=k+(l.length-m):=iC;refine(auV b l.length c k m cur w hkm hml q3 q4' q2 q5 hxo).mono ?_;rintro e w' ⟨rfl,A,rfl,h1,h2⟩;obtain⟨s1,s2⟩:=uF.setRow (w:=w.drew) A q2
 have afI:Gy F γ (w.drew.setRow b A) (.row 320 8 ((l.take k++l.drop m).map dG)) (.slice (some ⟨b,0,none⟩) (k+(l.length-m)) c):=by
  refine⟨xs.take (k*8)++xs.drop (m*8),⟨?_,.inr ⟨b,c,A,?_,Nat.zero_le _,s2,?_,q4,h1.trans q5,?_⟩⟩,?_⟩
  .rw[hlen,List.length_append,List.length_take,List.length_drop,zH];omega
  .rw[hlen]
  .rw[hlen];omega
  .rw[hlen,h2,hx1,q6]
  .rw[List.map_append,List.map_take,List.map_drop]
   exact(hxs.take k).append (hxs.drop m)
 have W:=Rq H he hg ((uF.drew w).any.trans s1) hn5 afI (λb' je=>by
  simp only[fA,Option.some.injEq]at je |-;exact .inl je)
 exact⟨_,F,γ.up (f 5000) (.slice (some ⟨b,0,none⟩) (k+(l.length-m)) c),rfl,lJ.refl _,pF _ (H.fresh hn5),W,aeA⟩⟩
end Go.Proofs.YtaafmkmdfcgeaaaGreatDoor
namespace Go.Proofs.YtaafmkmdfcgeaaaGreatDoor
open Go.Proofs.Tryz
open Go.RowKit
attribute [local irreducible] gL dH br gY jP dK fC kY
def GN(x:Nat->Int):List DV:=[.int .i64 (x 0),.int .i64 (x 1),.int .i64 (x 2),.int .i64 (x 3),.int .i64 (x 4),.int .i64 (x 5),.int .i64 (x 6),.int .i64 (x 7)]
structure ak where
 fX:bW
 dB:List aZ
 dq:Nat->(Nat->Int)
 eL:Nat->Int
 dE:Nat->Int
 bq:List (aI×Bool)
structure aU where
 ba:List aD
structure aP where
 dL:List aM
 aY:List Bool
 bf:List Int
def Jr(x:aP):List DV:=[.sl 3 (List.map fk x.dL),.sl 1 (List.map DV.bool x.aY),.sl 1 (List.map (DV.int .i64) x.bf)]
def fD(x:aP):DV:=.agg (Jr x)
structure bX where
 cA:bw
 lX:Int
 pX:cm
def Ug(x:bX):List DV:=[.int .i64 x.cA.gz,.int .i64 x.cA.uJ,.int .i64 x.cA.gN,.int .i64 x.lX,.int .i64 x.pX.Cl,.int .i64 x.pX.bU,.sl 1 (List.map (DV.int .i64) x.pX.cE)]
def uq(x:bX):DV:=.agg (Ug x)
structure az where
 EC:dJ
 ld:List au
 sd:List bX
 aJ6:Unit
 apR:Unit
 qP:Int
 bn:aP
 eh:List aP
 cr:List AEv
def SI.cs(x:Nat->Int):List DV:=[.int .i64 (x 0),.int .i64 (x 1),.int .i64 (x 2)]
structure cw where
 bC:Int
 uJ:Int
 bU:Int
 Hl:Int
 cQ:Int
 Vi:Int
 Pe:Bool
 cE:List Int
def abr(x:cw):List DV:=[.int .u8 x.bC,.int .i64 x.uJ,.int .i64 x.bU,.int .i64 x.Hl,.int .i64 x.cQ,.int .i64 x.Vi,.bool x.Pe,.sl 1 (List.map (DV.int .i64) x.cE)]
def mB(x:cw):DV:=.agg (abr x)
structure bZ where
 bL:aM
 dt:List cw
 jm:Int
def bZ.cs(x:bZ):List DV:=[.sl 1 (List.map (DV.int .i64) x.bL.eG),.sl 1 (List.map iU x.bL.dh),.sl 2 (List.map ur x.bL.ez.ba),.sl 8 (List.map mB x.dt),.int .i64 x.jm]
structure ew where
 cE:List Int
 Dt:Int
 aY:List Bool
 ez:Int
 xp:List Int
structure aJ where
 aE:bZ
 cM:List aC
 ca:ew
 cG:List Int
 sa:Int
 ml:Int
 dE:Int
 mm:Bool
def ak.b0(x:ak)(d1:DV)(d82:DV):List DV:=[.sl 7 (List.map df x.fX.ba),d1,.int .i64 ((x.dq 0) 0),.int .i64 ((x.dq 0) 1),.int .i64 ((x.dq 0) 2),.int .i64 ((x.dq 0) 3),.int .i64 ((x.dq 0) 4),.int .i64 ((x.dq 0) 5),.int .i64 ((x.dq 0) 6),.int .i64 ((x.dq 0) 7),.int .i64 ((x.dq 1) 0),.int .i64 ((x.dq 1) 1),.int .i64 ((x.dq 1) 2),.int .i64 ((x.dq 1) 3),.int .i64 ((x.dq 1) 4),.int .i64 ((x.dq 1) 5),.int .i64 ((x.dq 1) 6),.int .i64 ((x.dq 1) 7),.int .i64 ((x.dq 2) 0),.int .i64 ((x.dq 2) 1),.int .i64 ((x.dq 2) 2),.int .i64 ((x.dq 2) 3),.int .i64 ((x.dq 2) 4),.int .i64 ((x.dq 2) 5),.int .i64 ((x.dq 2) 6),.int .i64 ((x.dq 2) 7),.int .i64 ((x.dq 3) 0),.int .i64 ((x.dq 3) 1),.int .i64 ((x.dq 3) 2),.int .i64 ((x.dq 3) 3),.int .i64 ((x.dq 3) 4),.int .i64 ((x.dq 3) 5),.int .i64 ((x.dq 3) 6),.int .i64 ((x.dq 3) 7),.int .i64 ((x.dq 4) 0),.int .i64 ((x.dq 4) 1),.int .i64 ((x.dq 4) 2),.int .i64 ((x.dq 4) 3),.int .i64 ((x.dq 4) 4),.int .i64 ((x.dq 4) 5),.int .i64 ((x.dq 4) 6),.int .i64 ((x.dq 4) 7),.int .i64 ((x.dq 5) 0),.int .i64 ((x.dq 5) 1),.int .i64 ((x.dq 5) 2),.int .i64 ((x.dq 5) 3),.int .i64 ((x.dq 5) 4),.int .i64 ((x.dq 5) 5),.int .i64 ((x.dq 5) 6),.int .i64 ((x.dq 5) 7),.int .i64 ((x.dq 6) 0),.int .i64 ((x.dq 6) 1),.int .i64 ((x.dq 6) 2),.int .i64 ((x.dq 6) 3),.int .i64 ((x.dq 6) 4),.int .i64 ((x.dq 6) 5),.int .i64 ((x.dq 6) 6),.int .i64 ((x.dq 6) 7),.int .i64 ((x.dq 7) 0),.int .i64 ((x.dq 7) 1),.int .i64 ((x.dq 7) 2),.int .i64 ((x.dq 7) 3),.int .i64 ((x.dq 7) 4),.int .i64 ((x.dq 7) 5),.int .i64 ((x.dq 7) 6),.int .i64 ((x.dq 7) 7),.int .i64 (x.eL 0),.int .i64 (x.eL 1),.int .i64 (x.eL 2),.int .i64 (x.eL 3),.int .i64 (x.eL 4),.int .i64 (x.eL 5),.int .i64 (x.eL 6),.int .i64 (x.eL 7),.int .i64 (x.dE 0),.int .i64 (x.dE 1),.int .i64 (x.dE 2),.int .i64 (x.dE 3),.int .i64 (x.dE 4),.int .i64 (x.dE 5),.int .i64 (x.dE 6),.int .i64 (x.dE 7),d82]
def aZ.b0(x:aZ)(d3:DV):List DV:=[.int .i64 x.cA.gz,.int .i64 x.cA.uJ,.int .i64 x.cA.gN,d3]
def az.b0(x:az)(d4:DV)(d6:DV)(d7:DV)(d9:DV)(d10:DV)(d11:DV)(d12:DV)(d13:DV):List DV:=[.iv (sC x.EC.eX),.sl 7 (List.map df x.EC.iM.ba),.sl 4 (List.map du x.EC.oT),.int .i64 x.EC.lB,d4,.sl 7 (List.map uq x.sd),d6,d7,.int .i64 x.qP,d9,d10,d11,d12,d13]
def az.b1(x:az)(d0:DV)(d1:DV)(d2:DV)(d4:DV)(d5:DV)(d6:DV)(d7:DV)(d9:DV)(d10:DV)(d11:DV)(d12:DV)(d13:DV):List DV:=[d0,d1,d2,.int .i64 x.EC.lB,d4,d5,d6,d7,.int .i64 x.qP,d9,d10,d11,d12,d13]
def aJ.b0(x:aJ)(d0:DV)(d1:DV)(d3:DV)(d8:DV)(d11:DV):List DV:=[d0,d1,.sl 2 (List.map ur x.aE.bL.ez.ba),d3,.int .i64 x.aE.jm,.sl 4 (List.map fx x.cM),.sl 1 (List.map (DV.int .i64) x.ca.cE),.int .i64 x.ca.Dt,d8,.int .i64 x.ca.ez,.sl 1 (List.map (DV.int .i64) x.ca.xp),d11,.int .i64 x.sa,.int .i64 x.ml,.int .i64 x.dE,.bool x.mm]
def gy(x0:Int):Option Bool :=some ((decide (0<=x0))&&(decide (x0<8)))
instance TQ{x0}:MC (gy x0) λr=>br prog 189 [.I x0] (.bool r):=.p func189 ntmps189
def Ab(x0:aZ):Option Bool :=Bi (gy x0.cA.gz) λv2=>Bi (gb (!(!v2)) (false) (gy x0.cA.uJ)) λv4=>If (((((!v2)||(!v4))||(decide (x0.cA.gN<0)))||(decide (65535<x0.cA.gN)))||(decide (2<(x0.gP.length:Int)))) (some false)<|fO (E:=Bool) 1 38 [] [36,37] [] (λs t=>(4,.I s)::t) i2 [] [] m64 (x0.gP.length:Int) (λk5 s7=>Bi (idx x0.gP (k5:Int)) λv9=>If ((((decide (v9.Cl<s7))||(decide (v9.bU<0)))||(decide (8<=v9.bU)))||(decide (4<(v9.cE.length:Int)))) (some (.done false))<|nX [] [] (some (.next v9.Cl))) fun
  |.next s7=>some true
  |.done r=>some r
instance aa1{x0}:MC (Ab x0) λr=>br prog 123 [.agg (NR x0)] (.bool r):=.p func123 ntmps123
def tW(x0:aZ)(o0:bw):Option Bool :=rX [] (some ((x0.cA.gz==o0.gz)&&((x0.cA.uJ==o0.uJ)&&((x0.cA.gN==o0.gN)&&true))))
instance JS{x0 o0}:MA (tW x0 o0) prog 191 (λ_=>0) λr=>⟨[.agg (NR x0),.ref 9000 0],[(9000,some (.bJ 89 (jJ o0)))],.bool r,[(9000,some (.bJ 89 (jJ o0)))],[]⟩:=.b func191 ntmps191
def jc(o1:bw)(o0:List aZ):Option Int :=fO (E:=Int) () 8 [9000,9001] [0,1,7] [9000,9001] i2 i2 [] [] m64 (o0.length:Int) (λk1 _=>Bi (idx o0 (k1:Int)) λv4=>Bi (cl 16 [(9000,9001)] (tW v4 o1)) λv6=>If v6 (rX [] (some (.done (k1:Int))))<|nX [] [] (some (.next ()))) fun
  |.next _=>rX [] (some (-1))
  |.done r=>some r
instance Dc{o1 o0}:MA (jc o1 o0) prog 253 (λ_=>0) λr=>⟨[.row 9000,.CG 191 [.ref 9001 0]],[(9000,some (.R 181 4 du o0)),(9001,some (.bJ 89 (jJ o1)))],.I r,[(9000,some (.R 181 4 du o0)),(9001,some (.bJ 89 (jJ o1)))],[]⟩:=.b func253 ntmps253
def lh(o1:bw)(o0:List aZ):Option Bool :=Bi (cl 7 [] (jc o1 o0)) λv2=>rX [] (some (decide (0<=v2)))
instance Cd{o1 o0}:MA (lh o1 o0) prog 190 (λ_=>0) λr=>⟨[.row 9000,.CG 191 [.ref 9001 0]],[(9000,some (.R 181 4 du o0)),(9001,some (.bJ 89 (jJ o1)))],.bool r,[(9000,some (.R 181 4 du o0)),(9001,some (.bJ 89 (jJ o1)))],[]⟩:=.b func190 ntmps190
def mQ(x1:bw)(o0:ak):Option Bool :=Bi (cl 10 [(9000,9001),(9001,3)] (lh x1 o0.dB)) λv2=>rX [] (some v2)
instance Lw{x1 o0}:MA (mQ x1 o0) prog 124 (λ_=>0) λr=>⟨[.ref 9000 0,.agg (jJ x1)],[(9000,some (.bJ 299 (ak.b0 o0 (.row 9001) (.row 9002)))),(9001,some (.R 181 4 du o0.dB)),(9002,some (.mp (nU cU DV.bool o0.bq)))],.bool r,[(9000,some (.bJ 299 (ak.b0 o0 (.row 9001) (.row 9002)))),(9001,some (.R 181 4 du o0.dB)),(9002,some (.mp (nU cU DV.bool o0.bq)))],[]⟩:=.b func124 ntmps124
def jC(x0:cm):Option cm :=Ck (dK 8 (x0.cE.length))<|wk [.z 5]<|some x0
instance OX{x0}:MC (jC x0) λr=>br prog 125 [.agg (NL x0)] (.agg (NL r)):=.p func125 ntmps125
def zu(x0:bW)(x1:List aZ):Option ((ak)⊕((Unit)⊕((Unit)⊕(Unit)))) :=If (decide (16<(x1.length:Int))) (rX [] (some (.inr (.inr (.inl ())))))<|mv (nU cU DV.bool) []<|wk [.c 18 2000 1 181 4]<|fO (E:=(ak)⊕((Unit)⊕((Unit)⊕(Unit)))) ([]:List aZ) 21 [] [6,19,20] [] i2 (λs t=>(18,some (.bJ 299 (ak.b0 (ak.mk x0 [] (arr (arr 0 []) []) (arr 0 []) (arr 0 []) []) (.row 1001) (.row 1002))))::(1001,some (.R 181 4 du s))::(1002,some (.mp (nU cU DV.bool ([]:List (aI×Bool)))))::t) [] [(1001,2000),(1002,16)] m64 (x1.length:Int) (λk1 s3=>Bi (idx x1 (k1:Int)) λv5=>Bi (Ab v5) λv7=>If (!v7) (rX [] (some (.done (.inr (.inl ())))))<|Bi (cl 31 [(9000,18),(9001,1001),(9002,1002)] (mQ v5.cA (ak.mk x0 s3 (arr (arr 0 []) []) (arr 0 []) (arr 0 []) ([]:List (aI×Bool))))) λv9=>If v9 (rX [] (some (.done (.inr (.inr (.inr ()))))))<|fL ([]:List cm) 38 [] [6,9,19,20,21,36,37] [] i2 (λs t=>(9,some (.bJ 181 (aZ.b0 v5 (.row 1005))))::(18,some (.bJ 299 (ak.b0 (ak.mk x0 [] (arr (arr 0 []) []) (arr 0 []) (arr 0 []) []) (.row 1003) (.row 1004))))::(1003,some (.R 181 4 du s3))::(1004,some (.mp (nU cU DV.bool ([]:List (aI×Bool)))))::(1005,some (.R 183 3 xC s))::t) [.c 9 1006 3 183 3] [(1003,1001),(1004,1002),(1005,1006)] m64 (v5.gP.length:Int) (λTj EK=>Bi (idx v5.gP (Tj:Int)) λmA=>Bi (jC mA) λlI=>eE 46 (bA 3 xC) [lI] λxa=>Ck (dK 40 (EK.length+List.length xa))<|nX [] [(1005,47)] (some (EK++xa))) λEK=>wk [.z 1005]<|eE 56 (bA 4 du) [(aZ.mk v5.cA EK)] λkG=>Ck (dK 48 (s3.length+List.length kG))<|nX [] [(1001,57),(1002,1004)] (some (.next (s3++kG)))) fun
  |.next s3=>rX [(5000,18),(5001,1001),(5002,1002)] (some (.inl (ak.mk x0 s3 (arr (arr 0 []) []) (arr 0 []) (arr 0 []) ([]:List (aI×Bool)))))
  |.done r=>some r
instance af6{x0 x1}:MA (zu x0 x1) prog 68 (λ| .inl _=>3 | .inr (.inl _)=>0 | .inr (.inr (.inl _))=>0 | .inr (.inr (.inr _))=>0) λ| .inl r=>⟨[.agg (zQ x0),.L 4 du x1],[],.gh [.ref 5000 0,.I 0],[(5000,some (.bJ 299 (ak.b0 r (.row 5001) (.row 5002)))),(5001,some (.R 181 4 du r.dB)),(5002,some (.mp (nU cU DV.bool r.bq)))],[5000,5001,5002]⟩ | .inr (.inl r)=>⟨[.agg (zQ x0),.L 4 du x1],[],.gh [.val (.pointer none),.I 1],[],[]⟩ | .inr (.inr (.inl r))=>⟨[.agg (zQ x0),.L 4 du x1],[],.gh [.val (.pointer none),.I 3],[],[]⟩ | .inr (.inr (.inr r))=>⟨[.agg (zQ x0),.L 4 du x1],[],.gh [.val (.pointer none),.I 5],[],[]⟩:=⟨fun {r} hM=>by unfold zu at hM;rcases r with r|r|r|r <;> exact ab func68 ntmps68⟩
def Fs:Option aU :=wk [.c 2 2000 0 320 8]<|rX [(5000,2),(5001,2000)] (some (aU.mk ([]:List aD)))
instance:MA (Fs) prog 69 (λ_=>2) λr=>⟨[],[],.ref 5000 0,[(5000,some (.bJ 305 [.row 5001])),(5001,some (.R 320 8 dG r.ba))],[5000,5001]⟩:=.b func69 ntmps69
def zY(x0:dJ):Option dJ :=fL ([]:List aZ) 12 [] [1,2,10,11] [1,2] (λ_ t=>(3,.row 1001)::t) (λs t=>(1001,some (.R 181 4 du s))::t) [.r 3 1005 181 4] [(1001,1005)] m64 (x0.oT.length:Int) (λk1 s3=>Bi (idx x0.oT (k1:Int)) λv5=>fL ([]:List cm) 22 [] [1,2,6,10,11,12,20,21] [1,2] (λ_ t=>(3,.row 1002)::t) (λs t=>(6,some (.bJ 181 (aZ.b0 v5 (.row 1003))))::(1002,some (.R 181 4 du s3))::(1003,some (.R 183 3 xC s))::t) [.c 6 1004 3 183 3] [(1002,1001),(1003,1004)] m64 (v5.gP.length:Int) (λk6 s8=>Bi (idx v5.gP (k6:Int)) λv12=>Ck (dK 8 (v12.cE.length))<|wk [.z 28]<|eE 33 (bA 3 xC) [v12] λll=>Ck (dK 40 (s8.length+List.length ll))<|nX [] [(1003,34)] (some (s8++ll))) λs8=>wk [.z 1003]<|eE 39 (bA 4 du) [(aZ.mk v5.cA s8)] λv9=>Ck (dK 48 (s3.length+List.length v9))<|nX [] [(1001,40)] (some (s3++v9))) λs3=>wk [.z 1001]<|some ({ x0 with oT:=s3 }:dJ)
instance aaU{x0}:MC (zY x0) λr=>br prog 126 [.agg (uT x0)] (.agg (uT r)):=.p func126 ntmps126
def mR(x0:bX)(x1:bX):Option Int :=Bi (ff x0.pX.Cl x1.pX.Cl) λv2=>Bi (ff x0.cA.gz x1.cA.gz) λv4=>Bi (ff x0.cA.uJ x1.cA.uJ) λv6=>Bi (ff x0.cA.gN x1.cA.gN) λv8=>Bi (ff x0.lX x1.lX) λv10=>eE 38 (bA 1 (DV.int .i64)) [v2,v4,v6,v8,v10] λv11=>Bi (wJ v11) λkG=>some kG
instance Lz{x0 x1}:MC (mR x0 x1) λr=>br prog 193 [.agg (Ug x0),.agg (Ug x1)] (.I r):=⟨λhM=>by unfold mR at hM;exact pbz func193 ntmps193 (wz [38])⟩
def jN(x1:Int)(x2:Int)(o0:List bX):Option (List bX) :=wL (E:=(List bX)) (o0,(IntKind.wrap .i64 (x1+1))) [9000] [0,1,2,3] [] (λs t=>(8,.I s.2)::t) (λs t=>(9000,some (.R 318 7 uq s.1))::t) [] [] (λs3=>If (decide (s3.2<x2)) (wL (E:=(List bX)) (s3.1,s3.2) [9000] [0,1,2,3,8] [] (λs t=>(9,.I s.2)::t) (λs t=>(9000,some (.R 318 7 uq s.1))::t) [] [] (λs6=>Bi (gb (decide (x1<s6.2)) (bX.mk (bw.mk 0 0 0) 0 (cm.mk 0 0 [])) (idx s6.1 s6.2)) λv8=>Bi (gb (decide (x1<s6.2)) (bX.mk (bw.mk 0 0 0) 0 (cm.mk 0 0 [])) (idx s6.1 (IntKind.wrap .i64 (s6.2-1)))) λv10=>Bi (gb (decide (x1<s6.2)) (0) (mR v8 v10)) λv12=>If ((decide (x1<s6.2))&&(decide (v12<0))) (Bi (idx s6.1 (IntKind.wrap .i64 (s6.2-1))) λll=>Bi (idx s6.1 s6.2) λmA=>eE 51 uq ll λoi=>Bi (idx (List.set s6.1 (Int.toNat s6.2) oi) (IntKind.wrap .i64 (s6.2-1))) λxa=>eE 52 uq mA λv20=>nX [] [] (some (.next ((List.set (List.set s6.1 (Int.toNat s6.2) oi) (Int.toNat (IntKind.wrap .i64 (s6.2-1))) v20),(IntKind.wrap .i64 (s6.2-1))))))<|some (.done s6.1)) λe21=>nX [] [] (some (.next (e21,(IntKind.wrap .i64 (s3.2+1))))))<|some (.done s3.1)) λe22=>rX [] (some e22)
instance Am{x1 x2 o0}:MA (jN x1 x2 o0) prog 311 (λ_=>1) λr=>⟨[.row 9000,.I x1,.I x2,.val (.func (.func 193) #[] #[])],[(9000,some (.R 318 7 uq o0))],.gh [],[(9000,some (.R 318 7 uq r))],[]⟩:=.e func311 ntmps311
@[reducible] def kP(s3:Unit):Option (List bX) :=none
def lN(x1:Int)(x2:Int)(x3:Int)(o0:List bX):Option (List bX) :=o1<|If (decide ((IntKind.wrap .i64 (x2-x1))<=12)) (Bi (cl 30 [] (jN x1 x2 o0)) λv2=>rX [] (some v2))<|If (x3==0) (none)<|jn kP 7 [9000] [0,1,2,3,4,10,11,12] [9000] i2 i2<|If (!true) (none)<|nX [] [] (kP ())
instance CB{x1 x2 x3 o0}:MA (lN x1 x2 x3 o0) prog 254 (λ_=>1) λr=>⟨[.row 9000,.I x1,.I x2,.I x3,.val (.func (.func 193) #[] #[])],[(9000,some (.R 318 7 uq o0))],.gh [],[(9000,some (.R 318 7 uq r))],[]⟩:=.e func254 ntmps254
def gj(o0:List bX):Option (List bX) :=Bi (rB (IntKind.wrap .u64 (o0.length:Int))) λv2=>Bi (cl 13 [] (lN 0 (o0.length:Int) v2 o0)) λv4=>rX [] (some v4)
instance zi{o0}:MA (gj o0) prog 192 (λ_=>1) λr=>⟨[.row 9000,.val (.func (.func 193) #[] #[])],[(9000,some (.R 318 7 uq o0))],.gh [],[(9000,some (.R 318 7 uq r))],[]⟩:=.e func192 ntmps192
def qH(o0:ak):Option (List bX) :=fL ([]:List bX) 15 [9000,9001,9002] [13,14] [9000,9001,9002] (λ_ t=>(3,.row 1001)::t) (λs t=>(1001,some (.R 318 7 uq s))::t) [.r 3 1003 318 7] [(1001,1003)] m64 (o0.dB.length:Int) (λk1 s3=>Bi (idx o0.dB (k1:Int)) λv7=>fL s3 22 [9000,9001,9002] [5,13,14,15,20,21] [5,9000,9001,9002] (λ_ t=>(3,.row 1002)::t) (λs t=>(1002,some (.R 318 7 uq s))::t) [] [(1002,1001)] m64 (v7.gP.length:Int) (λk8 wN=>Bi (idx v7.gP (k8:Int)) λv12=>Bi (jC v12) λll=>eE 34 (bA 7 uq) [(bX.mk v7.cA (k8:Int) ll)] λlL=>Ck (dK 72 (wN.length+List.length lL))<|nX [] [(1002,35)] (some (wN++lL))) λwN=>nX [] [(1001,1002)] (some wN)) λs3=>Bi (cl 39 [(9000,1001)] (gj s3)) λv5=>wk [.z 1001]<|rX [] (some v5)
instance Ly{o0}:MA (qH o0) prog 127 (λ_=>0) λr=>⟨[.ref 9000 0],[(9000,some (.bJ 299 (ak.b0 o0 (.row 9001) (.row 9002)))),(9001,some (.R 181 4 du o0.dB)),(9002,some (.mp (nU cU DV.bool o0.bq)))],.L 7 uq r,[(9000,some (.bJ 299 (ak.b0 o0 (.row 9001) (.row 9002)))),(9001,some (.R 181 4 du o0.dB)),(9002,some (.mp (nU cU DV.bool o0.bq)))],[]⟩:=.b func127 ntmps127
def DR(x0:Int):Option Bool :=some ((((x0==1)||(x0==2))||(x0==3))||(x0==4))
instance aiY{x0}:MC (DR x0) λr=>br prog 129 [.int .u8 x0] (.bool r):=.p func129 ntmps129
def pd(x1:dJ)(al7:Int)(afQ:Int)(o2:aU)(o9:ak)(o1:List au)(o4:List aM)(o5:List Bool)(o6:List Int)(o7:List aP)(o8:List AEv):Option az :=Bi (zY x1) λv2=>Bi (cl 19 [(9000,9009),(9001,9010),(9002,9011)] (qH o9)) λv4=>wk [.c 9000 4502 4 176 7]<|Bi (yR x1.iM) λv6=>fL ([]:List au) 29 [9000,9001,9002,9003,9004,9005,9006,9007,9008,9009,9010,9011] [0,4,27,28] [4,9001,9002,9003,9004,9005,9006,9007,9008,9009,9010,9011] i2 (λs t=>(1001,some (.R 176 7 df s))::(9000,some (.bJ 194 (az.b0 (az.mk v2 [] v4 () () afQ (aP.mk [] [] []) [] []) (.row 1001) (.ref 9009 0) (.ref 9002 0) (.row 9004) (.row 9005) (.row 9006) (.row 9007) (.row 9008))))::t) [] [(1001,4502)] m64 (v6.length:Int) (λk7 s9=>Bi (idx v6 (k7:Int)) λv11=>Bi (DR v11.cQ.bC) λkG=>Bi (gb kG (0) (vF v11 x1.eX)) λlL=>If (kG&&(lL==0)) (eE 50 (bA 7 df) [v11] λmA=>Ck (dK 72 (s9.length+List.length mA))<|nX [] [(1001,51)] (some (s9++mA)))<|nX [] [] (some s9)) λs9=>rX [(5000,1001)] (some (az.mk v2 s9 v4 () () afQ (aP.mk o4 o5 o6) o7 o8))
instance Qm{x1 al7 afQ o2 o9 o1 o4 o5 o6 o7 o8}:MA (pd x1 al7 afQ o2 o9 o1 o4 o5 o6 o7 o8) prog 70 (λ_=>2) λr=>⟨[.ref 9000 0,.agg (uT x1),.ref 9009 0],[(9000,some (.bJ 194 (az.b1 (az.mk (dJ.mk (cR.mk (bu.mk ByteArray.empty [] [] []) ByteArray.empty (arr 0 []) (iY.mk [])) (bW.mk []) [] al7) [] [] () () afQ (aP.mk [] [] []) [] []) (.val (.pointer none)) .cu .cu (.row 9001) .cu (.val (.pointer none)) (.ref 9002 0) (.row 9004) (.row 9005) (.row 9006) (.row 9007) (.row 9008)))),(9001,some (.R 176 7 df o1)),(9002,some (.bJ 305 [.row 9003])),(9003,some (.R 320 8 dG o2.ba)),(9004,some (.R 201 3 fk o4)),(9005,some (.R 4 1 DV.bool o5)),(9006,some (.R 3 1 (DV.int .i64) o6)),(9007,some (.R 192 3 fD o7)),(9008,some (.R 45 9 AEv.dv o8)),(9009,some (.bJ 299 (ak.b0 o9 (.row 9010) (.row 9011)))),(9010,some (.R 181 4 du o9.dB)),(9011,some (.mp (nU cU DV.bool o9.bq)))],.gh [],[(9000,some (.bJ 194 (az.b0 ({ r with bn:=(aP.mk [] [] []) }:az) (.row 5000) (.ref 9009 0) (.ref 9002 0) (.row 9004) (.row 9005) (.row 9006) (.row 9007) (.row 9008)))),(5000,some (.R 176 7 df r.ld)),(9001,some (.R 176 7 df o1)),(9002,some (.bJ 305 [.row 9003])),(9003,some (.R 320 8 dG o2.ba)),(9004,some (.R 201 3 fk o4)),(9005,some (.R 4 1 DV.bool o5)),(9006,some (.R 3 1 (DV.int .i64) o6)),(9007,some (.R 192 3 fD o7)),(9008,some (.R 45 9 AEv.dv o8)),(9009,some (.bJ 299 (ak.b0 o9 (.row 9010) (.row 9011)))),(9010,some (.R 181 4 du o9.dB)),(9011,some (.mp (nU cU DV.bool o9.bq)))],[5000]⟩:=.e func70 ntmps70
def AN(x0:cR)(x1:Int):Option cv :=Bi (gb (!(decide (x1<0))) (0) (oC x0)) λv2=>If ((decide (x1<0))||(decide (v2<=x1))) (some (cv.mk ByteArray.empty false))<|Bi (idx x0.oW.aY x1) λv4=>some v4
instance Vk{x0 x1}:MC (AN x0 x1) λr=>br prog 132 [.iv (sC x0),.I x1] (.agg (Uh r)):=.p func132 ntmps132
def sS(x0:cR)(x1:Int):Option Bool :=Bi (AN x0 x1) λv2=>some v2.uK
instance Ph{x0 x1}:MC (sS x0 x1) λr=>br prog 73 [.iv (sC x0),.I x1] (.bool r):=.p func73 ntmps73
def AB(x0:dJ):Option ((az×ak×aU)⊕((Unit)⊕((Unit)⊕((Unit)⊕(Unit))))) :=If ((decide (x0.lB<0))||(decide (200<x0.lB))) (rX [] (some (.inr (.inr (.inl ())))))<|Bi (cl 25 [(5000,1001),(5001,1002),(5002,1003)] (zu x0.iM x0.oT)) λv2=>sm v2 (λtN=>Bi (cl 31 [(5000,1004),(5001,1005)] (Fs)) λv4=>wk [.c 33 2000 4 176 7,.c 33 2001 9 201 3,.c 33 2002 10 4 1,.c 33 2003 11 3 1,.c 33 2004 12 192 3,.c 33 2005 13 45 9]<|Bi (cl 37 [(9000,33),(9001,2000),(9002,1004),(9003,1005),(9004,2001),(9005,2002),(9006,2003),(9007,2004),(9008,2005),(9009,1001),(9010,1002),(9011,1003),(5000,1006)] (pd x0 0 0 v4 tN ([]:List au) ([]:List aM) ([]:List Bool) ([]:List Int) ([]:List aP) ([]:List AEv))) λv6=>Bi (fj x0.eX) λv8=>fL (([]:List aM),([]:List Int)) 41 [] [1,6,40] [1] i2 (λs t=>(33,some (.bJ 194 (az.b0 ({ v6 with bn:=(aP.mk [] [] []) }:az) (.row 1007) (.ref 1001 0) (.ref 1004 0) (.row 1008) (.row 1009) (.row 1010) (.row 1011) (.row 1012))))::(1001,some (.bJ 299 (ak.b0 tN (.row 1013) (.row 1014))))::(1004,some (.bJ 305 [.row 1015]))::(1007,some (.R 176 7 df v6.ld))::(1008,some (.R 201 3 fk s.1))::(1009,some (.R 4 1 DV.bool ([]:List Bool)))::(1010,some (.R 3 1 (DV.int .i64) s.2))::(1011,some (.R 192 3 fD ([]:List aP)))::(1012,some (.R 45 9 AEv.dv ([]:List AEv)))::(1013,some (.R 181 4 du tN.dB))::(1014,some (.mp (nU cU DV.bool tN.bq)))::(1015,some (.R 320 8 dG v4.ba))::t) [] [(1007,1006),(1008,2001),(1009,2002),(1010,2003),(1011,2004),(1012,2005),(1013,1002),(1014,1003),(1015,1005)] m64 v8 (λk9 EK=>Bi (pv x0.eX (k9:Int)) λuj=>eE 54 (bA 3 fk) [uj] λv24=>Ck (dK 72 (EK.1.length+List.length v24))<|eE 65 (bA 1 (DV.int .i64)) [1] λxz=>Ck (dK 8 (EK.2.length+List.length xz))<|nX [] [(1008,55),(1010,66)] (some ((EK.1++v24),(EK.2++xz)))) λEK=>Bi (oC x0.eX) λll=>fL ([]:List Bool) 74 [] [1,6,73] [1] i2 (λs t=>(33,some (.bJ 194 (az.b0 ({ v6 with bn:=(aP.mk [] [] []) }:az) (.row 1016) (.ref 1001 0) (.ref 1004 0) (.row 1017) (.row 1018) (.row 1019) (.row 1020) (.row 1021))))::(1001,some (.bJ 299 (ak.b0 tN (.row 1022) (.row 1023))))::(1004,some (.bJ 305 [.row 1024]))::(1016,some (.R 176 7 df v6.ld))::(1017,some (.R 201 3 fk EK.1))::(1018,some (.R 4 1 DV.bool s))::(1019,some (.R 3 1 (DV.int .i64) EK.2))::(1020,some (.R 192 3 fD ([]:List aP)))::(1021,some (.R 45 9 AEv.dv ([]:List AEv)))::(1022,some (.R 181 4 du tN.dB))::(1023,some (.mp (nU cU DV.bool tN.bq)))::(1024,some (.R 320 8 dG v4.ba))::t) [] [(1016,1007),(1017,1008),(1018,1009),(1019,1010),(1020,1011),(1021,1012),(1022,1013),(1023,1014),(1024,1015)] m64 ll (λk15 CK=>Bi (sS x0.eX (k15:Int)) λxa=>eE 87 (bA 1 DV.bool) [xa] λv20=>Ck (dK 1 (CK.length+List.length v20))<|nX [] [(1018,88)] (some (CK++v20))) λCK=>rX [(5000,33),(5001,1016),(5002,1001),(5003,1022),(5004,1023),(5005,1004),(5006,1024),(5007,1017),(5008,1018),(5009,1019),(5010,1020),(5011,1021)] (some (.inl (({ v6 with bn:=(aP.mk EK.1 CK EK.2),eh:=([]:List aP),cr:=([]:List AEv) }:az),tN,v4)))) λafR=>sm afR (λTr=>rX [] (some (.inr (.inl ())))) λafS=>sm afS (λawE=>rX [] (some (.inr (.inr (.inr (.inl ())))))) λawF=>rX [] (some (.inr (.inr (.inr (.inr ())))))
instance aiZ{x0}:MA (AB x0) prog 34 (λ| .inl _=>12 | .inr (.inl _)=>0 | .inr (.inr (.inl _))=>0 | .inr (.inr (.inr (.inl _)))=>0 | .inr (.inr (.inr (.inr _)))=>0) λ| .inl r=>⟨[.agg (uT x0)],[],.gh [.ref 5000 0,.I 0],[(5000,some (.bJ 194 (az.b0 ({ r.1 with bn:=(aP.mk [] [] []) }:az) (.row 5001) (.ref 5002 0) (.ref 5005 0) (.row 5007) (.row 5008) (.row 5009) (.row 5010) (.row 5011)))),(5001,some (.R 176 7 df r.1.ld)),(5002,some (.bJ 299 (ak.b0 r.2.1 (.row 5003) (.row 5004)))),(5003,some (.R 181 4 du r.2.1.dB)),(5004,some (.mp (nU cU DV.bool r.2.1.bq))),(5005,some (.bJ 305 [.row 5006])),(5006,some (.R 320 8 dG r.2.2.ba)),(5007,some (.R 201 3 fk r.1.bn.dL)),(5008,some (.R 4 1 DV.bool r.1.bn.aY)),(5009,some (.R 3 1 (DV.int .i64) r.1.bn.bf)),(5010,some (.R 192 3 fD r.1.eh)),(5011,some (.R 45 9 AEv.dv r.1.cr))],[5000,5001,5002,5003,5004,5005,5006,5007,5008,5009,5010,5011]⟩ | .inr (.inl r)=>⟨[.agg (uT x0)],[],.gh [.val (.pointer none),.I 1],[],[]⟩ | .inr (.inr (.inl r))=>⟨[.agg (uT x0)],[],.gh [.val (.pointer none),.I 2],[],[]⟩ | .inr (.inr (.inr (.inl r)))=>⟨[.agg (uT x0)],[],.gh [.val (.pointer none),.I 3],[],[]⟩ | .inr (.inr (.inr (.inr r)))=>⟨[.agg (uT x0)],[],.gh [.val (.pointer none),.I 5],[],[]⟩:=⟨fun {r} hM=>by unfold AB at hM;rcases r with r|r|r|r|r <;> exact ab func34 ntmps34⟩
def nB(o0:az)(o2:ak)(o5:aU):Option Bool :=rX [] (some false)
instance Rl{o0 o2 o5}:MA (nB o0 o2 o5) prog 74 (λ_=>0) λr=>⟨[.ref 9000 0],[(9000,some (.bJ 194 (az.b0 ({ o0 with bn:=(aP.mk [] [] []) }:az) (.row 9001) (.ref 9002 0) (.ref 9005 0) (.row 9007) (.row 9008) (.row 9009) (.row 9010) (.row 9011)))),(9001,some (.R 176 7 df o0.ld)),(9002,some (.bJ 299 (ak.b0 o2 (.row 9003) (.row 9004)))),(9003,some (.R 181 4 du o2.dB)),(9004,some (.mp (nU cU DV.bool o2.bq))),(9005,some (.bJ 305 [.row 9006])),(9006,some (.R 320 8 dG o5.ba)),(9007,some (.R 201 3 fk o0.bn.dL)),(9008,some (.R 4 1 DV.bool o0.bn.aY)),(9009,some (.R 3 1 (DV.int .i64) o0.bn.bf)),(9010,some (.R 192 3 fD o0.eh)),(9011,some (.R 45 9 AEv.dv o0.cr))],.bool r,[(9000,some (.bJ 194 (az.b0 ({ o0 with bn:=(aP.mk [] [] []) }:az) (.row 9001) (.ref 9002 0) (.ref 9005 0) (.row 9007) (.row 9008) (.row 9009) (.row 9010) (.row 9011)))),(9001,some (.R 176 7 df o0.ld)),(9002,some (.bJ 299 (ak.b0 o2 (.row 9003) (.row 9004)))),(9003,some (.R 181 4 du o2.dB)),(9004,some (.mp (nU cU DV.bool o2.bq))),(9005,some (.bJ 305 [.row 9006])),(9006,some (.R 320 8 dG o5.ba)),(9007,some (.R 201 3 fk o0.bn.dL)),(9008,some (.R 4 1 DV.bool o0.bn.aY)),(9009,some (.R 3 1 (DV.int .i64) o0.bn.bf)),(9010,some (.R 192 3 fD o0.eh)),(9011,some (.R 45 9 AEv.dv o0.cr))],[]⟩:=.b func74 ntmps74
def sx(x0:au)(x1:aI):Option Int :=Bi (ko x0.cQ x1) λv2=>some v2
instance TX{x0 x1}:MC (sx x0 x1) λr=>br prog 403 [.agg (yo x0),.agg (cU x1)] (.I r):=.p func403 ntmps403
def fw(x0:List au)(x1:aI):Option (Int×Bool) :=wL (E:=Int) (0,(x0.length:Int)) [] [0,2,4,8] [4] (λs t=>(9,.I s.1)::(10,.I s.2)::t) i2 [] [] (λs3=>If (decide (s3.1<s3.2)) (Bi (idx x0 (IntKind.wrap .i64 (Int.fdiv (IntKind.wrap .u64 (IntKind.wrap .i64 (s3.1+s3.2))) (2^min (Int.toNat 1) (IntKind.bits .u64))))) λv5=>Bi (sx v5 x1) λv7=>If (decide (v7<0)) (nX [] [] (some (.next ((IntKind.wrap .i64 ((IntKind.wrap .i64 (Int.fdiv (IntKind.wrap .u64 (IntKind.wrap .i64 (s3.1+s3.2))) (2^min (Int.toNat 1) (IntKind.bits .u64))))+1)),s3.2))))<|nX [] [] (some (.next (s3.1,(IntKind.wrap .i64 (Int.fdiv (IntKind.wrap .u64 (IntKind.wrap .i64 (s3.1+s3.2))) (2^min (Int.toNat 1) (IntKind.bits .u64))))))))<|some (.done s3.1)) λe12=>Bi (gb (decide (e12<(x0.length:Int))) (au.mk (aI.mk 0 0 0 0) 0 0 []) (idx x0 e12)) λv9=>Bi (gb (decide (e12<(x0.length:Int))) (0) (sx v9 x1)) λv11=>rX [] (some (e12,((decide (e12<(x0.length:Int)))&&(v11==0))))
instance wR{x0 x1}:MA (fw x0 x1) prog 402 (λ_=>0) λr=>⟨[.L 7 df x0,.agg (cU x1),.val (.func (.func 403) #[] #[])],[],.gh [.I r.1,.bool r.2],[],[]⟩:=.b func402 ntmps402
def ud(x0:bW)(x1:aI):Option (Int×Bool) :=Bi (cl 9 [] (fw x0.ba x1)) λv2=>some (v2.1,v2.2)
instance XM{x0 x1}:MC (ud x0 x1) λr=>br prog 369 [.agg (zQ x0),.agg (cU x1)] (.gh [.I r.1,.bool r.2]):=.p func369 ntmps369
def vE(x0:bW)(x1:aI):Option (au×Bool) :=Bi (ud x0 x1) λv2=>If (!v2.2) (some ((au.mk (aI.mk 0 0 0 0) 0 0 []),false))<|Bi (idx x0.ba v2.1) λv4=>Bi (vD v4) λv6=>some (v6,true)
instance aaa{x0 x1}:MC (vE x0 x1) λr=>br prog 320 [.agg (zQ x0),.agg (cU x1)] (.gh [.agg (yo r.1),.bool r.2]):=.p func320 ntmps320
@[reducible] def od(o0:ak)(v2:au×Bool)(s4:(List (aI×Bool))):Option (au×Bool×ak) :=rX [] (some (v2.1,v2.2,({ o0 with bq:=s4 }:ak)))
def fV(x1:Int)(x2:Int)(x3:Int)(x4:Int)(o0:ak):Option (au×Bool×ak) :=Bi (vE o0.fX (aI.mk x1 x2 x3 x4)) λv2=>jn (od o0 v2) 3 [9000,9001,9002] [10,13,14] [10,13,9000,9001] i2 (λs t=>(9002,some (.mp (nU cU DV.bool s)))::t)<|If v2.2 (eE 0 mb (aI.mk x1 x2 x3 x4) λ_=>eE 1 DV.bool true λ_=>nX [] [] (od o0 v2 (Fb cU o0.bq (aI.mk x1 x2 x3 x4) true)))<|nX [] [] (od o0 v2 o0.bq)
instance Lv{x1 x2 x3 x4 o0}:MA (fV x1 x2 x3 x4 o0) prog 256 (λ_=>3) λr=>⟨[.ref 9000 0,.int .u8 x1,.I x2,.I x3,.I x4],[(9000,some (.bJ 299 (ak.b0 o0 (.row 9001) (.row 9002)))),(9001,some (.R 181 4 du o0.dB)),(9002,some (.mp (nU cU DV.bool o0.bq)))],.gh [.agg (yo r.1),.bool r.2.1],[(9000,some (.bJ 299 (ak.b0 r.2.2 (.row 9001) (.row 9002)))),(9001,some (.R 181 4 du r.2.2.dB)),(9002,some (.mp (nU cU DV.bool r.2.2.bq)))],[]⟩:=.b func256 ntmps256
def kM(x1:aI)(o0:ak):Option ak :=Bi (cl 15 [] (fV x1.bC x1.gA x1.gB x1.gN o0)) λv2=>rX [] (some v2.2.2)
instance Jb{x1 o0}:MA (kM x1 o0) prog 196 (λ_=>3) λr=>⟨[.ref 9000 0,.agg (cU x1)],[(9000,some (.bJ 299 (ak.b0 o0 (.row 9001) (.row 9002)))),(9001,some (.R 181 4 du o0.dB)),(9002,some (.mp (nU cU DV.bool o0.bq)))],.gh [],[(9000,some (.bJ 299 (ak.b0 r (.row 9001) (.row 9002)))),(9001,some (.R 181 4 du r.dB)),(9002,some (.mp (nU cU DV.bool r.bq)))],[]⟩:=.e func196 ntmps196
def jU(x1:Int)(o0:az)(o2:ak)(o5:aU):Option ((List au)×ak) :=fL (([]:List au),o2.dq,o2.eL,o2.dE,o2.fX.ba,o2.dB,o2.bq) 13 [9000,9001,9002,9003,9004,9005,9006,9007,9008,9009,9010,9011] [0,1,11,12] [9000,9001,9005,9006,9007,9008,9009,9010,9011] (λ_ t=>(5,.row 1001)::t) (λs t=>(1001,some (.R 176 7 df s.1))::(9002,some (.bJ 299 (ak.b0 (ak.mk (bW.mk s.2.2.2.2.1) [] s.2.1 s.2.2.1 s.2.2.2.1 []) (.row 9003) (.row 9004))))::(9003,some (.R 181 4 du s.2.2.2.2.2.1))::(9004,some (.mp (nU cU DV.bool s.2.2.2.2.2.2)))::t) [.r 5 1002 176 7] [(1001,1002)] m64 (o0.ld.length:Int) (λk1 s9=>Bi (idx o0.ld (k1:Int)) λv11=>If ((v11.cQ.bC==x1)&&(v11.Cl==o0.qP)) (Bi (cl 37 [(9000,9002),(9001,9003),(9002,9004)] (kM v11.cQ (ak.mk (bW.mk s9.2.2.2.2.1) s9.2.2.2.2.2.1 s9.2.1 s9.2.2.1 s9.2.2.2.1 s9.2.2.2.2.2.2))) λkG=>eE 40 (bA 7 df) [v11] λll=>Ck (dK 72 (s9.1.length+List.length ll))<|nX [] [(1001,41)] (some ((s9.1++ll),kG.dq,kG.eL,kG.dE,kG.fX.ba,kG.dB,kG.bq)))<|nX [] [] (some (s9.1,s9.2.1,s9.2.2.1,s9.2.2.2.1,s9.2.2.2.2.1,s9.2.2.2.2.2.1,s9.2.2.2.2.2.2))) λs9=>wk [.z 1001]<|rX [] (some (s9.1,(ak.mk (bW.mk s9.2.2.2.2.1) s9.2.2.2.2.2.1 s9.2.1 s9.2.2.1 s9.2.2.2.1 s9.2.2.2.2.2.2)))
instance TF{x1 o0 o2 o5}:MA (jU x1 o0 o2 o5) prog 133 (λ_=>3) λr=>⟨[.ref 9000 0,.int .u8 x1],[(9000,some (.bJ 194 (az.b0 ({ o0 with bn:=(aP.mk [] [] []) }:az) (.row 9001) (.ref 9002 0) (.ref 9005 0) (.row 9007) (.row 9008) (.row 9009) (.row 9010) (.row 9011)))),(9001,some (.R 176 7 df o0.ld)),(9002,some (.bJ 299 (ak.b0 o2 (.row 9003) (.row 9004)))),(9003,some (.R 181 4 du o2.dB)),(9004,some (.mp (nU cU DV.bool o2.bq))),(9005,some (.bJ 305 [.row 9006])),(9006,some (.R 320 8 dG o5.ba)),(9007,some (.R 201 3 fk o0.bn.dL)),(9008,some (.R 4 1 DV.bool o0.bn.aY)),(9009,some (.R 3 1 (DV.int .i64) o0.bn.bf)),(9010,some (.R 192 3 fD o0.eh)),(9011,some (.R 45 9 AEv.dv o0.cr))],.L 7 df r.1,[(9002,some (.bJ 299 (ak.b0 r.2 (.row 9003) (.row 9004)))),(9003,some (.R 181 4 du r.2.dB)),(9004,some (.mp (nU cU DV.bool r.2.bq))),(9000,some (.bJ 194 (az.b0 ({ o0 with bn:=(aP.mk [] [] []) }:az) (.row 9001) (.ref 9002 0) (.ref 9005 0) (.row 9007) (.row 9008) (.row 9009) (.row 9010) (.row 9011)))),(9001,some (.R 176 7 df o0.ld)),(9005,some (.bJ 305 [.row 9006])),(9006,some (.R 320 8 dG o5.ba)),(9007,some (.R 201 3 fk o0.bn.dL)),(9008,some (.R 4 1 DV.bool o0.bn.aY)),(9009,some (.R 3 1 (DV.int .i64) o0.bn.bf)),(9010,some (.R 192 3 fD o0.eh)),(9011,some (.R 45 9 AEv.dv o0.cr))],[]⟩:=.b func133 ntmps133
def fG(x1:AEv)(o0:az)(o2:ak)(o5:aU):Option az :=Ck (dK 8 (x1.cE.length))<|wk [.z 11]<|eE 19 (bA 9 AEv.dv) [({ x1 with AM:=o0.qP }:AEv)] λv2=>Ck (dK 88 (o0.cr.length+List.length v2))<|rX [(5000,20)] (some ({ o0 with cr:=(o0.cr++v2) }:az))
instance TG{x1 o0 o2 o5}:MA (fG x1 o0 o2 o5) prog 134 (λ_=>8) λr=>⟨[.ref 9000 0,.agg (AEv.cs x1)],[(9000,some (.bJ 194 (az.b0 ({ o0 with bn:=(aP.mk [] [] []) }:az) (.row 9001) (.ref 9002 0) (.ref 9005 0) (.row 9007) (.row 9008) (.row 9009) (.row 9010) (.row 9011)))),(9001,some (.R 176 7 df o0.ld)),(9002,some (.bJ 299 (ak.b0 o2 (.row 9003) (.row 9004)))),(9003,some (.R 181 4 du o2.dB)),(9004,some (.mp (nU cU DV.bool o2.bq))),(9005,some (.bJ 305 [.row 9006])),(9006,some (.R 320 8 dG o5.ba)),(9007,some (.R 201 3 fk o0.bn.dL)),(9008,some (.R 4 1 DV.bool o0.bn.aY)),(9009,some (.R 3 1 (DV.int .i64) o0.bn.bf)),(9010,some (.R 192 3 fD o0.eh)),(9011,some (.R 45 9 AEv.dv o0.cr))],.gh [],[(9000,some (.bJ 194 (az.b0 ({ r with bn:=(aP.mk [] [] []) }:az) (.row 9001) (.ref 9002 0) (.ref 9005 0) (.row 9007) (.row 9008) (.row 9009) (.row 9010) (.row 5000)))),(9001,some (.R 176 7 df r.ld)),(9007,some (.R 201 3 fk r.bn.dL)),(9008,some (.R 4 1 DV.bool r.bn.aY)),(9009,some (.R 3 1 (DV.int .i64) r.bn.bf)),(9010,some (.R 192 3 fD r.eh)),(5000,some (.R 45 9 AEv.dv r.cr)),(9011,none),(9002,some (.bJ 299 (ak.b0 o2 (.row 9003) (.row 9004)))),(9003,some (.R 181 4 du o2.dB)),(9004,some (.mp (nU cU DV.bool o2.bq))),(9005,some (.bJ 305 [.row 9006])),(9006,some (.R 320 8 dG o5.ba))],[5000]⟩:=.e func134 ntmps134
def uz(o0:az)(o2:ak)(o5:aU):Option (az×ak) :=Bi (cl 5 [] (jU 2 o0 o2 o5)) λv2=>fL (o0.EC,o0.ld,o0.sd,o0.qP,o0.bn.dL,o0.bn.aY,o0.bn.bf,o0.eh,o0.cr) 7 [9000,9001,9002,9003,9004,9005,9006,9007,9008,9009,9010,9011] [0,5,6] [9002,9003,9004,9005,9006] i2 (λs t=>(1001,some (.R 45 9 AEv.dv s.2.2.2.2.2.2.2.2))::(9000,some (.bJ 194 (az.b0 (az.mk s.1 [] s.2.2.1 () () s.2.2.2.1 (aP.mk [] [] []) [] []) (.row 9001) (.ref 9002 0) (.ref 9005 0) (.row 9007) (.row 9008) (.row 9009) (.row 9010) (.row 1001))))::(9001,some (.R 176 7 df s.2.1))::(9007,some (.R 201 3 fk s.2.2.2.2.1))::(9008,some (.R 4 1 DV.bool s.2.2.2.2.2.1))::(9009,some (.R 3 1 (DV.int .i64) s.2.2.2.2.2.2.1))::(9010,some (.R 192 3 fD s.2.2.2.2.2.2.2.1))::t) [] [(1001,9011)] m64 (v2.1.length:Int) (λk3 pD=>Bi (idx v2.1 (k3:Int)) λlL=>Bi (idx pD.2.2.2.2.2.1 lL.cQ.gA) λoi=>eE 22 DV.bool (lL.gD==1) λlI=>Bi (fj pD.1.eX) λv20=>Bi (cl 39 [(9011,1001),(5000,1002)] (fG (AEv.mk 0 v20 1 lL.cQ.gA lL.cQ.gN 0 0 lL.gD []) (az.mk pD.1 pD.2.1 pD.2.2.1 () () pD.2.2.2.1 (aP.mk pD.2.2.2.2.1 (List.set pD.2.2.2.2.2.1 (Int.toNat lL.cQ.gA) lI) pD.2.2.2.2.2.2.1) pD.2.2.2.2.2.2.2.1 pD.2.2.2.2.2.2.2.2) v2.2 o5)) λuQ=>nX [] [(1001,1002)] (some (uQ.EC,uQ.ld,uQ.sd,uQ.qP,uQ.bn.dL,uQ.bn.aY,uQ.bn.bf,uQ.eh,uQ.cr))) λpD=>rX [(5000,1001)] (some ((az.mk pD.1 pD.2.1 pD.2.2.1 () () pD.2.2.2.1 (aP.mk pD.2.2.2.2.1 pD.2.2.2.2.2.1 pD.2.2.2.2.2.2.1) pD.2.2.2.2.2.2.2.1 pD.2.2.2.2.2.2.2.2),v2.2))
instance Rm{o0 o2 o5}:MA (uz o0 o2 o5) prog 75 (λ_=>11) λr=>⟨[.ref 9000 0],[(9000,some (.bJ 194 (az.b0 ({ o0 with bn:=(aP.mk [] [] []) }:az) (.row 9001) (.ref 9002 0) (.ref 9005 0) (.row 9007) (.row 9008) (.row 9009) (.row 9010) (.row 9011)))),(9001,some (.R 176 7 df o0.ld)),(9002,some (.bJ 299 (ak.b0 o2 (.row 9003) (.row 9004)))),(9003,some (.R 181 4 du o2.dB)),(9004,some (.mp (nU cU DV.bool o2.bq))),(9005,some (.bJ 305 [.row 9006])),(9006,some (.R 320 8 dG o5.ba)),(9007,some (.R 201 3 fk o0.bn.dL)),(9008,some (.R 4 1 DV.bool o0.bn.aY)),(9009,some (.R 3 1 (DV.int .i64) o0.bn.bf)),(9010,some (.R 192 3 fD o0.eh)),(9011,some (.R 45 9 AEv.dv o0.cr))],.gh [],[(9000,some (.bJ 194 (az.b0 ({ r.1 with bn:=(aP.mk [] [] []) }:az) (.row 9001) (.ref 9002 0) (.ref 9005 0) (.row 9007) (.row 9008) (.row 9009) (.row 9010) (.row 5000)))),(9002,some (.bJ 299 (ak.b0 r.2 (.row 9003) (.row 9004)))),(9001,some (.R 176 7 df r.1.ld)),(9003,some (.R 181 4 du r.2.dB)),(9004,some (.mp (nU cU DV.bool r.2.bq))),(9007,some (.R 201 3 fk r.1.bn.dL)),(9008,some (.R 4 1 DV.bool r.1.bn.aY)),(9009,some (.R 3 1 (DV.int .i64) r.1.bn.bf)),(9010,some (.R 192 3 fD r.1.eh)),(5000,some (.R 45 9 AEv.dv r.1.cr)),(9011,none),(9005,some (.bJ 305 [.row 9006])),(9006,some (.R 320 8 dG o5.ba))],[5000]⟩:=.e func75 ntmps75
def lp(x0:aD)(o0:Int):Option Bool :=rX [] (some ((x0.oX.aN==o0)&&(x0.oX.nS==6)))
instance Ky{x0 o0}:MA (lp x0 o0) prog 198 (λ_=>0) λr=>⟨[.agg (Bc x0),.ref 9000 0],[(9000,some (.bJ 3 [.I o0]))],.bool r,[(9000,some (.bJ 3 [.I o0]))],[]⟩:=.b func198 ntmps198
def jw(o1:Int)(o0:List aD):Option Int :=fO (E:=Int) () 8 [9000,9001] [0,1,7] [9000,9001] i2 i2 [] [] m64 (o0.length:Int) (λk1 _=>Bi (idx o0 (k1:Int)) λv4=>Bi (cl 16 [(9000,9001)] (lp v4 o1)) λv6=>If v6 (rX [] (some (.done (k1:Int))))<|nX [] [] (some (.next ()))) fun
  |.next _=>rX [] (some (-1))
  |.done r=>some r
instance zX{o1 o0}:MA (jw o1 o0) prog 257 (λ_=>0) λr=>⟨[.row 9000,.CG 198 [.ref 9001 0]],[(9000,some (.R 320 8 dG o0)),(9001,some (.bJ 3 [.I o1]))],.I r,[(9000,some (.R 320 8 dG o0)),(9001,some (.bJ 3 [.I o1]))],[]⟩:=.b func257 ntmps257
def gm(o1:Int)(o0:List aD):Option (((List aD))⊕((List aD))) :=Bi (cl 10 [] (jw o1 o0)) λv2=>If (v2==(-1)) (rX [] (some (.inr o0)))<|wL (E:=(List aD)×Int) (o0,v2,(IntKind.wrap .i64 (v2+1))) [9000,9001] [0,1] [9001] (λs t=>(5,.I s.2.1)::(6,.I s.2.2)::t) (λs t=>(9000,some (.R 320 8 dG s.1))::t) [] [] (λs6=>If (decide (s6.2.2<(s6.1.length:Int))) (Bi (idx s6.1 s6.2.2) λv8=>Bi (cl 28 [(9000,9001)] (lp v8 o1)) λv10=>If (!v10) (Bi (idx s6.1 s6.2.1) λv12=>eE 33 dG v8 λkG=>nX [] [] (some (.next ((List.set s6.1 (Int.toNat s6.2.1) kG),(IntKind.wrap .i64 (s6.2.1+1)),(IntKind.wrap .i64 (s6.2.2+1))))))<|nX [] [] (some (.next (s6.1,s6.2.1,(IntKind.wrap .i64 (s6.2.2+1))))))<|some (.done (s6.1,s6.2.1))) λJl=>Ck (fC (Jl.1.length) Jl.2 (Jl.1.length:Int))<|eE 38 dG (aD.mk 0 (cS.mk 0 0 0 0 0 0 [])) λ_=>Ck (fC (List.length (XL Jl.1 (Int.toNat Jl.2) (Int.toNat ((Jl.1.length:Int)-Jl.2)) (aD.mk 0 (cS.mk 0 0 0 0 0 0 [])))) 0 Jl.2)<|rX [(5000,41)] (some (.inl (List.take (Int.toNat Jl.2) (XL Jl.1 (Int.toNat Jl.2) (Int.toNat ((Jl.1.length:Int)-Jl.2)) (aD.mk 0 (cS.mk 0 0 0 0 0 0 []))))))
instance zj{o1 o0}:MA (gm o1 o0) prog 197 (λ| .inl _=>2 | .inr _=>1) λ| .inl r=>⟨[.row 9000,.CG 198 [.ref 9001 0]],[(9000,some (.R 320 8 dG o0)),(9001,some (.bJ 3 [.I o1]))],.row 5000,[(5000,some (.R 320 8 dG r)),(9000,none),(9001,some (.bJ 3 [.I o1]))],[5000]⟩ | .inr r=>⟨[.row 9000,.CG 198 [.ref 9001 0]],[(9000,some (.R 320 8 dG o0)),(9001,some (.bJ 3 [.I o1]))],.row 9000,[(9000,some (.R 320 8 dG r)),(9001,some (.bJ 3 [.I o1]))],[]⟩:=⟨fun {r} hM=>by unfold gm at hM;rcases r with r|r <;> exact ab func197 ntmps197⟩
def qT(x1:Int)(o0:aU):Option (Int×aU) :=Bi (cl 19 [(9000,9001),(9001,3),(5000,1001)] (gm x1 o0.ba)) λv2=>sm v2 (λtN=>rX [(5000,1001)] (some ((IntKind.wrap .i64 ((o0.ba.length:Int)-(tN.length:Int))),(aU.mk tN)))) λTr=>rX [(5000,9001)] (some ((IntKind.wrap .i64 ((o0.ba.length:Int)-(Tr.length:Int))),(aU.mk Tr)))
instance LL{x1 o0}:MA (qT x1 o0) prog 135 (λ_=>3) λr=>⟨[.ref 9000 0,.I x1],[(9000,some (.bJ 305 [.row 9001])),(9001,some (.R 320 8 dG o0.ba))],.I r.1,[(9000,some (.bJ 305 [.row 5000])),(5000,some (.R 320 8 dG r.2.ba)),(9001,none)],[5000]⟩:=.b func135 ntmps135
def tJ(x1:Int)(o0:az)(o2:ak)(o5:aU):Option (az×ak×aU) :=Bi (cl 8 [] (jU 4 o0 o2 o5)) λv2=>fL (o0.EC,o0.ld,o0.sd,o0.qP,o0.bn.dL,o0.bn.aY,o0.bn.bf,o0.eh,o0.cr,o5.ba) 10 [9000,9001,9002,9003,9004,9005,9006,9007,9008,9009,9010,9011] [0,1,8,9] [9002,9003,9004] i2 (λs t=>(1001,some (.R 45 9 AEv.dv s.2.2.2.2.2.2.2.2.1))::(1002,some (.R 320 8 dG s.2.2.2.2.2.2.2.2.2))::(9000,some (.bJ 194 (az.b0 (az.mk s.1 [] s.2.2.1 () () s.2.2.2.1 (aP.mk [] [] []) [] []) (.row 9001) (.ref 9002 0) (.ref 9005 0) (.row 9007) (.row 9008) (.row 9009) (.row 9010) (.row 1001))))::(9001,some (.R 176 7 df s.2.1))::(9005,some (.bJ 305 [.row 1002]))::(9007,some (.R 201 3 fk s.2.2.2.2.1))::(9008,some (.R 4 1 DV.bool s.2.2.2.2.2.1))::(9009,some (.R 3 1 (DV.int .i64) s.2.2.2.2.2.2.1))::(9010,some (.R 192 3 fD s.2.2.2.2.2.2.2.1))::t) [] [(1001,9011),(1002,9006)] m64 (v2.1.length:Int) (λk3 rH=>Bi (idx v2.1 (k3:Int)) λmA=>If (mA.cQ.gA != x1) (nX [] [] (some (rH.1,rH.2.1,rH.2.2.1,rH.2.2.2.1,rH.2.2.2.2.1,rH.2.2.2.2.2.1,rH.2.2.2.2.2.2.1,rH.2.2.2.2.2.2.2.1,rH.2.2.2.2.2.2.2.2.1,rH.2.2.2.2.2.2.2.2.2)))<|Bi (pv rH.1.eX x1) λlI=>Bi (idx rH.2.2.2.2.1 x1) λv20=>eE 43 fk ({ lI with ez:=v20.ez }:aM) λv21=>Bi (cl 49 [(9000,9005),(9001,1002),(5000,1003)] (qT x1 (aU.mk rH.2.2.2.2.2.2.2.2.2))) λuj=>Bi (cl 56 [(9006,1003),(9011,1001),(5000,1004)] (fG (AEv.mk 0 x1 3 0 mA.cQ.gN 0 0 0 []) (az.mk rH.1 rH.2.1 rH.2.2.1 () () rH.2.2.2.1 (aP.mk (List.set rH.2.2.2.2.1 (Int.toNat x1) v21) rH.2.2.2.2.2.1 rH.2.2.2.2.2.2.1) rH.2.2.2.2.2.2.2.1 rH.2.2.2.2.2.2.2.2.1) v2.2 uj.2)) λua=>nX [] [(1001,1004),(1002,1003)] (some (ua.EC,ua.ld,ua.sd,ua.qP,ua.bn.dL,ua.bn.aY,ua.bn.bf,ua.eh,ua.cr,uj.2.ba))) λrH=>rX [(5000,1001),(5001,1002)] (some ((az.mk rH.1 rH.2.1 rH.2.2.1 () () rH.2.2.2.1 (aP.mk rH.2.2.2.2.1 rH.2.2.2.2.2.1 rH.2.2.2.2.2.2.1) rH.2.2.2.2.2.2.2.1 rH.2.2.2.2.2.2.2.2.1),v2.2,(aU.mk rH.2.2.2.2.2.2.2.2.2)))
instance Qn{x1 o0 o2 o5}:MA (tJ x1 o0 o2 o5) prog 76 (λ_=>14) λr=>⟨[.ref 9000 0,.I x1],[(9000,some (.bJ 194 (az.b0 ({ o0 with bn:=(aP.mk [] [] []) }:az) (.row 9001) (.ref 9002 0) (.ref 9005 0) (.row 9007) (.row 9008) (.row 9009) (.row 9010) (.row 9011)))),(9001,some (.R 176 7 df o0.ld)),(9002,some (.bJ 299 (ak.b0 o2 (.row 9003) (.row 9004)))),(9003,some (.R 181 4 du o2.dB)),(9004,some (.mp (nU cU DV.bool o2.bq))),(9005,some (.bJ 305 [.row 9006])),(9006,some (.R 320 8 dG o5.ba)),(9007,some (.R 201 3 fk o0.bn.dL)),(9008,some (.R 4 1 DV.bool o0.bn.aY)),(9009,some (.R 3 1 (DV.int .i64) o0.bn.bf)),(9010,some (.R 192 3 fD o0.eh)),(9011,some (.R 45 9 AEv.dv o0.cr))],.gh [],[(9000,some (.bJ 194 (az.b0 ({ r.1 with bn:=(aP.mk [] [] []) }:az) (.row 9001) (.ref 9002 0) (.ref 9005 0) (.row 9007) (.row 9008) (.row 9009) (.row 9010) (.row 5000)))),(9002,some (.bJ 299 (ak.b0 r.2.1 (.row 9003) (.row 9004)))),(9005,some (.bJ 305 [.row 5001])),(9001,some (.R 176 7 df r.1.ld)),(9003,some (.R 181 4 du r.2.1.dB)),(9004,some (.mp (nU cU DV.bool r.2.1.bq))),(9007,some (.R 201 3 fk r.1.bn.dL)),(9008,some (.R 4 1 DV.bool r.1.bn.aY)),(9009,some (.R 3 1 (DV.int .i64) r.1.bn.bf)),(9010,some (.R 192 3 fD r.1.eh)),(5000,some (.R 45 9 AEv.dv r.1.cr)),(5001,some (.R 320 8 dG r.2.2.ba)),(9006,none),(9011,none)],[5000,5001]⟩:=.e func76 ntmps76
def sK(x1:Int)(o0:az)(o2:ak)(o5:aU):Option (az×ak) :=Bi (cl 7 [] (jU 3 o0 o2 o5)) λv2=>fL (o0.EC,o0.ld,o0.sd,o0.qP,o0.bn.dL,o0.bn.aY,o0.bn.bf,o0.eh,o0.cr) 9 [9000,9001,9002,9003,9004,9005,9006,9007,9008,9009,9010,9011] [0,1,7,8] [9002,9003,9004,9005,9006] i2 (λs t=>(1001,some (.R 45 9 AEv.dv s.2.2.2.2.2.2.2.2))::(9000,some (.bJ 194 (az.b0 (az.mk s.1 [] s.2.2.1 () () s.2.2.2.1 (aP.mk [] [] []) [] []) (.row 9001) (.ref 9002 0) (.ref 9005 0) (.row 9007) (.row 9008) (.row 9009) (.row 9010) (.row 1001))))::(9001,some (.R 176 7 df s.2.1))::(9007,some (.R 201 3 fk s.2.2.2.2.1))::(9008,some (.R 4 1 DV.bool s.2.2.2.2.2.1))::(9009,some (.R 3 1 (DV.int .i64) s.2.2.2.2.2.2.1))::(9010,some (.R 192 3 fD s.2.2.2.2.2.2.2.1))::t) [] [(1001,9011)] m64 (v2.1.length:Int) (λk3 pD=>Bi (idx v2.1 (k3:Int)) λlL=>If (lL.cQ.gA != x1) (nX [] [] (some (pD.1,pD.2.1,pD.2.2.1,pD.2.2.2.1,pD.2.2.2.2.1,pD.2.2.2.2.2.1,pD.2.2.2.2.2.2.1,pD.2.2.2.2.2.2.2.1,pD.2.2.2.2.2.2.2.2)))<|Bi (idx pD.2.2.2.2.2.2.1 x1) λoi=>eE 26 (DV.int .i64) lL.gD λlI=>Bi (cl 35 [(9011,1001),(5000,1002)] (fG (AEv.mk 0 x1 2 0 lL.cQ.gN 0 0 lL.gD []) (az.mk pD.1 pD.2.1 pD.2.2.1 () () pD.2.2.2.1 (aP.mk pD.2.2.2.2.1 pD.2.2.2.2.2.1 (List.set pD.2.2.2.2.2.2.1 (Int.toNat x1) lI)) pD.2.2.2.2.2.2.2.1 pD.2.2.2.2.2.2.2.2) v2.2 o5)) λv20=>nX [] [(1001,1002)] (some (v20.EC,v20.ld,v20.sd,v20.qP,v20.bn.dL,v20.bn.aY,v20.bn.bf,v20.eh,v20.cr))) λpD=>rX [(5000,1001)] (some ((az.mk pD.1 pD.2.1 pD.2.2.1 () () pD.2.2.2.1 (aP.mk pD.2.2.2.2.1 pD.2.2.2.2.2.1 pD.2.2.2.2.2.2.1) pD.2.2.2.2.2.2.2.1 pD.2.2.2.2.2.2.2.2),v2.2))
instance Ow{x1 o0 o2 o5}:MA (sK x1 o0 o2 o5) prog 77 (λ_=>11) λr=>⟨[.ref 9000 0,.I x1],[(9000,some (.bJ 194 (az.b0 ({ o0 with bn:=(aP.mk [] [] []) }:az) (.row 9001) (.ref 9002 0) (.ref 9005 0) (.row 9007) (.row 9008) (.row 9009) (.row 9010) (.row 9011)))),(9001,some (.R 176 7 df o0.ld)),(9002,some (.bJ 299 (ak.b0 o2 (.row 9003) (.row 9004)))),(9003,some (.R 181 4 du o2.dB)),(9004,some (.mp (nU cU DV.bool o2.bq))),(9005,some (.bJ 305 [.row 9006])),(9006,some (.R 320 8 dG o5.ba)),(9007,some (.R 201 3 fk o0.bn.dL)),(9008,some (.R 4 1 DV.bool o0.bn.aY)),(9009,some (.R 3 1 (DV.int .i64) o0.bn.bf)),(9010,some (.R 192 3 fD o0.eh)),(9011,some (.R 45 9 AEv.dv o0.cr))],.gh [],[(9000,some (.bJ 194 (az.b0 ({ r.1 with bn:=(aP.mk [] [] []) }:az) (.row 9001) (.ref 9002 0) (.ref 9005 0) (.row 9007) (.row 9008) (.row 9009) (.row 9010) (.row 5000)))),(9002,some (.bJ 299 (ak.b0 r.2 (.row 9003) (.row 9004)))),(9001,some (.R 176 7 df r.1.ld)),(9003,some (.R 181 4 du r.2.dB)),(9004,some (.mp (nU cU DV.bool r.2.bq))),(9007,some (.R 201 3 fk r.1.bn.dL)),(9008,some (.R 4 1 DV.bool r.1.bn.aY)),(9009,some (.R 3 1 (DV.int .i64) r.1.bn.bf)),(9010,some (.R 192 3 fD r.1.eh)),(5000,some (.R 45 9 AEv.dv r.1.cr)),(9011,none),(9005,some (.bJ 305 [.row 9006])),(9006,some (.R 320 8 dG o5.ba))],[5000]⟩:=.e func77 ntmps77
@[reducible] def ui(s3:Unit):Option Int :=some 1
@[reducible] def uh(x1:cS)(s5:Bool):Option Int :=If s5 (If ((x1.lW==0)&&(x1.lX==0)) (some 0)<|nX [] [] (ui ()))<|nX [] [] (ui ())
def BQ(x0:Int)(x1:cS):Option Int :=fO (E:=Int) () 19 [] [3,18] [3] i2 i2 [] [] m64 6 (λk1 _=>Bi (idx ([x0,x1.aN,x1.lW,x1.gN,x1.lX,x1.bU]:List Int) (k1:Int)) λv7=>eE 21 (DV.int .i64) v7 λ_=>eb 21 ([x0,x1.aN,x1.lW,x1.gN,x1.lX,x1.bU]:List Int)<|If (decide (v7<0)) (some (.done 1))<|nX [] [] (some (.next ()))) fun
  |.next _=>jn ui 7 [] [] [] i2 i2<|If (x1.nS==5) (some 0)<|jn (uh x1) 10 [] [3] [3] (λs t=>(29,.bool s)::t) i2<|If (x1.nS==4) (nX [] [] (uh x1 (x1.nS==4)))<|nX [] [] (uh x1 (x1.nS==6))
  |.done r=>some r
instance aeX{x0 x1}:MC (BQ x0 x1) λr=>br prog 258 [.I x0,.agg (EL x1)] (.I r):=.p func258 ntmps258
def yb(x0:cS):Option cS :=Ck (dK 8 (x0.cE.length))<|wk [.z 5]<|some x0
instance aeW{x0}:MC (yb x0) λr=>br prog 140 [.agg (EL x0)] (.agg (EL r)):=.p func140 ntmps140
def qa(x0:Int):Option Bool :=some (x0 != x0)
instance KX{x0}:MC (qa x0) λr=>br prog 370 [.int .u8 x0] (.bool r):=.p func370 ntmps370
def oe(x0:Int)(x1:Int):Option Int :=Bi (qa x0) λv2=>Bi (qa x1) λv4=>If v2 (If v4 (some 0)<|some (-1))<|If v4 (some 1)<|If (decide (x0<x1)) (some (-1))<|If (decide (x1<x0)) (some 1)<|some 0
instance Jg{x0 x1}:MC (oe x0 x1) λr=>br prog 322 [.int .u8 x0,.int .u8 x1] (.I r):=.p func322 ntmps322
def tC(x0:aD):Option (Nat->Int) :=If (x0.oX.nS==4) (some (arr 0 [x0.oX.bU,x0.oX.gN,0]))<|If (x0.oX.nS==5) (some (arr 0 [x0.oX.lW,x0.oX.gN,x0.oX.lX]))<|some (arr 0 [x0.oX.gN,0,0])
instance VX{x0}:MC (tC x0) λr=>br prog 321 [.agg (Bc x0)] (.agg (SI.cs r)):=.p func321 ntmps321
def vJ(x0:aD)(x1:aD):Option Int :=Bi (ff x0.oX.aN x1.oX.aN) λv2=>Bi (ff x0.Xv x1.Xv) λv4=>Bi (oe x0.oX.nS x1.oX.nS) λv6=>eE 28 (bA 1 (DV.int .i64)) [v2,v4,v6] λv7=>Bi (wJ v7) λv9=>If (v9 != 0) (some v9)<|Bi (tC x0) λv11=>Bi (tC x1) λkG=>Bi (ff (v11 0) (kG 0)) λlL=>Bi (ff (v11 1) (kG 1)) λoi=>Bi (ff (v11 2) (kG 2)) λxa=>eE 54 (bA 1 (DV.int .i64)) [lL,oi,xa] λv20=>Bi (wJ v20) λuQ=>some uQ
instance aam{x0 x1}:MC (vJ x0 x1) λr=>br prog 260 [.agg (Bc x0),.agg (Bc x1)] (.I r):=⟨λhM=>by unfold vJ at hM;exact pbz func260 ntmps260 (wz [28,54])⟩
def wc(x0:Int)(o1:aU)(o3:aD):Option Bool :=Bi (idx o1.ba x0) λv2=>Bi (vJ v2 o3) λv4=>rX [] (some (decide (0<v4)))
instance Ny{x0 o1 o3}:MA (wc x0 o1 o3) prog 259 (λ_=>0) λr=>⟨[.I x0,.ref 9000 0,.ref 9003 0],[(9000,some (.bJ 187 [.ref 9001 0])),(9001,some (.bJ 305 [.row 9002])),(9002,some (.R 320 8 dG o1.ba)),(9003,some (.bJ 320 (Bc o3)))],.bool r,[(9000,some (.bJ 187 [.ref 9001 0])),(9001,some (.bJ 305 [.row 9002])),(9002,some (.R 320 8 dG o1.ba)),(9003,some (.bJ 320 (Bc o3)))],[]⟩:=.b func259 ntmps259
def zV(x0:Int)(o1:aU)(o3:aD):Option Int :=wL (E:=Int) (0,x0) [9000,9001,9002,9003] [1] [9000,9001,9002,9003] (λs t=>(5,.I s.1)::(6,.I s.2)::t) i2 [] [] (λs3=>If (decide (s3.1<s3.2)) (Bi (cl 20 [] (wc (IntKind.wrap .i64 (Int.fdiv (IntKind.wrap .u64 (IntKind.wrap .i64 (s3.1+s3.2))) (2^min (Int.toNat 1) (IntKind.bits .u64)))) o1 o3)) λv5=>If (!v5) (nX [] [] (some (.next ((IntKind.wrap .i64 ((IntKind.wrap .i64 (Int.fdiv (IntKind.wrap .u64 (IntKind.wrap .i64 (s3.1+s3.2))) (2^min (Int.toNat 1) (IntKind.bits .u64))))+1)),s3.2))))<|nX [] [] (some (.next (s3.1,(IntKind.wrap .i64 (Int.fdiv (IntKind.wrap .u64 (IntKind.wrap .i64 (s3.1+s3.2))) (2^min (Int.toNat 1) (IntKind.bits .u64))))))))<|some (.done s3.1)) λe6=>rX [] (some e6)
instance aaR{x0 o1 o3}:MA (zV x0 o1 o3) prog 139 (λ_=>0) λr=>⟨[.I x0,.CG 259 [.ref 9000 0,.ref 9003 0]],[(9000,some (.bJ 187 [.ref 9001 0])),(9001,some (.bJ 305 [.row 9002])),(9002,some (.R 320 8 dG o1.ba)),(9003,some (.bJ 320 (Bc o3)))],.I r,[(9000,some (.bJ 187 [.ref 9001 0])),(9001,some (.bJ 305 [.row 9002])),(9002,some (.R 320 8 dG o1.ba)),(9003,some (.bJ 320 (Bc o3)))],[]⟩:=.b func139 ntmps139
def tM(x1:Int)(x2:cS)(o0:aU):Option (Int×aU) :=Bi (BQ x1 x2) λv2=>If (v2 != 0) (rX [(5000,9001)] (some (v2,o0)))<|Bi (yb x2) λv4=>Bi (cl 34 [(9000,3),(9001,9000),(9002,9001),(9003,8)] (zV (o0.ba.length:Int) o0 (aD.mk x1 v4))) λv6=>eE 36 (bA 8 dG) [(aD.mk x1 v4)] λv7=>Bi (cl 37 [(9000,9001),(9001,36),(5000,1001)] (aeY o0.ba v6 v7)) λv9=>rX [(5000,1001)] (some (0,(aU.mk v9)))
instance QC{x1 x2 o0}:MA (tM x1 x2 o0) prog 199 (λ_=>3) λr=>⟨[.ref 9000 0,.I x1,.agg (EL x2)],[(9000,some (.bJ 305 [.row 9001])),(9001,some (.R 320 8 dG o0.ba))],.I r.1,[(9000,some (.bJ 305 [.row 5000])),(5000,some (.R 320 8 dG r.2.ba)),(9001,none)],[5000]⟩:=.b func199 ntmps199
def kr(x1:Int)(x2:cS)(o0:az)(o2:ak)(o5:aU):Option aU :=If (decide (x1<=o0.EC.lB)) (Bi (cl 19 [(9000,9005),(9001,9006),(5000,1001)] (tM x1 x2 o5)) λv2=>rX [(5000,1001)] (some v2.2))<|rX [(5000,9006)] (some o5)
instance Ql{x1 x2 o0 o2 o5}:MA (kr x1 x2 o0 o2 o5) prog 136 (λ_=>3) λr=>⟨[.ref 9000 0,.I x1,.agg (EL x2)],[(9000,some (.bJ 194 (az.b0 ({ o0 with bn:=(aP.mk [] [] []) }:az) (.row 9001) (.ref 9002 0) (.ref 9005 0) (.row 9007) (.row 9008) (.row 9009) (.row 9010) (.row 9011)))),(9001,some (.R 176 7 df o0.ld)),(9002,some (.bJ 299 (ak.b0 o2 (.row 9003) (.row 9004)))),(9003,some (.R 181 4 du o2.dB)),(9004,some (.mp (nU cU DV.bool o2.bq))),(9005,some (.bJ 305 [.row 9006])),(9006,some (.R 320 8 dG o5.ba)),(9007,some (.R 201 3 fk o0.bn.dL)),(9008,some (.R 4 1 DV.bool o0.bn.aY)),(9009,some (.R 3 1 (DV.int .i64) o0.bn.bf)),(9010,some (.R 192 3 fD o0.eh)),(9011,some (.R 45 9 AEv.dv o0.cr))],.gh [],[(9005,some (.bJ 305 [.row 5000])),(5000,some (.R 320 8 dG r.ba)),(9006,none),(9000,some (.bJ 194 (az.b0 ({ o0 with bn:=(aP.mk [] [] []) }:az) (.row 9001) (.ref 9002 0) (.ref 9005 0) (.row 9007) (.row 9008) (.row 9009) (.row 9010) (.row 9011)))),(9001,some (.R 176 7 df o0.ld)),(9002,some (.bJ 299 (ak.b0 o2 (.row 9003) (.row 9004)))),(9003,some (.R 181 4 du o2.dB)),(9004,some (.mp (nU cU DV.bool o2.bq))),(9007,some (.R 201 3 fk o0.bn.dL)),(9008,some (.R 4 1 DV.bool o0.bn.aY)),(9009,some (.R 3 1 (DV.int .i64) o0.bn.bf)),(9010,some (.R 192 3 fD o0.eh)),(9011,some (.R 45 9 AEv.dv o0.cr))],[5000]⟩:=.e func136 ntmps136
def sJ(o0:az)(o2:ak)(o5:aU):Option (ak×aU) :=Bi (cl 7 [] (jU 1 o0 o2 o5)) λv2=>fL o5.ba 9 [9000,9001,9002,9003,9004,9005,9006,9007,9008,9009,9010,9011] [0,7,8] [9000,9001,9002,9003,9004,9007,9008,9009,9010,9011] i2 (λs t=>(1001,some (.R 320 8 dG s))::(9005,some (.bJ 305 [.row 1001]))::t) [] [(1001,9006)] m64 (v2.1.length:Int) (λk3 s5=>Bi (idx v2.1 (k3:Int)) λmA=>Bi (cl 30 [(9006,1001),(5000,1004)] (kr o0.qP (cS.mk 4 mA.cQ.gA 0 mA.cQ.gN 0 mA.cQ.gB mA.cE) o0 v2.2 (aU.mk s5))) λlI=>nX [] [(1001,1004)] (some lI.ba)) λs5=>fL s5 37 [9000,9001,9002,9003,9004,9005,9006,9007,9008,9009,9010,9011] [0,35,36] [9000,9001,9002,9003,9004,9007,9008,9009,9010,9011] i2 (λs t=>(1002,some (.R 320 8 dG s))::(9005,some (.bJ 305 [.row 1002]))::t) [] [(1002,1001)] m64 (o0.sd.length:Int) (λk6 s8=>Bi (idx o0.sd (k6:Int)) λv10=>Bi (gb (v10.pX.Cl==o0.qP) (0) (fj o0.EC.eX)) λv12=>If ((v10.pX.Cl==o0.qP)&&(decide (v10.cA.uJ<v12))) (Bi (cl 84 [(9006,1002),(5000,1003)] (kr o0.qP (cS.mk 5 v10.cA.uJ v10.cA.gz v10.cA.gN v10.lX v10.pX.bU v10.pX.cE) o0 v2.2 (aU.mk s8))) λll=>nX [] [(1002,1003)] (some ll.ba))<|nX [] [] (some s8)) λs8=>rX [(5000,1002)] (some (v2.2,(aU.mk s8)))
instance Ou{o0 o2 o5}:MA (sJ o0 o2 o5) prog 78 (λ_=>6) λr=>⟨[.ref 9000 0],[(9000,some (.bJ 194 (az.b0 ({ o0 with bn:=(aP.mk [] [] []) }:az) (.row 9001) (.ref 9002 0) (.ref 9005 0) (.row 9007) (.row 9008) (.row 9009) (.row 9010) (.row 9011)))),(9001,some (.R 176 7 df o0.ld)),(9002,some (.bJ 299 (ak.b0 o2 (.row 9003) (.row 9004)))),(9003,some (.R 181 4 du o2.dB)),(9004,some (.mp (nU cU DV.bool o2.bq))),(9005,some (.bJ 305 [.row 9006])),(9006,some (.R 320 8 dG o5.ba)),(9007,some (.R 201 3 fk o0.bn.dL)),(9008,some (.R 4 1 DV.bool o0.bn.aY)),(9009,some (.R 3 1 (DV.int .i64) o0.bn.bf)),(9010,some (.R 192 3 fD o0.eh)),(9011,some (.R 45 9 AEv.dv o0.cr))],.gh [],[(9002,some (.bJ 299 (ak.b0 r.1 (.row 9003) (.row 9004)))),(9005,some (.bJ 305 [.row 5000])),(9003,some (.R 181 4 du r.1.dB)),(9004,some (.mp (nU cU DV.bool r.1.bq))),(5000,some (.R 320 8 dG r.2.ba)),(9006,none),(9000,some (.bJ 194 (az.b0 ({ o0 with bn:=(aP.mk [] [] []) }:az) (.row 9001) (.ref 9002 0) (.ref 9005 0) (.row 9007) (.row 9008) (.row 9009) (.row 9010) (.row 9011)))),(9001,some (.R 176 7 df o0.ld)),(9007,some (.R 201 3 fk o0.bn.dL)),(9008,some (.R 4 1 DV.bool o0.bn.aY)),(9009,some (.R 3 1 (DV.int .i64) o0.bn.bf)),(9010,some (.R 192 3 fD o0.eh)),(9011,some (.R 45 9 AEv.dv o0.cr))],[5000]⟩:=.e func78 ntmps78
def vL(x0:Int)(o1:aU)(o3:Int):Option Bool :=Bi (idx o1.ba x0) λv2=>rX [] (some (decide (o3<=v2.oX.aN)))
instance LK{x0 o1 o3}:MA (vL x0 o1 o3) prog 137 (λ_=>0) λr=>⟨[.I x0,.ref 9000 0,.ref 9003 0],[(9000,some (.bJ 187 [.ref 9001 0])),(9001,some (.bJ 305 [.row 9002])),(9002,some (.R 320 8 dG o1.ba)),(9003,some (.bJ 3 [.I o3]))],.bool r,[(9000,some (.bJ 187 [.ref 9001 0])),(9001,some (.bJ 305 [.row 9002])),(9002,some (.R 320 8 dG o1.ba)),(9003,some (.bJ 3 [.I o3]))],[]⟩:=.b func137 ntmps137
def yx(x0:Int)(o1:aU)(o3:Int):Option Int :=wL (E:=Int) (0,x0) [9000,9001,9002,9003] [1] [9000,9001,9002,9003] (λs t=>(5,.I s.1)::(6,.I s.2)::t) i2 [] [] (λs3=>If (decide (s3.1<s3.2)) (Bi (cl 20 [] (vL (IntKind.wrap .i64 (Int.fdiv (IntKind.wrap .u64 (IntKind.wrap .i64 (s3.1+s3.2))) (2^min (Int.toNat 1) (IntKind.bits .u64)))) o1 o3)) λv5=>If (!v5) (nX [] [] (some (.next ((IntKind.wrap .i64 ((IntKind.wrap .i64 (Int.fdiv (IntKind.wrap .u64 (IntKind.wrap .i64 (s3.1+s3.2))) (2^min (Int.toNat 1) (IntKind.bits .u64))))+1)),s3.2))))<|nX [] [] (some (.next (s3.1,(IntKind.wrap .i64 (Int.fdiv (IntKind.wrap .u64 (IntKind.wrap .i64 (s3.1+s3.2))) (2^min (Int.toNat 1) (IntKind.bits .u64))))))))<|some (.done s3.1)) λe6=>rX [] (some e6)
instance YZ{x0 o1 o3}:MA (yx x0 o1 o3) prog 139 (λ_=>0) λr=>⟨[.I x0,.CG 137 [.ref 9000 0,.ref 9003 0]],[(9000,some (.bJ 187 [.ref 9001 0])),(9001,some (.bJ 305 [.row 9002])),(9002,some (.R 320 8 dG o1.ba)),(9003,some (.bJ 3 [.I o3]))],.I r,[(9000,some (.bJ 187 [.ref 9001 0])),(9001,some (.bJ 305 [.row 9002])),(9002,some (.R 320 8 dG o1.ba)),(9003,some (.bJ 3 [.I o3]))],[]⟩:=.b func139 ntmps139
def vK(x0:Int)(o1:aU)(o3:Int)(o4:Int):Option Bool :=Bi (idx o1.ba x0) λv2=>rX [] (some ((decide (o3<v2.oX.aN))||((v2.oX.aN==o3)&&(decide (o4<v2.Xv)))))
instance LJ{x0 o1 o3 o4}:MA (vK x0 o1 o3 o4) prog 138 (λ_=>0) λr=>⟨[.I x0,.ref 9000 0,.ref 9003 0,.ref 9004 0],[(9000,some (.bJ 187 [.ref 9001 0])),(9001,some (.bJ 305 [.row 9002])),(9002,some (.R 320 8 dG o1.ba)),(9003,some (.bJ 3 [.I o3])),(9004,some (.bJ 3 [.I o4]))],.bool r,[(9000,some (.bJ 187 [.ref 9001 0])),(9001,some (.bJ 305 [.row 9002])),(9002,some (.R 320 8 dG o1.ba)),(9003,some (.bJ 3 [.I o3])),(9004,some (.bJ 3 [.I o4]))],[]⟩:=.b func138 ntmps138
def yw(x0:Int)(o1:aU)(o3:Int)(o4:Int):Option Int :=wL (E:=Int) (0,x0) [9000,9001,9002,9003,9004] [1] [9000,9001,9002,9003,9004] (λs t=>(5,.I s.1)::(6,.I s.2)::t) i2 [] [] (λs3=>If (decide (s3.1<s3.2)) (Bi (cl 20 [] (vK (IntKind.wrap .i64 (Int.fdiv (IntKind.wrap .u64 (IntKind.wrap .i64 (s3.1+s3.2))) (2^min (Int.toNat 1) (IntKind.bits .u64)))) o1 o3 o4)) λv5=>If (!v5) (nX [] [] (some (.next ((IntKind.wrap .i64 ((IntKind.wrap .i64 (Int.fdiv (IntKind.wrap .u64 (IntKind.wrap .i64 (s3.1+s3.2))) (2^min (Int.toNat 1) (IntKind.bits .u64))))+1)),s3.2))))<|nX [] [] (some (.next (s3.1,(IntKind.wrap .i64 (Int.fdiv (IntKind.wrap .u64 (IntKind.wrap .i64 (s3.1+s3.2))) (2^min (Int.toNat 1) (IntKind.bits .u64))))))))<|some (.done s3.1)) λe6=>rX [] (some e6)
instance YY{x0 o1 o3 o4}:MA (yw x0 o1 o3 o4) prog 139 (λ_=>0) λr=>⟨[.I x0,.CG 138 [.ref 9000 0,.ref 9003 0,.ref 9004 0]],[(9000,some (.bJ 187 [.ref 9001 0])),(9001,some (.bJ 305 [.row 9002])),(9002,some (.R 320 8 dG o1.ba)),(9003,some (.bJ 3 [.I o3])),(9004,some (.bJ 3 [.I o4]))],.I r,[(9000,some (.bJ 187 [.ref 9001 0])),(9001,some (.bJ 305 [.row 9002])),(9002,some (.R 320 8 dG o1.ba)),(9003,some (.bJ 3 [.I o3])),(9004,some (.bJ 3 [.I o4]))],[]⟩:=.b func139 ntmps139
def sV(x1:Int)(x2:Int)(o0:aU):Option ((List cS)×aU) :=Bi (cl 24 [(9000,3),(9001,9000),(9002,9001),(9003,5)] (yx (o0.ba.length:Int) o0 x2)) λv2=>Bi (cl 31 [(9000,3),(9001,9000),(9002,9001),(9003,5),(9004,4)] (yw (o0.ba.length:Int) o0 x2 x1)) λv4=>If (decide (v4<=v2)) (rX [(5000,9001)] (some (([]:List cS),o0)))<|Ck (kY 72 0 (IntKind.wrap .i64 (v4-v2)))<|eE 38 NM (cS.mk 0 0 0 0 0 0 []) λ_=>Ck (fC (o0.ba.length) v2 v4)<|fL ([]:List cS) 47 [9000,9001] [3,9,10,45,46] [3,9000,9001] (λ_ t=>(11,.row 1001)::t) (λs t=>(1001,some (.R 208 7 NM s))::t) [] [(1001,38)] m64 (Int.toNat (v4-v2):Int) (λk7 s9=>Ck (inV (v4-v2) v2 (k7:Int))<|Bi (idx o0.ba (v2+(k7:Int))) λll=>Bi (yb ll.oX) λmA=>eE 55 (bA 7 NM) [mA] λoi=>Ck (dK 72 (s9.length+List.length oi))<|nX [] [(1001,56)] (some (s9++oi))) λs9=>Bi (cl 65 [(9000,9001),(5000,1002)] (aeZ o0.ba v2 v4)) λv11=>wk [.z 1001]<|rX [(5000,1002)] (some (s9,(aU.mk v11)))
instance PG{x1 x2 o0}:MA (sV x1 x2 o0) prog 79 (λ_=>3) λr=>⟨[.ref 9000 0,.I x1,.I x2],[(9000,some (.bJ 305 [.row 9001])),(9001,some (.R 320 8 dG o0.ba))],.L 7 NM r.1,[(9000,some (.bJ 305 [.row 5000])),(5000,some (.R 320 8 dG r.2.ba)),(9001,none)],[5000]⟩:=.b func79 ntmps79
def xI(x0:bW):Option (List aI) :=Ck (kY 32 0 (x0.ba.length:Int))<|eE 9 mb (aI.mk 0 0 0 0) λ_=>fL ([]:List aI) 13 [] [11,12] [] (λ_ t=>(3,.row 1001)::t) (λs t=>(1001,some (.R 174 4 mb s))::t) [] [(1001,9)] m64 (x0.ba.length:Int) (λk2 s4=>Bi (idx x0.ba (k2:Int)) λv6=>eE 20 (bA 4 mb) [v6.cQ] λv7=>Ck (dK 32 (s4.length+List.length v7))<|nX [] [(1001,21)] (some (s4++v7))) λs4=>wk [.z 1001]<|some s4
instance XN{x0}:MC (xI x0) λr=>br prog 263 [.agg (zQ x0)] (.L 4 mb r):=.p func263 ntmps263
def kJ(x1:Int)(x2:Int)(o0:ak):Option (List aI) :=Bi (xI o0.fX) λv2=>fL ([]:List aI) 16 [9000,9001,9002] [0,1,2,14,15] [9000,9001,9002] (λ_ t=>(7,.row 1001)::t) (λs t=>(1001,some (.R 174 4 mb s))::t) [.r 7 1002 174 4] [(1001,1002)] m64 (v2.length:Int) (λk3 s5=>Bi (idx v2 (k3:Int)) λv7=>Ck (((v7.bC==8)&&(v7.gA==x1))=true->oO 8 x1)<|ea 36 (λx=>[(DV.int .i64) x]) o0.dE<|Ck ((((v7.bC==8)&&(v7.gA==x1))&&(decide ((o0.dE (Int.toNat x1))<=v7.gN)))=true->oO 8 x1)<|ea 47 (λx=>[(DV.int .i64) x]) o0.dE<|If ((((v7.bC==8)&&(v7.gA==x1))&&(decide ((o0.dE (Int.toNat x1))<=v7.gN)))&&(decide ((IntKind.wrap .i64 (v7.gN-(o0.dE (Int.toNat x1))))<x2))) (eE 55 (bA 4 mb) [v7] λv10=>Ck (dK 32 (s5.length+List.length v10))<|nX [] [(1001,56)] (some (s5++v10)))<|nX [] [] (some s5)) λs5=>wk [.z 1001]<|rX [] (some s5)
instance Ja{x1 x2 o0}:MA (kJ x1 x2 o0) prog 201 (λ_=>0) λr=>⟨[.ref 9000 0,.I x1,.I x2],[(9000,some (.bJ 299 (ak.b0 o0 (.row 9001) (.row 9002)))),(9001,some (.R 181 4 du o0.dB)),(9002,some (.mp (nU cU DV.bool o0.bq)))],.L 4 mb r,[(9000,some (.bJ 299 (ak.b0 o0 (.row 9001) (.row 9002)))),(9001,some (.R 181 4 du o0.dB)),(9002,some (.mp (nU cU DV.bool o0.bq)))],[]⟩:=.b func201 ntmps201
def qI(x1:Int)(x2:Int)(o0:ak):Option (Int×(List Int)) :=Bi (gy x1) λv2=>If (!v2) (rX [] (some ((-1),([]:List Int))))<|Bi (cl 20 [] (kJ x1 x2 o0)) λv4=>fL ([]:List Int) 22 [9000,9001,9002] [0,1,20,21] [9000,9001,9002] (λ_ t=>(7,.row 1001)::t) (λs t=>(1001,some (.R 3 1 (DV.int .i64) s))::t) [.r 7 1002 3 1] [(1001,1002)] m64 (v4.length:Int) (λk5 s7=>Bi (idx v4 (k5:Int)) λv10=>eE 29 (bA 1 (DV.int .i64)) [v10.gN] λv11=>Ck (dK 8 (s7.length+List.length v11))<|nX [] [(1001,30)] (some (s7++v11))) λs7=>Ck (oO 8 x1)<|ea 36 (λx=>[(DV.int .i64) x]) o0.dE<|wk [.z 1001]<|rX [] (some ((o0.dE (Int.toNat x1)),s7))
instance LA{x1 x2 o0}:MA (qI x1 x2 o0) prog 144 (λ_=>0) λr=>⟨[.ref 9000 0,.I x1,.I x2],[(9000,some (.bJ 299 (ak.b0 o0 (.row 9001) (.row 9002)))),(9001,some (.R 181 4 du o0.dB)),(9002,some (.mp (nU cU DV.bool o0.bq)))],.gh [.I r.1,.L 1 (DV.int .i64) r.2],[(9000,some (.bJ 299 (ak.b0 o0 (.row 9001) (.row 9002)))),(9001,some (.R 181 4 du o0.dB)),(9002,some (.mp (nU cU DV.bool o0.bq)))],[]⟩:=.b func144 ntmps144
def kZ(x0:ByteArray)(x1:Int):Option Int :=some (firstIdx x0 (Int.toNat x1).toUInt8)
instance Gf{x0 x1}:MC (kZ x0 x1) λr=>br prog 405 [.str x0,.int .u8 x1] (.I r):=.p func405 ntmps405
def vi(x0:ByteArray)(x1:Int):Option Int :=Bi (kZ x0 x1) λv2=>some v2
instance TB{x0 x1}:MC (vi x0 x1) λr=>br prog 372 [.str x0,.int .u8 x1] (.I r):=.p func372 ntmps372
def tw(x0:Int)(x1:Int):Option Bool :=Bi (zE x0) λv2=>Bi (vi v2.ajd x1) λv4=>some (decide (0<=v4))
instance adm{x0 x1}:MC (tw x0 x1) λr=>br prog 325 [.int .u8 x0,.int .u8 x1] (.bool r):=.p func325 ntmps325
@[reducible] def pB(x1:aC)(s9:Unit):Option Bool :=some ((decide (0<=x1.gA))&&(decide (x1.gA<=63)))
@[reducible] def pA(x1:aC)(EK:Bool):Option Bool :=If EK (If ((((decide (x1.gB<0))||(decide (63<x1.gB)))||(decide (x1.gN<0)))||(decide (4<x1.gN))) (some false)<|nX [] [] (pB x1 ()))<|nX [] [] (pB x1 ())
@[reducible] def mw(x0:cL)(x1:aC)(pD:Bool):Option Bool :=If pD (some true)<|If (x1.cZ==3) (some ((decide (0<=x1.gA))&&(decide (x1.gA<x0.dY))))<|jn (pA x1) 15 [] [3] [3] (λs t=>(81,.bool s)::t) i2<|If (x1.cZ==30) (nX [] [] (pA x1 (x1.cZ==30)))<|nX [] [] (pA x1 (x1.cZ==31))
def tv(x0:cL)(x1:aC):Option Bool :=If ((decide (x1.cZ<1))||(decide (34<x1.cZ))) (some false)<|Bi (tw x1.cZ 65) λv2=>Bi (gb (!((!v2)&&(x1.gA != 0))) (false) (tw x1.cZ 66)) λv4=>Bi (gb (!(((!v2)&&(x1.gA != 0))||((!v4)&&(x1.gB != 0)))) (false) (tw x1.cZ 78)) λv6=>If ((((!v2)&&(x1.gA != 0))||((!v4)&&(x1.gB != 0)))||((!v6)&&(x1.gN != 0))) (some false)<|Bi (oI x1) λv8=>If (v8.2&&((decide (v8.1<0))||(decide ((x0.ri.length:Int)<v8.1)))) (some false)<|jn (pB x1) 8 [] [3] [3] i2 i2<|jn (mw x0 x1) 9 [] [2,3,64] [2,3] (λs t=>(65,.bool s)::t) i2<|If (x1.cZ==27) (nX [] [] (mw x0 x1 (x1.cZ==27)))<|If (x1.cZ==28) (nX [] [] (mw x0 x1 (x1.cZ==28)))<|nX [] [] (mw x0 x1 (x1.cZ==32))
instance Vs{x0 x1}:MC (tv x0 x1) λr=>br prog 264 [.agg (EM x0),.agg (CU x1)] (.bool r):=.p func264 ntmps264
def zC(x0:cL):Option Int :=If ((decide (64<x0.Vj))||(decide (4000<(x0.ri.length:Int)))) (some 3)<|If ((decide (x0.dY<0))||(decide (4<x0.dY))) (some 6)<|fO (E:=Int) () 27 [] [1,25,26] [1] i2 i2 [] [] m64 (x0.ri.length:Int) (λk1 _=>Bi (idx x0.ri (k1:Int)) λv6=>Bi (tv x0 v6) λv8=>If (!v8) (some (.done 6))<|nX [] [] (some (.next ()))) fun
  |.next _=>Bi (vz x0.ri) λv4=>If ((!v4.2)||(v4.1 != x0.Vj)) (some 6)<|some 0
  |.done r=>some r
instance age{x0}:MC (zC x0) λr=>br prog 202 [.agg (EM x0)] (.I r):=.p func202 ntmps202
@[reducible] def AO(s1:Unit):Option Bool :=rX [] (some true)
@[reducible] def lf(x0:aC)(x1:aM)(s4:Bool):Option Bool :=If s4 (rX [] (some (decide (x0.gA<(x1.dh.length:Int)))))<|nX [] [] (AO ())
@[reducible] def pY(x0:aC)(x1:aM)(o0:List Bool)(s5:Bool):Option Bool :=If s5 (rX [] (some (decide (x0.gA<(x1.eG.length:Int)))))<|If (x0.cZ==4) (rX [] (some (decide (x0.gA<(o0.length:Int)))))<|jn (lf x0 x1) 8 [9000] [3,4] [3,4,9000] (λs t=>(27,.bool s)::t) i2<|If (x0.cZ==6) (nX [] [] (lf x0 x1 (x0.cZ==6)))<|If (x0.cZ==7) (nX [] [] (lf x0 x1 (x0.cZ==7)))<|If (x0.cZ==8) (nX [] [] (lf x0 x1 (x0.cZ==8)))<|If (x0.cZ==25) (nX [] [] (lf x0 x1 (x0.cZ==25)))<|nX [] [] (lf x0 x1 (x0.cZ==26))
def wY(x0:aC)(x1:aM)(LW:List Int)(Qe:Int)(Qf:Int)(Qg:List Int)(o0:List Bool):Option Bool :=jn AO 1 [9000] [] [9000] i2 i2<|jn (pY x0 x1 o0) 2 [9000] [3,4,5,8] [3,4,5,9000] (λs t=>(9,.bool s)::t) i2<|If (x0.cZ==2) (nX [] [] (pY x0 x1 o0 (x0.cZ==2)))<|If (x0.cZ==24) (nX [] [] (pY x0 x1 o0 (x0.cZ==24)))<|nX [] [] (pY x0 x1 o0 (x0.cZ==33))
instance aa4{x0 x1 LW Qe Qf Qg o0}:MA (wY x0 x1 LW Qe Qf Qg o0) prog 203 (λ_=>0) λr=>⟨[.agg (CU x0),.agg (NP x1),.agg [.L 1 (DV.int .i64) LW,.I Qe,.row 9000,.I Qf,.L 1 (DV.int .i64) Qg]],[(9000,some (.R 4 1 DV.bool o0))],.bool r,[(9000,some (.R 4 1 DV.bool o0))],[]⟩:=.b func203 ntmps203
def xZ(x0:Int)(x1:Int):Option Bool :=Bi (rD x0) λv2=>Bi (gb v2 (false) (rD x1)) λv4=>some ((v2&&(!v4))||(decide (x0<x1)))
instance ado{x0 x1}:MC (xZ x0 x1) λr=>br prog 335 [.I x0,.I x1] (.bool r):=.p func335 ntmps335
def jL(x1:Int)(x2:Int)(o0:List Int):Option (List Int) :=wL (E:=(List Int)) (o0,(IntKind.wrap .i64 (x1+1))) [9000] [0,1,2] [] (λs t=>(6,.I s.2)::t) (λs t=>(9000,some (.R 3 1 (DV.int .i64) s.1))::t) [] [] (λs3=>If (decide (s3.2<x2)) (wL (E:=(List Int)) (s3.1,s3.2) [9000] [0,1,2,6] [] (λs t=>(7,.I s.2)::t) (λs t=>(9000,some (.R 3 1 (DV.int .i64) s.1))::t) [] [] (λs6=>Bi (gb (decide (x1<s6.2)) 0 (idx s6.1 s6.2)) λv8=>Bi (gb (decide (x1<s6.2)) 0 (idx s6.1 (IntKind.wrap .i64 (s6.2-1)))) λv10=>Bi (gb (decide (x1<s6.2)) (false) (xZ v8 v10)) λv12=>If ((decide (x1<s6.2))&&v12) (Bi (idx s6.1 (IntKind.wrap .i64 (s6.2-1))) λll=>Bi (idx s6.1 s6.2) λmA=>eE 47 (DV.int .i64) ll λoi=>Bi (idx (List.set s6.1 (Int.toNat s6.2) oi) (IntKind.wrap .i64 (s6.2-1))) λxa=>eE 48 (DV.int .i64) mA λv20=>nX [] [] (some (.next ((List.set (List.set s6.1 (Int.toNat s6.2) oi) (Int.toNat (IntKind.wrap .i64 (s6.2-1))) v20),(IntKind.wrap .i64 (s6.2-1))))))<|some (.done s6.1)) λe21=>nX [] [] (some (.next (e21,(IntKind.wrap .i64 (s3.2+1))))))<|some (.done s3.1)) λe22=>rX [] (some e22)
instance Eu{x1 x2 o0}:MA (jL x1 x2 o0) prog 329 (λ_=>1) λr=>⟨[.row 9000,.I x1,.I x2],[(9000,some (.R 3 1 (DV.int .i64) o0))],.gh [],[(9000,some (.R 3 1 (DV.int .i64) r))],[]⟩:=.e func329 ntmps329
@[reducible] def pN(s3:Unit):Option (List Int) :=none
def mJ(x1:Int)(x2:Int)(x3:Int)(o0:List Int):Option (List Int) :=o1<|If (decide ((IntKind.wrap .i64 (x2-x1))<=12)) (Bi (cl 27 [] (jL x1 x2 o0)) λv2=>rX [] (some v2))<|If (x3==0) (none)<|jn pN 7 [9000] [0,1,2,3,8,9,10] [9000] i2 i2<|If (!true) (none)<|nX [] [] (pN ())
instance HP{x1 x2 x3 o0}:MA (mJ x1 x2 x3 o0) prog 266 (λ_=>1) λr=>⟨[.row 9000,.I x1,.I x2,.I x3],[(9000,some (.R 3 1 (DV.int .i64) o0))],.gh [],[(9000,some (.R 3 1 (DV.int .i64) r))],[]⟩:=.e func266 ntmps266
def nM(o0:List Int):Option (List Int) :=Bi (rB (IntKind.wrap .u64 (o0.length:Int))) λv2=>Bi (cl 10 [] (mJ 0 (o0.length:Int) v2 o0)) λv4=>rX [] (some v4)
instance Mn{o0}:MA (nM o0) prog 205 (λ_=>1) λr=>⟨[.row 9000],[(9000,some (.R 3 1 (DV.int .i64) o0))],.gh [],[(9000,some (.R 3 1 (DV.int .i64) r))],[]⟩:=.e func205 ntmps205
def eV(x1:Int)(o0:aJ):Option aJ :=eE 10 (bA 1 (DV.int .i64)) [x1] λv1=>Ck (dK 8 (o0.cG.length+List.length v1))<|rX [(5000,11)] (some ({ o0 with cG:=(o0.cG++v1) }:aJ))
instance Qz{x1 o0}:MA (eV x1 o0) prog 338 (λ_=>3) λr=>⟨[.ref 9000 0,.I x1],[(9000,some (.bJ 425 (aJ.b0 o0 (.row 9001) (.row 9002) (.row 9003) (.row 9004) (.row 9005)))),(9001,some (.R 2 1 (DV.int .i64) o0.aE.bL.eG)),(9002,some (.R 199 1 iU o0.aE.bL.dh)),(9003,some (.R 343 8 mB o0.aE.dt)),(9004,some (.R 4 1 DV.bool o0.ca.aY)),(9005,some (.R 2 1 (DV.int .i64) o0.cG))],.gh [],[(9000,some (.bJ 425 (aJ.b0 r (.row 9001) (.row 9002) (.row 9003) (.row 9004) (.row 5000)))),(5000,some (.R 2 1 (DV.int .i64) r.cG)),(9005,none),(9001,some (.R 2 1 (DV.int .i64) o0.aE.bL.eG)),(9002,some (.R 199 1 iU o0.aE.bL.dh)),(9003,some (.R 343 8 mB o0.aE.dt)),(9004,some (.R 4 1 DV.bool o0.ca.aY))],[5000]⟩:=.e func338 ntmps338
def BG(x0:Bool):Option Int :=If x0 (some 1)<|some 0
instance ahN{x0}:MC (BG x0) λr=>br prog 339 [.bool x0] (.I r):=.p func339 ntmps339
def eB(o0:aJ):Option (Int×aJ) :=Bi (idx o0.cG (IntKind.wrap .i64 ((o0.cG.length:Int)-1))) λv2=>Ck (fC (o0.cG.length) 0 (IntKind.wrap .i64 ((o0.cG.length:Int)-1)))<|rX [(5000,24)] (some (v2,({ o0 with cG:=(List.take (Int.toNat (IntKind.wrap .i64 ((o0.cG.length:Int)-1))) o0.cG) }:aJ)))
instance Sc{o0}:MA (eB o0) prog 341 (λ_=>3) λr=>⟨[.ref 9000 0],[(9000,some (.bJ 425 (aJ.b0 o0 (.row 9001) (.row 9002) (.row 9003) (.row 9004) (.row 9005)))),(9001,some (.R 2 1 (DV.int .i64) o0.aE.bL.eG)),(9002,some (.R 199 1 iU o0.aE.bL.dh)),(9003,some (.R 343 8 mB o0.aE.dt)),(9004,some (.R 4 1 DV.bool o0.ca.aY)),(9005,some (.R 2 1 (DV.int .i64) o0.cG))],.I r.1,[(9000,some (.bJ 425 (aJ.b0 r.2 (.row 9001) (.row 9002) (.row 9003) (.row 9004) (.row 5000)))),(5000,some (.R 2 1 (DV.int .i64) r.2.cG)),(9005,none),(9001,some (.R 2 1 (DV.int .i64) o0.aE.bL.eG)),(9002,some (.R 199 1 iU o0.aE.bL.dh)),(9003,some (.R 343 8 mB o0.aE.dt)),(9004,some (.R 4 1 DV.bool o0.ca.aY))],[5000]⟩:=.b func341 ntmps341
def mn(x0:Bool):Option Int :=If x0 (some 1)<|some 0
instance ahL{x0}:MC (mn x0) λr=>br prog 376 [.bool x0] (.I r):=.p func376 ntmps376
def Fh(x0:Int)(x1:Int):Option (Int×Int) :=If (x0==9) (some ((IntKind.wrap .i64 (0-x1)),0))<|If (x0==10) (Bi (mn (x1==0)) λv2=>some (v2,0))<|some (0,1)
instance ahM{x0 x1}:MC (Fh x0 x1) λr=>br prog 340 [.int .u8 x0,.I x1] (.gh [.I r.1,.I r.2]):=.p func340 ntmps340
@[reducible] def mX(x1:aC)(o0:aJ)(v3:(List Int))(NG:(List cy)×Int×(List aC)×(List Int)×Int×Int×(List Int)×(List Int)×Int×Int×Int×Bool×Int×Int):Option aJ :=wk [.z 1002]<|eE 64 (bA 8 mB) [(cw.mk NG.2.2.2.2.2.2.2.2.2.2.2.2.1 x1.gA x1.gB NG.2.2.2.2.2.2.2.2.2.2.2.2.2 0 0 false v3)] λxa=>Ck (dK 80 (o0.aE.dt.length+List.length xa))<|rX [(5000,65),(5001,1001)] (some (aJ.mk (bZ.mk ({ o0.aE.bL with ez:=(aQ.mk NG.1) }:aM) (o0.aE.dt++xa) NG.2.1) NG.2.2.1 (ew.mk NG.2.2.2.1 NG.2.2.2.2.1 o0.ca.aY NG.2.2.2.2.2.1 NG.2.2.2.2.2.2.1) NG.2.2.2.2.2.2.2.1 NG.2.2.2.2.2.2.2.2.1 NG.2.2.2.2.2.2.2.2.2.1 NG.2.2.2.2.2.2.2.2.2.2.1 NG.2.2.2.2.2.2.2.2.2.2.2.1))
def py(x1:aC)(o0:aJ):Option aJ :=If (o0.ml==8) (rX [(5000,9003),(5001,9005)] (some ({ o0 with mm:=true }:aJ)))<|Ck (fC (o0.cG.length) (IntKind.wrap .i64 ((o0.cG.length:Int)-x1.gN)) (o0.cG.length:Int))<|Bi (cl 39 [(9000,9005),(5000,39)] (iJ (Int.toNat (IntKind.wrap .i64 ((o0.cG.length:Int)-x1.gN))) (Int.toNat ((o0.cG.length:Int)-(IntKind.wrap .i64 ((o0.cG.length:Int)-x1.gN)))) o0.cG)) λv3=>Ck (fC (o0.cG.length) 0 (IntKind.wrap .i64 ((o0.cG.length:Int)-x1.gN)))<|jn (mX x1 o0 v3) 7 [9000,9001,9002,9003,9004,9005] [0,5] [9001,9002,9003,9004] i2 (λs t=>(5,some (.bJ 343 [.int .u8 s.2.2.2.2.2.2.2.2.2.2.2.2.1,.I x1.gA,.I x1.gB,.I s.2.2.2.2.2.2.2.2.2.2.2.2.2,.I 0,.I 0,.bool false,.row 1002]))::(1001,some (.R 2 1 (DV.int .i64) s.2.2.2.2.2.2.2.1))::(1002,some (.R 2 1 (DV.int .i64) v3))::(9000,some (.bJ 425 (aJ.b0 (aJ.mk (bZ.mk (aM.mk [] [] (aQ.mk s.1)) [] s.2.1) s.2.2.1 (ew.mk s.2.2.2.1 s.2.2.2.2.1 [] s.2.2.2.2.2.1 s.2.2.2.2.2.2.1) [] s.2.2.2.2.2.2.2.2.1 s.2.2.2.2.2.2.2.2.2.1 s.2.2.2.2.2.2.2.2.2.2.1 s.2.2.2.2.2.2.2.2.2.2.2.1) (.row 9001) (.row 9002) (.row 9003) (.row 9004) (.row 1001))))::t)<|If (x1.cZ==31) (Bi (cl 54 [(9005,47),(5000,1003)] (eB ({ o0 with cG:=(List.take (Int.toNat (IntKind.wrap .i64 ((o0.cG.length:Int)-x1.gN))) o0.cG),ml:=(IntKind.wrap .i64 (o0.ml+1)) }:aJ))) λuj=>nX [] [(1001,1003),(1002,39)] (mX x1 o0 v3 (uj.2.aE.bL.ez.ba,uj.2.aE.jm,uj.2.cM,uj.2.ca.cE,uj.2.ca.Dt,uj.2.ca.ez,uj.2.ca.xp,uj.2.cG,uj.2.sa,uj.2.ml,uj.2.dE,uj.2.mm,2,uj.1)))<|nX [] [(1001,47),(1002,39)] (mX x1 o0 v3 (o0.aE.bL.ez.ba,o0.aE.jm,o0.cM,o0.ca.cE,o0.ca.Dt,o0.ca.ez,o0.ca.xp,(List.take (Int.toNat (IntKind.wrap .i64 ((o0.cG.length:Int)-x1.gN))) o0.cG),o0.sa,(IntKind.wrap .i64 (o0.ml+1)),o0.dE,o0.mm,1,0))
instance Qy{x1 o0}:MA (py x1 o0) prog 342 (λ_=>8) λr=>⟨[.ref 9000 0,.agg (CU x1)],[(9000,some (.bJ 425 (aJ.b0 o0 (.row 9001) (.row 9002) (.row 9003) (.row 9004) (.row 9005)))),(9001,some (.R 2 1 (DV.int .i64) o0.aE.bL.eG)),(9002,some (.R 199 1 iU o0.aE.bL.dh)),(9003,some (.R 343 8 mB o0.aE.dt)),(9004,some (.R 4 1 DV.bool o0.ca.aY)),(9005,some (.R 2 1 (DV.int .i64) o0.cG))],.gh [],[(9000,some (.bJ 425 (aJ.b0 r (.row 9001) (.row 9002) (.row 5000) (.row 9004) (.row 5001)))),(9001,some (.R 2 1 (DV.int .i64) r.aE.bL.eG)),(9002,some (.R 199 1 iU r.aE.bL.dh)),(9004,some (.R 4 1 DV.bool r.ca.aY)),(5000,some (.R 343 8 mB r.aE.dt)),(5001,some (.R 2 1 (DV.int .i64) r.cG)),(9003,none),(9005,none)],[5000,5001]⟩:=.e func342 ntmps342
def wx(x0:Int):Option Bool :=some (x0 != x0)
instance UC{x0}:MC (wx x0) λr=>br prog 407 [.I x0] (.bool r):=.p func407 ntmps407
def mL(x0:List Int)(x1:Int):Option (Int×Bool) :=wL (E:=Int) (0,(x0.length:Int)) [] [0,1,6] [] (λs t=>(7,.I s.1)::(8,.I s.2)::t) i2 [] [] (λs3=>If (decide (s3.1<s3.2)) (Bi (idx x0 (IntKind.wrap .i64 (Int.fdiv (IntKind.wrap .u64 (IntKind.wrap .i64 (s3.1+s3.2))) (2^min (Int.toNat 1) (IntKind.bits .u64))))) λv5=>Bi (xZ v5 x1) λv7=>If v7 (nX [] [] (some (.next ((IntKind.wrap .i64 ((IntKind.wrap .i64 (Int.fdiv (IntKind.wrap .u64 (IntKind.wrap .i64 (s3.1+s3.2))) (2^min (Int.toNat 1) (IntKind.bits .u64))))+1)),s3.2))))<|nX [] [] (some (.next (s3.1,(IntKind.wrap .i64 (Int.fdiv (IntKind.wrap .u64 (IntKind.wrap .i64 (s3.1+s3.2))) (2^min (Int.toNat 1) (IntKind.bits .u64))))))))<|some (.done s3.1)) λJl=>Bi (gb (decide (Jl<(x0.length:Int))) 0 (idx x0 Jl)) λv9=>Bi (gb ((decide (Jl<(x0.length:Int))) && !(v9==x1)) 0 (idx x0 Jl)) λv11=>Bi (gb ((decide (Jl<(x0.length:Int))) && !(v9==x1)) (false) (wx v11)) λkG=>Bi (gb (((decide (Jl<(x0.length:Int))) && !(v9==x1))&&kG) (false) (wx x1)) λlL=>some (Jl,((decide (Jl<(x0.length:Int)))&&((v9==x1)||(kG&&lL))))
instance HQ{x0 x1}:MC (mL x0 x1) λr=>br prog 377 [.L 1 (DV.int .i64) x0,.I x1] (.gh [.I r.1,.bool r.2]):=.p func377 ntmps377
def xH(x0:Int):Option Bool :=some (x0 != x0)
instance XI{x0}:MC (xH x0) λr=>br prog 425 [.I x0] (.bool r):=.p func425 ntmps425
def vC(x0:Int)(x1:Int):Option Int :=Bi (xH x0) λv2=>Bi (xH x1) λv4=>If v2 (If v4 (some 0)<|some (-1))<|If v4 (some 1)<|If (decide (x0<x1)) (some (-1))<|If (decide (x1<x0)) (some 1)<|some 0
instance TW{x0 x1}:MC (vC x0 x1) λr=>br prog 420 [.I x0,.I x1] (.I r):=.p func420 ntmps420
end Go.Proofs.YtaafmkmdfcgeaaaGreatDoor

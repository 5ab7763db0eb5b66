/- Part 3 of what the claim leans on. -/
import Derived.Test.YtaafmkmdfcgeaaaGreatDoorRBv2
import Derived.Test.YtaafmkmdfcgeaaaGreatDoorProg
set_option maxRecDepth 100000
set_option linter.unusedVariables false
set_option maxHeartbeats 4000000
set_option linter.unusedSimpArgs false
noncomputable section
namespace Go.Proofs.YtaafmkmdfcgeaaaGreatDoor
open Go.Proofs.Tryz
open Go.RowKit
theorem ae5.of{P:Program}{t n:Nat}(h:(P.underlying t).map (·.isRow)=some true:=by kernel_rfl)(hi:(P.info? t).map (·.size)=some n:=by kernel_rfl):ae5 P t n:=by
 cases hu:P.underlying t with
 |none=>simp[hu]at h
 |some d=>exact⟨d,hu,by simpa [hu]using h,hi⟩
theorem TSc.of{P:Program}{t:Nat}(h:(P.underlying t).map (·.isRow)=some false:=by kernel_rfl)(hi:(P.info? t).map (·.size)=some 1:=by kernel_rfl):TSc P t:=by
 cases hu:P.underlying t with
 |none=>simp[hu]at h
 |some d=>exact⟨d,hu,by simpa [hu]using h,hi⟩
def ajg(P:Program)(t i:Nat):Option (TypeId×Nat):=match P.underlying t with
 |some (.struct fs)=>(fs[i]?).map λf=>(f.type,f.offset)
 |_=>none
theorem cf.of{P:Program}{t i off n:Nat}{ft:TypeId}(h:ajg P t i=some (ft,off):=by kernel_rfl)(hs:(P.info? ft).map (·.size)=some n:=by kernel_rfl)(hp:0<n:=by decide):cf P t i off n ft:=by
 refine⟨?_,hs,hp⟩;unfold ajg at h
 split at h
 .rename_i fs hu
  cases hf:fs[i]? with
  |none=>rw[hf]at h;cases h
  |some f=>rw[hf]at h;injection h with h;injection h with h1 h2;exact⟨fs,f,hu,hf,h1,h2⟩
 .cases h
theorem lK.of{P:Program}{t e sz bytes:Nat}{zd:DV}(hu:P.underlying t=some (.slice e):=by kernel_rfl)(hi:(P.info? e).map (λi=>(i.zero.map (λz=>(Bh z,z.cells.size)),i.size,i.bytes))=some (some (zd,sz),sz,bytes):=by kernel_rfl)(hp:0<sz:=by decide):lK P t e sz bytes zd:=by
 cases hq:P.info? e with
 |none=>simp[hq]at hi
 |some i=>
  simp only[hq,Option.map_some,Option.some.injEq,Prod.mk.injEq]at hi;obtain⟨h1,h2,h3⟩:=hi;cases hz:i.zero with
  |none=>simp[hz]at h1
  |some z=>
   simp only[hz,Option.map_some,Option.some.injEq,Prod.mk.injEq]at h1;exact⟨z,⟨hu,⟨i,hq,hz,h2,h3⟩,h1.2,hp⟩,h1.1⟩
def ank(P:Program)(t:Nat):Option (List (Nat×Nat)×Bool):=match P.underlying t with
 |some (.struct fs)=>some (fs.toList.map (λf=>(f.offset,P.cellsOf f.type)),fs.toList.all λf=>(P.info? f.type).isSome)
 |_=>none
theorem sA.uA{P:Program}{t:Nat}{pl:List (Nat×Nat)}(h:ank P t=some (pl,true):=by kernel_rfl):sA P t pl:=by
 refine⟨.inl ?_⟩;unfold ank at h
 split at h
 .rename_i fs hu
  injection h with h;injection h with h1 h2
  exact⟨fs,hu,λf hf=>List.all_eq_true.1 h2 f hf,h1⟩
 .cases h
theorem sA.ofA{P:Program}{t n e s:Nat}(h:P.underlying t=some (.array n e):=by kernel_rfl)(hs:(P.info? e).map (·.size)=some s:=by kernel_rfl):sA P t ((List.range n).map λi=>(i*s,s)):=⟨.inr ⟨n,e,s,h,hs,rfl⟩⟩
instance:dM prog 2 1:={}
instance:BT prog 2 .i64:={}
instance:qe prog 2:=⟨.of⟩
instance:dM prog 3 1:={}
instance:eP prog 3 ([zI]):={}
instance:BT prog 3 .i64:={}
instance:qe prog 3:=⟨.of⟩
instance:dM prog 4 1:={}
instance:ae7 prog 4:={}
instance:qe prog 4:=⟨.of⟩
instance:dM prog 5 1:={}
instance:BT prog 5 .u8:={}
instance:qe prog 5:=⟨.of⟩
instance:dM prog 9 1:={}
instance:qe prog 9:=⟨.of⟩
instance:dM prog 22 1:={}
instance:eP prog 22 ([.cu]):={}
instance:qe prog 22:=⟨.of⟩
instance:lK prog 22 5 1 1 (zU):=.of
instance:qe prog 23:=⟨.of⟩
instance:lK prog 23 246 4 56 (.agg ([zU,zU,.cu,.cu])):=.of
instance:jM prog 25 3:=⟨.of⟩
instance:cf prog 25 0 0 1 5:=.of
instance:cf prog 25 1 1 1 22:=.of
instance:cf prog 25 2 2 1 23:=.of
instance:dM prog 26 1:={}
instance:qe prog 26:=⟨.of⟩
instance:lK prog 26 176 7 72 (.agg ([zU,zI,zI,zI,zI,zI,.cu])):=.of
instance:dM prog 27 1:={}
instance:qe prog 27:=⟨.of⟩
instance:lK prog 27 181 4 48 (.agg ([zI,zI,zI,.cu])):=.of
instance:jM prog 29 6:=⟨.of⟩
instance:cf prog 29 0 0 3 25:=.of
instance:cf prog 29 1 3 1 26:=.of
instance:cf prog 29 2 4 1 27:=.of
instance:cf prog 29 3 5 1 5:=.of
instance:dM prog 31 1:={}
instance:qe prog 31:=⟨.of⟩
instance:lK prog 31 45 9 88 (.agg ([zI,zI,zU,zI,zI,zI,zI,zI,.cu])):=.of
instance:lK prog 34 48 16 128 (.agg ([zW,zW,zW,zW,zW,zW,zW,zW,zW,zW,zW,zW,zW,zW,zW,zW])):=.of
instance:dM prog 35 1:={}
instance:qe prog 35:=⟨.of⟩
instance:dM prog 38 1:={}
instance:qe prog 38:=⟨.of⟩
instance:lK prog 38 52 1 24 (.cu):=.of
instance:dM prog 40 1:={}
instance:BT prog 40 .u64:={}
instance:qe prog 40:=⟨.of⟩
instance:eP prog 41 ([zW,zW,zW,zW,zW,zW,zW,zW,zW]):={}
instance:te prog 41 9 40 1:=⟨bp,bp⟩
instance:dM prog 42 1:={}
instance:BT prog 42 .u8:={}
instance:qe prog 42:=⟨.of⟩
instance:dM prog 43 1:={}
instance:qe prog 43:=⟨.of⟩
instance:lK prog 43 2 1 8 (zI):=.of
instance:dM prog 45 9:={}
instance:eP prog 45 ([zI,zI,zU,zI,zI,zI,zI,zI,.cu]):={}
instance:jM prog 45 9:=⟨.of⟩
instance:cf prog 45 0 0 1 3:=.of
instance:cf prog 45 1 1 1 3:=.of
instance:cf prog 45 2 2 1 42:=.of
instance:cf prog 45 3 3 1 3:=.of
instance:cf prog 45 4 4 1 3:=.of
instance:cf prog 45 5 5 1 3:=.of
instance:cf prog 45 6 6 1 3:=.of
instance:cf prog 45 7 7 1 2:=.of
instance:cf prog 45 8 8 1 43:=.of
instance:sA prog 45 [(0,1),(1,1),(2,1),(3,1),(4,1),(5,1),(6,1),(7,1),(8,1)]:=.uA
instance:te prog 46 16 40 1:=⟨bp,bp⟩
instance:dM prog 48 16:={}
instance:eP prog 48 ([zW,zW,zW,zW,zW,zW,zW,zW,zW,zW,zW,zW,zW,zW,zW,zW]):={}
instance:jM prog 48 16:=⟨.of⟩
instance:cf prog 48 0 0 16 46:=.of
instance:sA prog 48 [(0,16)]:=.uA
instance:dM prog 52 1:={}
instance:qe prog 52:=⟨.of⟩
instance:lK prog 52 4 1 1 (.bool false):=.of
instance:eP prog 58 ([zI,zI]):={}
instance:cf prog 58 0 0 1 3:=.of
instance:cf prog 58 1 1 1 3:=.of
instance:sA prog 58 [(0,1),(1,1)]:=.uA
instance:dM prog 59 1:={}
instance:eP prog 59 ([.cu]):={}
instance:qe prog 59:=⟨.of⟩
instance:lK prog 59 64 29 248 (.agg ([zI,zW,zW,zW,zW,zW,zW,zW,zW,zW,zW,zW,zW,zW,zW,zW,zW,zW,zU,zI,zI,zU,zI,zI,zI,zI,zI,.cu,zW])):=.of
instance:qe prog 62:=⟨.of⟩
instance:dM prog 64 29:={}
instance:eP prog 64 ([zI,zW,zW,zW,zW,zW,zW,zW,zW,zW,zW,zW,zW,zW,zW,zW,zW,zW,zU,zI,zI,zU,zI,zI,zI,zI,zI,.cu,zW]):={}
instance:jM prog 64 29:=⟨.of⟩
instance:cf prog 64 0 0 1 3:=.of
instance:cf prog 64 1 1 1 40:=.of
instance:cf prog 64 2 2 16 48:=.of
instance:cf prog 64 3 18 1 62:=.of
instance:cf prog 64 4 19 9 45:=.of
instance:cf prog 64 5 28 1 40:=.of
instance:sA prog 64 [(0,1),(1,1),(2,16),(18,1),(19,9),(28,1)]:=.uA
instance:Ek prog 65:=⟨⟨131,bp⟩⟩
instance:qe prog 65:=⟨.of⟩
instance:dM prog 67 1:={}
instance:eP prog 67 ([.cu]):={}
instance:jM prog 67 1:=⟨.of⟩
instance:cf prog 67 0 0 1 26:=.of
instance:sA prog 67 [(0,1)]:=.uA
instance:dM prog 69 4:={}
instance:eP prog 69 ([.val (.pointer none),.cu,.cu,zI]):={}
instance:jM prog 69 4:=⟨.of⟩
instance:cf prog 69 0 0 1 65:=.of
instance:cf prog 69 1 1 1 67:=.of
instance:cf prog 69 2 2 1 27:=.of
instance:cf prog 69 3 3 1 3:=.of
instance:sA prog 69 [(0,1),(1,1),(2,1),(3,1)]:=.uA
instance:dM prog 70 1:={}
instance:qe prog 70:=⟨.of⟩
instance:lK prog 70 249 2 24 (.agg ([zS,.bool false])):=.of
instance:dM prog 71 1:={}
instance:qe prog 71:=⟨.of⟩
instance:lK prog 71 251 3 40 (.agg ([zS,zS,zI])):=.of
instance:dM prog 72 1:={}
instance:qe prog 72:=⟨.of⟩
instance:lK prog 72 257 3 64 (.agg ([zS,.cu,.cu])):=.of
instance:dM prog 74 4:={}
instance:eP prog 74 ([zS,.cu,.cu,.cu]):={}
instance:jM prog 74 4:=⟨.of⟩
instance:cf prog 74 0 0 1 9:=.of
instance:cf prog 74 1 1 1 70:=.of
instance:cf prog 74 2 2 1 71:=.of
instance:cf prog 74 3 3 1 72:=.of
instance:sA prog 74 [(0,1),(1,1),(2,1),(3,1)]:=.uA
instance:lK prog 80 174 4 32 (.agg ([zU,zI,zI,zI])):=.of
instance:dM prog 81 1:={}
instance:qe prog 81:=⟨.of⟩
instance:lK prog 81 192 3 72 (.agg ([.cu,.cu,.cu])):=.of
instance:eP prog 83 ([.cu,.cu,.cu]):={}
instance:cf prog 83 0 0 1 31:=.of
instance:sA prog 83 [(0,1),(1,1),(2,1)]:=.uA
instance:eP prog 85 (List.replicate 144 (zW)):={}
instance:te prog 85 9 48 16:=⟨bp,bp⟩
instance:dM prog 89 3:={}
instance:eP prog 89 ([zI,zI,zI]):={}
instance:jM prog 89 3:=⟨.of⟩
instance:cf prog 89 0 0 1 3:=.of
instance:cf prog 89 1 1 1 3:=.of
instance:cf prog 89 2 2 1 3:=.of
instance:sA prog 89 [(0,1),(1,1),(2,1)]:=.uA
instance:dM prog 92 1:={}
instance:eP prog 92 ([.cu]):={}
instance:qe prog 92:=⟨.of⟩
instance:lK prog 92 3 1 8 (zI):=.of
instance:dM prog 94 1:={}
instance:qe prog 94:=⟨.of⟩
instance:lK prog 94 9 1 16 (zS):=.of
instance:dM prog 107 4:={}
instance:eP prog 107 ([zI,zI,.cu,.bool false]):={}
instance:cf prog 107 1 1 1 3:=.of
instance:cf prog 107 2 2 1 22:=.of
instance:cf prog 107 3 3 1 4:=.of
instance:sA prog 107 [(0,1),(1,1),(2,1),(3,1)]:=.uA
instance:Ek prog 116:=⟨⟨194,bp⟩⟩
instance:dM prog 122 1:={}
instance:qe prog 122:=⟨.of⟩
instance:lK prog 122 271 2 24 (.agg ([zS,.bool false])):=.of
instance:dM prog 123 1:={}
instance:qe prog 123:=⟨.of⟩
instance:lK prog 123 272 3 40 (.agg ([zS,zS,zI])):=.of
instance:dM prog 124 1:={}
instance:qe prog 124:=⟨.of⟩
instance:lK prog 124 276 3 64 (.agg ([zS,.cu,.cu])):=.of
instance:dM prog 126 4:={}
instance:eP prog 126 ([zS,.cu,.cu,.cu]):={}
instance:jM prog 126 4:=⟨.of⟩
instance:cf prog 126 0 0 1 9:=.of
instance:cf prog 126 1 1 1 122:=.of
instance:cf prog 126 2 2 1 123:=.of
instance:cf prog 126 3 3 1 124:=.of
instance:sA prog 126 [(0,1),(1,1),(2,1),(3,1)]:=.uA
instance:dM prog 128 32:={}
instance:eP prog 128 (List.replicate 32 (zU)):={}
instance:jM prog 128 32:=⟨.of⟩
instance:te prog 128 32 5 1:=⟨bp,bp⟩
instance:Ek prog 129:=⟨⟨370,bp⟩⟩
instance:qe prog 129:=⟨.of⟩
instance:eP prog 131 ([zS,.cu,.cu,.cu,zS,zU,zU,zU,zU,zU,zU,zU,zU,zU,zU,zU,zU,zU,zU,zU,zU,zU,zU,zU,zU,zU,zU,zU,zU,zU,zU,zU,zU,zU,zU,zU,zU,.val (.pointer none)]):={}
instance:cf prog 131 0 0 4 126:=.of
instance:cf prog 131 3 37 1 129:=.of
instance:sA prog 131 [(0,4),(4,1),(5,32),(37,1)]:=.uA
instance:dM prog 132 1:={}
instance:Ek prog 132:=⟨⟨134,bp⟩⟩
instance:qe prog 132:=⟨.of⟩
instance:cf prog 134 0 0 1 132:=.of
instance:cf prog 134 1 1 1 22:=.of
instance:BT prog 149 .u64:={}
instance:dM prog 150 1:={}
instance:BT prog 150 .u32:={}
instance:qe prog 150:=⟨.of⟩
instance:eP prog 154 ([zI,zI,zI,zI,zI,zI]):={}
instance:te prog 154 6 3 1:=⟨bp,bp⟩
instance:sA prog 154 ((List.range 6).map λi=>(i*1,1)):=.ofA (e:=3)
instance:Ek prog 158:=⟨⟨239,bp⟩⟩
instance:qe prog 158:=⟨.of⟩
instance:qe prog 172:=⟨.of⟩
instance:dM prog 174 4:={}
instance:eP prog 174 ([zU,zI,zI,zI]):={}
instance:jM prog 174 4:=⟨.of⟩
instance:cf prog 174 0 0 1 172:=.of
instance:cf prog 174 1 1 1 3:=.of
instance:cf prog 174 2 2 1 3:=.of
instance:cf prog 174 3 3 1 3:=.of
instance:sA prog 174 [(0,1),(1,1),(2,1),(3,1)]:=.uA
instance:dM prog 176 7:={}
instance:eP prog 176 ([zU,zI,zI,zI,zI,zI,.cu]):={}
instance:jM prog 176 7:=⟨.of⟩
instance:cf prog 176 0 0 4 174:=.of
instance:cf prog 176 1 4 1 3:=.of
instance:cf prog 176 2 5 1 3:=.of
instance:cf prog 176 3 6 1 43:=.of
instance:sA prog 176 [(0,4),(4,1),(5,1),(6,1)]:=.uA
instance:dM prog 179 1:={}
instance:qe prog 179:=⟨.of⟩
instance:lK prog 179 183 3 40 (.agg ([zI,zI,.cu])):=.of
instance:dM prog 181 4:={}
instance:eP prog 181 ([zI,zI,zI,.cu]):={}
instance:jM prog 181 4:=⟨.of⟩
instance:cf prog 181 0 0 3 89:=.of
instance:cf prog 181 1 3 1 179:=.of
instance:sA prog 181 [(0,3),(3,1)]:=.uA
instance:dM prog 183 3:={}
instance:eP prog 183 ([zI,zI,.cu]):={}
instance:jM prog 183 3:=⟨.of⟩
instance:cf prog 183 0 0 1 3:=.of
instance:cf prog 183 1 1 1 3:=.of
instance:cf prog 183 2 2 1 43:=.of
instance:sA prog 183 [(0,1),(1,1),(2,1)]:=.uA
instance:dM prog 184 1:={}
instance:Ek prog 184:=⟨⟨299,bp⟩⟩
instance:qe prog 184:=⟨.of⟩
instance:Ek prog 187:=⟨⟨305,bp⟩⟩
instance:qe prog 187:=⟨.of⟩
instance:dM prog 189 1:={}
instance:qe prog 189:=⟨.of⟩
instance:lK prog 189 318 7 72 (.agg ([zI,zI,zI,zI,zI,zI,.cu])):=.of
instance:dM prog 190 1:={}
instance:qe prog 190:=⟨.of⟩
instance:lK prog 190 201 3 72 (.agg ([.cu,.cu,.cu])):=.of
instance:dM prog 192 3:={}
instance:eP prog 192 ([.cu,.cu,.cu]):={}
instance:jM prog 192 3:=⟨.of⟩
instance:cf prog 192 0 0 1 190:=.of
instance:cf prog 192 1 1 1 52:=.of
instance:cf prog 192 2 2 1 92:=.of
instance:sA prog 192 [(0,1),(1,1),(2,1)]:=.uA
instance:eP prog 194 ([.val (.pointer none),.cu,.cu,zI,.cu,.cu,.val (.pointer none),.val (.pointer none),zI,.cu,.cu,.cu,.cu,.cu]):={}
instance:cf prog 194 0 0 4 69:=.of
instance:cf prog 194 1 4 1 26:=.of
instance:cf prog 194 2 5 1 189:=.of
instance:cf prog 194 3 6 1 184:=.of
instance:cf prog 194 4 7 1 187:=.of
instance:cf prog 194 5 8 1 3:=.of
instance:cf prog 194 6 9 3 192:=.of
instance:cf prog 194 7 12 1 81:=.of
instance:cf prog 194 8 13 1 31:=.of
instance:sA prog 194 [(0,4),(4,1),(5,1),(6,1),(7,1),(8,1),(9,3),(12,1),(13,1)]:=.uA
instance:dM prog 196 1:={}
instance:qe prog 196:=⟨.of⟩
instance:lK prog 196 199 1 24 (.agg ([.cu])):=.of
instance:qe prog 197:=⟨.of⟩
instance:lK prog 197 610 2 16 (.agg ([zI,zI])):=.of
instance:dM prog 199 1:={}
instance:eP prog 199 ([.cu]):={}
instance:jM prog 199 1:=⟨.of⟩
instance:cf prog 199 0 0 1 197:=.of
instance:sA prog 199 [(0,1)]:=.uA
instance:dM prog 201 3:={}
instance:eP prog 201 ([.cu,.cu,.cu]):={}
instance:jM prog 201 3:=⟨.of⟩
instance:cf prog 201 0 0 1 43:=.of
instance:cf prog 201 1 1 1 196:=.of
instance:cf prog 201 2 2 1 199:=.of
instance:sA prog 201 [(0,1),(1,1),(2,1)]:=.uA
instance:eP prog 204 ([zI,zI,zI,zI,zI,zI,zI,zI]):={}
instance:te prog 204 8 3 1:=⟨bp,bp⟩
instance:lK prog 205 208 7 72 (.agg ([zU,zI,zI,zI,zI,zI,.cu])):=.of
instance:dM prog 208 7:={}
instance:eP prog 208 ([zU,zI,zI,zI,zI,zI,.cu]):={}
instance:jM prog 208 7:=⟨.of⟩
instance:cf prog 208 0 0 1 42:=.of
instance:cf prog 208 1 1 1 3:=.of
instance:cf prog 208 2 2 1 3:=.of
instance:cf prog 208 3 3 1 3:=.of
instance:cf prog 208 4 4 1 3:=.of
instance:cf prog 208 5 5 1 3:=.of
instance:cf prog 208 6 6 1 43:=.of
instance:sA prog 208 [(0,1),(1,1),(2,1),(3,1),(4,1),(5,1),(6,1)]:=.uA
instance:eP prog 222 ([.cu,.cu,.cu,.cu,.cu]):={}
instance:te prog 222 5 92 1:=⟨bp,bp⟩
instance:qe prog 224:=⟨.of⟩
instance:eP prog 226 ([zU,zU,zU,zU,zU]):={}
instance:te prog 226 5 224 1:=⟨bp,bp⟩
instance:sA prog 226 ((List.range 5).map λi=>(i*1,1)):=.ofA (e:=224)
instance:eP prog 239 ([.cu,zI]):={}
instance:cf prog 239 0 0 1 22:=.of
instance:cf prog 239 1 1 1 35:=.of
instance:sA prog 239 [(0,1),(1,1)]:=.uA
instance:qe prog 244:=⟨.of⟩
instance:lK prog 244 263 2 32 (.agg ([zU,.cu])):=.of
instance:dM prog 246 4:={}
instance:eP prog 246 ([zU,zU,.cu,.cu]):={}
instance:jM prog 246 4:=⟨.of⟩
instance:cf prog 246 0 0 1 5:=.of
instance:cf prog 246 1 1 1 5:=.of
instance:cf prog 246 2 2 1 244:=.of
instance:cf prog 246 3 3 1 244:=.of
instance:sA prog 246 [(0,1),(1,1),(2,1),(3,1)]:=.uA
instance:dM prog 249 2:={}
instance:eP prog 249 ([zS,.bool false]):={}
instance:jM prog 249 2:=⟨.of⟩
instance:cf prog 249 0 0 1 9:=.of
instance:cf prog 249 1 1 1 4:=.of
instance:sA prog 249 [(0,1),(1,1)]:=.uA
instance:dM prog 251 3:={}
instance:eP prog 251 ([zS,zS,zI]):={}
instance:jM prog 251 3:=⟨.of⟩
instance:cf prog 251 0 0 1 9:=.of
instance:cf prog 251 1 1 1 9:=.of
instance:cf prog 251 2 2 1 3:=.of
instance:sA prog 251 [(0,1),(1,1),(2,1)]:=.uA
instance:qe prog 252:=⟨.of⟩
instance:lK prog 252 92 1 24 (.cu):=.of
instance:dM prog 254 1:={}
instance:qe prog 254:=⟨.of⟩
instance:lK prog 254 259 3 32 (.agg ([zS,zI,zI])):=.of
instance:dM prog 255 1:={}
instance:qe prog 255:=⟨.of⟩
instance:lK prog 255 264 1 24 (.cu):=.of
instance:dM prog 257 3:={}
instance:eP prog 257 ([zS,.cu,.cu]):={}
instance:jM prog 257 3:=⟨.of⟩
instance:cf prog 257 0 0 1 9:=.of
instance:cf prog 257 1 1 1 254:=.of
instance:cf prog 257 2 2 1 255:=.of
instance:sA prog 257 [(0,1),(1,1),(2,1)]:=.uA
instance:dM prog 259 3:={}
instance:eP prog 259 ([zS,zI,zI]):={}
instance:jM prog 259 3:=⟨.of⟩
instance:cf prog 259 0 0 1 9:=.of
instance:cf prog 259 1 1 1 3:=.of
instance:cf prog 259 2 2 1 2:=.of
instance:sA prog 259 [(0,1),(1,1),(2,1)]:=.uA
instance:dM prog 261 8:={}
instance:eP prog 261 ([zI,zI,zI,zI,.cu,zI,.cu,zI]):={}
instance:cf prog 261 0 0 1 3:=.of
instance:cf prog 261 1 1 1 3:=.of
instance:cf prog 261 2 2 1 3:=.of
instance:cf prog 261 3 3 1 3:=.of
instance:cf prog 261 4 4 1 252:=.of
instance:cf prog 261 5 5 1 3:=.of
instance:cf prog 261 6 6 1 22:=.of
instance:cf prog 261 7 7 1 3:=.of
instance:sA prog 261 [(0,1),(1,1),(2,1),(3,1),(4,1),(5,1),(6,1),(7,1)]:=.uA
instance:dM prog 263 2:={}
instance:eP prog 263 ([zU,.cu]):={}
instance:jM prog 263 2:=⟨.of⟩
instance:cf prog 263 0 0 1 5:=.of
instance:cf prog 263 1 1 1 22:=.of
instance:sA prog 263 [(0,1),(1,1)]:=.uA
instance:qe prog 264:=⟨.of⟩
instance:lK prog 264 285 3 64 (.agg ([zS,.cu,.cu])):=.of
instance:dM prog 271 2:={}
instance:eP prog 271 ([zS,.bool false]):={}
instance:jM prog 271 2:=⟨.of⟩
instance:cf prog 271 0 0 1 9:=.of
instance:cf prog 271 1 1 1 4:=.of
instance:sA prog 271 [(0,1),(1,1)]:=.uA
instance:dM prog 272 3:={}
instance:eP prog 272 ([zS,zS,zI]):={}
instance:jM prog 272 3:=⟨.of⟩
instance:cf prog 272 0 0 1 9:=.of
instance:cf prog 272 1 1 1 9:=.of
instance:cf prog 272 2 2 1 3:=.of
instance:sA prog 272 [(0,1),(1,1),(2,1)]:=.uA
instance:dM prog 273 1:={}
instance:qe prog 273:=⟨.of⟩
instance:lK prog 273 279 3 32 (.agg ([zS,zU,zI])):=.of
instance:dM prog 274 1:={}
instance:qe prog 274:=⟨.of⟩
instance:lK prog 274 282 1 24 (.agg ([.cu])):=.of
instance:dM prog 276 3:={}
instance:eP prog 276 ([zS,.cu,.cu]):={}
instance:jM prog 276 3:=⟨.of⟩
instance:cf prog 276 0 0 1 9:=.of
instance:cf prog 276 1 1 1 273:=.of
instance:cf prog 276 2 2 1 274:=.of
instance:sA prog 276 [(0,1),(1,1),(2,1)]:=.uA
instance:BT prog 277 .u8:={}
instance:qe prog 277:=⟨.of⟩
instance:dM prog 279 3:={}
instance:eP prog 279 ([zS,zU,zI]):={}
instance:jM prog 279 3:=⟨.of⟩
instance:cf prog 279 0 0 1 9:=.of
instance:cf prog 279 1 1 1 277:=.of
instance:cf prog 279 2 2 1 2:=.of
instance:sA prog 279 [(0,1),(1,1),(2,1)]:=.uA
instance:dM prog 280 1:={}
instance:qe prog 280:=⟨.of⟩
instance:lK prog 280 289 3 64 (.agg ([zS,.cu,.cu])):=.of
instance:dM prog 282 1:={}
instance:eP prog 282 ([.cu]):={}
instance:jM prog 282 1:=⟨.of⟩
instance:cf prog 282 0 0 1 280:=.of
instance:sA prog 282 [(0,1)]:=.uA
instance:qe prog 283:=⟨.of⟩
instance:lK prog 283 393 6 112 (.agg ([zI,zS,zS,.cu,.cu,.cu])):=.of
instance:dM prog 285 3:={}
instance:eP prog 285 ([zS,.cu,.cu]):={}
instance:jM prog 285 3:=⟨.of⟩
instance:cf prog 285 0 0 1 9:=.of
instance:cf prog 285 1 1 1 94:=.of
instance:cf prog 285 2 2 1 283:=.of
instance:sA prog 285 [(0,1),(1,1),(2,1)]:=.uA
instance:dM prog 286 1:={}
instance:qe prog 286:=⟨.of⟩
instance:lK prog 286 397 6 112 (.agg ([zU,zS,zS,.cu,.cu,.cu])):=.of
instance:dM prog 289 3:={}
instance:eP prog 289 ([zS,.cu,.cu]):={}
instance:jM prog 289 3:=⟨.of⟩
instance:cf prog 289 0 0 1 9:=.of
instance:cf prog 289 1 1 1 94:=.of
instance:cf prog 289 2 2 1 286:=.of
instance:sA prog 289 [(0,1),(1,1),(2,1)]:=.uA
instance:qe prog 296:=⟨.of⟩
instance:te prog 297 8 204 8:=⟨bp,bp⟩
instance:eP prog 299 ([.cu,.cu,zI,zI,zI,zI,zI,zI,zI,zI,zI,zI,zI,zI,zI,zI,zI,zI,zI,zI,zI,zI,zI,zI,zI,zI,zI,zI,zI,zI,zI,zI,zI,zI,zI,zI,zI,zI,zI,zI,zI,zI,zI,zI,zI,zI,zI,zI,zI,zI,zI,zI,zI,zI,zI,zI,zI,zI,zI,zI,zI,zI,zI,zI,zI,zI,zI,zI,zI,zI,zI,zI,zI,zI,zI,zI,zI,zI,zI,zI,zI,zI,.val (.map none)]):={}
instance:cf prog 299 0 0 1 67:=.of
instance:cf prog 299 1 1 1 27:=.of
instance:cf prog 299 2 2 64 297:=.of
instance:cf prog 299 3 66 8 204:=.of
instance:cf prog 299 4 74 8 204:=.of
instance:cf prog 299 5 82 1 296:=.of
instance:sA prog 299 [(0,1),(1,1),(2,64),(66,8),(74,8),(82,1)]:=.uA
instance:dM prog 303 1:={}
instance:qe prog 303:=⟨.of⟩
instance:lK prog 303 320 8 80 (.agg ([zI,zU,zI,zI,zI,zI,zI,.cu])):=.of
instance:eP prog 305 ([.cu]):={}
instance:cf prog 305 0 0 1 303:=.of
instance:sA prog 305 [(0,1)]:=.uA
instance:dM prog 318 7:={}
instance:eP prog 318 ([zI,zI,zI,zI,zI,zI,.cu]):={}
instance:jM prog 318 7:=⟨.of⟩
instance:cf prog 318 0 0 3 89:=.of
instance:cf prog 318 1 3 1 3:=.of
instance:cf prog 318 2 4 3 183:=.of
instance:sA prog 318 [(0,3),(3,1),(4,3)]:=.uA
instance:dM prog 320 8:={}
instance:eP prog 320 ([zI,zU,zI,zI,zI,zI,zI,.cu]):={}
instance:jM prog 320 8:=⟨.of⟩
instance:cf prog 320 0 0 1 3:=.of
instance:cf prog 320 1 1 7 208:=.of
instance:sA prog 320 [(0,1),(1,7)]:=.uA
instance:dM prog 325 1:={}
instance:qe prog 325:=⟨.of⟩
instance:lK prog 325 421 4 32 (.agg ([zU,zI,zI,zI])):=.of
instance:dM prog 327 3:={}
instance:eP prog 327 ([zI,zI,.cu]):={}
instance:jM prog 327 3:=⟨.of⟩
instance:cf prog 327 0 0 1 3:=.of
instance:cf prog 327 1 1 1 3:=.of
instance:cf prog 327 2 2 1 325:=.of
instance:sA prog 327 [(0,1),(1,1),(2,1)]:=.uA
instance:dM prog 332 1:={}
instance:qe prog 332:=⟨.of⟩
instance:lK prog 332 343 8 80 (.agg ([zU,zI,zI,zI,zI,zI,.bool false,.cu])):=.of
instance:dM prog 334 5:={}
instance:eP prog 334 ([.cu,.cu,.cu,.cu,zI]):={}
instance:jM prog 334 5:=⟨.of⟩
instance:cf prog 334 0 0 3 201:=.of
instance:cf prog 334 1 3 1 332:=.of
instance:cf prog 334 2 4 1 3:=.of
instance:sA prog 334 [(0,3),(3,1),(4,1)]:=.uA
instance:eP prog 338 ([.cu,zI,.cu,zI,.cu]):={}
instance:jM prog 338 5:=⟨.of⟩
instance:cf prog 338 0 0 1 43:=.of
instance:cf prog 338 1 1 1 2:=.of
instance:cf prog 338 2 2 1 52:=.of
instance:cf prog 338 3 3 1 3:=.of
instance:cf prog 338 4 4 1 92:=.of
instance:sA prog 338 [(0,1),(1,1),(2,1),(3,1),(4,1)]:=.uA
instance:dM prog 341 1:={}
instance:qe prog 341:=⟨.of⟩
instance:dM prog 343 8:={}
instance:eP prog 343 ([zU,zI,zI,zI,zI,zI,.bool false,.cu]):={}
instance:jM prog 343 8:=⟨.of⟩
instance:cf prog 343 0 0 1 341:=.of
instance:cf prog 343 1 1 1 3:=.of
instance:cf prog 343 2 2 1 3:=.of
instance:cf prog 343 3 3 1 2:=.of
instance:cf prog 343 4 4 1 2:=.of
instance:cf prog 343 5 5 1 2:=.of
instance:cf prog 343 6 6 1 4:=.of
instance:cf prog 343 7 7 1 43:=.of
instance:sA prog 343 [(0,1),(1,1),(2,1),(3,1),(4,1),(5,1),(6,1),(7,1)]:=.uA
instance:dM prog 360 3:={}
instance:eP prog 360 ([zS,zS,zI]):={}
instance:jM prog 360 3:=⟨.of⟩
instance:cf prog 360 2 2 1 35:=.of
instance:sA prog 360 [(0,1),(1,1),(2,1)]:=.uA
instance:dM prog 364 1:={}
instance:qe prog 364:=⟨.of⟩
instance:lK prog 364 94 1 24 (.cu):=.of
instance:eP prog 366 ([zS,.cu,.cu,.cu,.cu,zI,.cu,.cu,.cu,.cu,.cu]):={}
instance:cf prog 366 0 0 4 126:=.of
instance:cf prog 366 1 4 1 364:=.of
instance:cf prog 366 2 5 1 3:=.of
instance:cf prog 366 3 6 1 94:=.of
instance:cf prog 366 4 7 1 94:=.of
instance:cf prog 366 5 8 1 94:=.of
instance:cf prog 366 6 9 1 94:=.of
instance:cf prog 366 7 10 1 325:=.of
instance:sA prog 366 [(0,4),(4,1),(5,1),(6,1),(7,1),(8,1),(9,1),(10,1)]:=.uA
instance:dM prog 368 1:={}
instance:qe prog 368:=⟨.of⟩
instance:lK prog 368 373 3 72 (.agg ([.cu,.cu,.cu])):=.of
instance:eP prog 370 ([.cu]):={}
instance:cf prog 370 0 0 1 368:=.of
instance:sA prog 370 [(0,1)]:=.uA
instance:dM prog 371 1:={}
instance:qe prog 371:=⟨.of⟩
instance:lK prog 371 447 1 24 (.cu):=.of
instance:dM prog 373 3:={}
instance:eP prog 373 ([.cu,.cu,.cu]):={}
instance:jM prog 373 3:=⟨.of⟩
instance:cf prog 373 0 0 1 94:=.of
instance:cf prog 373 1 1 1 371:=.of
instance:cf prog 373 2 2 1 38:=.of
instance:sA prog 373 [(0,1),(1,1),(2,1)]:=.uA
instance:eP prog 377 ([.val (.pointer none),.cu,zI]):={}
instance:cf prog 377 0 0 2 134:=.of
instance:cf prog 377 1 2 1 3:=.of
instance:sA prog 377 [(0,2),(2,1)]:=.uA
instance:Ek prog 387:=⟨⟨460,bp⟩⟩
instance:qe prog 391:=⟨.of⟩
instance:lK prog 391 399 4 56 (.agg ([zI,zS,zI,.cu])):=.of
instance:dM prog 393 6:={}
instance:eP prog 393 ([zI,zS,zS,.cu,.cu,.cu]):={}
instance:jM prog 393 6:=⟨.of⟩
instance:cf prog 393 0 0 1 3:=.of
instance:cf prog 393 1 1 1 9:=.of
instance:cf prog 393 2 2 1 9:=.of
instance:cf prog 393 3 3 1 391:=.of
instance:cf prog 393 4 4 1 283:=.of
instance:cf prog 393 5 5 1 283:=.of
instance:sA prog 393 [(0,1),(1,1),(2,1),(3,1),(4,1),(5,1)]:=.uA
instance:BT prog 394 .u8:={}
instance:qe prog 394:=⟨.of⟩
instance:dM prog 395 1:={}
instance:qe prog 395:=⟨.of⟩
instance:lK prog 395 402 4 56 (.agg ([zU,zS,zI,.cu])):=.of
instance:dM prog 397 6:={}
instance:eP prog 397 ([zU,zS,zS,.cu,.cu,.cu]):={}
instance:jM prog 397 6:=⟨.of⟩
instance:cf prog 397 0 0 1 394:=.of
instance:cf prog 397 1 1 1 9:=.of
instance:cf prog 397 2 2 1 9:=.of
instance:cf prog 397 3 3 1 395:=.of
instance:cf prog 397 4 4 1 286:=.of
instance:cf prog 397 5 5 1 286:=.of
instance:sA prog 397 [(0,1),(1,1),(2,1),(3,1),(4,1),(5,1)]:=.uA
instance:dM prog 399 4:={}
instance:eP prog 399 ([zI,zS,zI,.cu]):={}
instance:jM prog 399 4:=⟨.of⟩
instance:cf prog 399 0 0 1 3:=.of
instance:cf prog 399 1 1 1 9:=.of
instance:cf prog 399 2 2 1 2:=.of
instance:cf prog 399 3 3 1 391:=.of
instance:sA prog 399 [(0,1),(1,1),(2,1),(3,1)]:=.uA
instance:BT prog 400 .u8:={}
instance:qe prog 400:=⟨.of⟩
instance:dM prog 402 4:={}
instance:eP prog 402 ([zU,zS,zI,.cu]):={}
instance:jM prog 402 4:=⟨.of⟩
instance:cf prog 402 0 0 1 400:=.of
instance:cf prog 402 1 1 1 9:=.of
instance:cf prog 402 2 2 1 2:=.of
instance:cf prog 402 3 3 1 395:=.of
instance:sA prog 402 [(0,1),(1,1),(2,1),(3,1)]:=.uA
instance:qe prog 419:=⟨.of⟩
instance:dM prog 421 4:={}
instance:eP prog 421 ([zU,zI,zI,zI]):={}
instance:jM prog 421 4:=⟨.of⟩
instance:cf prog 421 0 0 1 419:=.of
instance:cf prog 421 1 1 1 3:=.of
instance:cf prog 421 2 2 1 3:=.of
instance:cf prog 421 3 3 1 2:=.of
instance:sA prog 421 [(0,1),(1,1),(2,1),(3,1)]:=.uA
instance:eP prog 425 ([.cu,.cu,.cu,.cu,zI,.cu,.cu,zI,.cu,zI,.cu,.cu,zI,zI,zI,.bool false]):={}
instance:cf prog 425 0 0 5 334:=.of
instance:cf prog 425 1 5 1 325:=.of
instance:cf prog 425 2 6 5 338:=.of
instance:cf prog 425 3 11 1 43:=.of
instance:cf prog 425 4 12 1 3:=.of
instance:cf prog 425 5 13 1 3:=.of
instance:cf prog 425 6 14 1 3:=.of
instance:cf prog 425 7 15 1 4:=.of
instance:sA prog 425 [(0,5),(5,1),(6,5),(11,1),(12,1),(13,1),(14,1),(15,1)]:=.uA
instance:qe prog 442:=⟨.of⟩
instance:eP prog 444 ([zS,.cu,.cu,.cu,zS,zS,zS,zI]):={}
instance:cf prog 444 0 0 4 126:=.of
instance:cf prog 444 1 4 1 9:=.of
instance:cf prog 444 2 5 3 360:=.of
instance:sA prog 444 [(0,4),(4,1),(5,3)]:=.uA
instance:qe prog 447:=⟨.of⟩
instance:lK prog 447 327 3 40 (.agg ([zI,zI,.cu])):=.of
instance:dM prog 457 8:={}
instance:eP prog 457 ([.int .u32 0,.int .u32 0,.int .u32 0,.int .u32 0,.int .u32 0,.int .u32 0,.int .u32 0,.int .u32 0]):={}
instance:jM prog 457 8:=⟨.of⟩
instance:te prog 457 8 150 1:=⟨bp,bp⟩
instance:sA prog 457 ((List.range 8).map λi=>(i*1,1)):=.ofA (e:=150)
instance:te prog 458 64 5 1:=⟨bp,bp⟩
instance:dM prog 460 73:={}
instance:eP prog 460 ([.int .u32 0,.int .u32 0,.int .u32 0,.int .u32 0,.int .u32 0,.int .u32 0,.int .u32 0,.int .u32 0,zU,zU,zU,zU,zU,zU,zU,zU,zU,zU,zU,zU,zU,zU,zU,zU,zU,zU,zU,zU,zU,zU,zU,zU,zU,zU,zU,zU,zU,zU,zU,zU,zU,zU,zU,zU,zU,zU,zU,zU,zU,zU,zU,zU,zU,zU,zU,zU,zU,zU,zU,zU,zU,zU,zU,zU,zU,zU,zU,zU,zU,zU,zU,zU,zW]):={}
instance:jM prog 460 73:=⟨.of⟩
instance:cf prog 460 0 0 8 457:=.of
instance:cf prog 460 1 8 64 458:=.of
instance:cf prog 460 2 72 1 40:=.of
instance:sA prog 460 [(0,8),(8,64),(72,1)]:=.uA
instance:eP prog 509 (List.replicate 64 (.int .u32 0)):={}
instance:te prog 509 64 150 1:=⟨bp,bp⟩
instance:dM prog 523 3:={}
instance:eP prog 523 ([zI,zI,zI]):={}
instance:jM prog 523 3:=⟨.of⟩
instance:te prog 523 3 3 1:=⟨bp,bp⟩
instance:sA prog 523 ((List.range 3).map λi=>(i*1,1)):=.ofA (e:=3)
instance:dM prog 531 4:={}
instance:eP prog 531 ([zS,zS,zI,zI]):={}
instance:jM prog 531 4:=⟨.of⟩
instance:cf prog 531 1 1 1 9:=.of
instance:cf prog 531 2 2 1 3:=.of
instance:cf prog 531 3 3 1 3:=.of
instance:sA prog 531 [(0,1),(1,1),(2,1),(3,1)]:=.uA
instance:dM prog 554 6:={}
instance:eP prog 554 ([.bool false,.bool false,zI,zI,.bool false,.bool false]):={}
instance:jM prog 554 6:=⟨.of⟩
instance:cf prog 554 0 0 1 4:=.of
instance:cf prog 554 1 1 1 4:=.of
instance:cf prog 554 2 2 1 3:=.of
instance:cf prog 554 3 3 1 3:=.of
instance:cf prog 554 4 4 1 4:=.of
instance:cf prog 554 5 5 1 4:=.of
instance:sA prog 554 [(0,1),(1,1),(2,1),(3,1),(4,1),(5,1)]:=.uA
instance:eP prog 564 ([.cu,.cu,.cu]):={}
instance:jM prog 564 3:=⟨.of⟩
instance:cf prog 564 0 0 1 122:=.of
instance:cf prog 564 1 1 1 273:=.of
instance:cf prog 564 2 2 1 94:=.of
instance:sA prog 564 [(0,1),(1,1),(2,1)]:=.uA
instance:eP prog 566 ([.val (.pointer none),.cu,.cu,.cu,zS,.cu,.cu,zS,zI]):={}
instance:cf prog 566 0 0 1 442:=.of
instance:cf prog 566 1 1 3 564:=.of
instance:cf prog 566 2 4 3 276:=.of
instance:cf prog 566 3 7 1 9:=.of
instance:cf prog 566 4 8 1 3:=.of
instance:sA prog 566 [(0,1),(1,3),(4,3),(7,1),(8,1)]:=.uA
instance:te prog 575 35 531 4:=⟨bp,bp⟩
instance:jM prog 586 25:=⟨.of⟩
instance:te prog 586 25 9 1:=⟨bp,bp⟩
instance:te prog 588 11 554 6:=⟨bp,bp⟩
instance:dM prog 592 4:={}
instance:eP prog 592 ([zI,.bool false,zI,zS]):={}
instance:jM prog 592 4:=⟨.of⟩
instance:cf prog 592 0 0 1 3:=.of
instance:cf prog 592 1 1 1 4:=.of
instance:cf prog 592 2 2 1 3:=.of
instance:cf prog 592 3 3 1 9:=.of
instance:sA prog 592 [(0,1),(1,1),(2,1),(3,1)]:=.uA
instance:eP prog 610 ([zI,zI]):={}
instance:jM prog 610 2:=⟨.of⟩
instance:cf prog 610 0 0 1 2:=.of
instance:cf prog 610 1 1 1 2:=.of
instance:sA prog 610 [(0,1),(1,1)]:=.uA
instance:jM prog 612 39:=⟨.of⟩
instance:te prog 612 39 9 1:=⟨bp,bp⟩
instance:te prog 613 24 592 4:=⟨bp,bp⟩
instance:lK prog 622 197 1 24 (.cu):=.of
instance:dg prog 4:={}
instance:dg prog 5:={}
instance:dg prog 6:={}
instance:dg prog 7:={}
instance:dg prog 8:={}
instance:dg prog 9:={}
instance:dg prog 10:={}
instance:dg prog 11:={}
instance:dg prog 12:={}
instance:dg prog 13:={}
instance:dg prog 14:={}
instance:dg prog 15:={}
instance:dg prog 16:={}
instance:dg prog 17:={}
instance:dg prog 18:={}
instance:dg prog 19:={}
instance:dg prog 20:={}
instance:dg prog 21:={}
instance:dg prog 22:={}
instance:dg prog 23:={}
instance:dg prog 24:={}
instance:dg prog 26:={}
instance:dg prog 27:={}
instance:dg prog 28:={}
instance:dg prog 29:={}
instance:dg prog 30:={}
instance:dg prog 31:={}
instance:dg prog 32:={}
instance:dg prog 33:={}
instance:dg prog 34:={}
instance:dg prog 35:={}
instance:dg prog 36:={}
instance:dg prog 37:={}
instance:dg prog 38:={}
instance:dg prog 39:={}
instance:dg prog 41:={}
instance:dg prog 42:={}
instance:dg prog 43:={}
instance:dg prog 44:={}
instance:dg prog 48:={}
instance:dg prog 49:={}
instance:dg prog 50:={}
instance:dg prog 51:={}
instance:dg prog 52:={}
instance:dg prog 53:={}
instance:dg prog 54:={}
instance:dg prog 55:={}
instance:dg prog 56:={}
instance:dg prog 57:={}
instance:dg prog 58:={}
instance:dg prog 59:={}
instance:dg prog 60:={}
instance:dg prog 61:={}
instance:dg prog 62:={}
instance:dg prog 63:={}
instance:dg prog 64:={}
instance:dg prog 65:={}
instance:dg prog 66:={}
instance:dg prog 67:={}
instance:dg prog 68:={}
instance:dg prog 69:={}
instance:dg prog 70:={}
instance:dg prog 71:={}
instance:dg prog 72:={}
instance:dg prog 73:={}
instance:dg prog 74:={}
instance:dg prog 75:={}
instance:dg prog 76:={}
instance:dg prog 77:={}
instance:dg prog 78:={}
instance:dg prog 79:={}
instance:dg prog 80:={}
instance:dg prog 81:={}
instance:dg prog 82:={}
instance:dg prog 83:={}
instance:dg prog 84:={}
instance:dg prog 88:={}
instance:dg prog 90:={}
instance:dg prog 91:={}
instance:dg prog 92:={}
instance:dg prog 93:={}
instance:dg prog 94:={}
instance:dg prog 95:={}
instance:dg prog 96:={}
instance:dg prog 99:={}
instance:dg prog 100:={}
instance:dg prog 101:={}
instance:dg prog 102:={}
instance:dg prog 103:={}
instance:dg prog 104:={}
instance:dg prog 105:={}
instance:dg prog 106:={}
instance:dg prog 107:={}
instance:dg prog 108:={}
instance:dg prog 109:={}
instance:dg prog 110:={}
instance:dg prog 111:={}
instance:dg prog 112:={}
instance:dg prog 113:={}
instance:dg prog 114:={}
instance:dg prog 115:={}
instance:dg prog 116:={}
instance:dg prog 117:={}
instance:dg prog 118:={}
instance:dg prog 119:={}
instance:dg prog 120:={}
instance:dg prog 121:={}
instance:dg prog 122:={}
instance:dg prog 123:={}
instance:dg prog 124:={}
instance:dg prog 125:={}
instance:dg prog 126:={}
instance:dg prog 127:={}
instance:dg prog 128:={}
instance:dg prog 129:={}
instance:dg prog 130:={}
instance:dg prog 131:={}
instance:dg prog 132:={}
instance:dg prog 133:={}
instance:dg prog 134:={}
instance:dg prog 135:={}
instance:dg prog 136:={}
instance:dg prog 137:={}
instance:dg prog 138:={}
instance:dg prog 139:={}
instance:dg prog 140:={}
instance:dg prog 141:={}
instance:dg prog 142:={}
instance:dg prog 143:={}
instance:dg prog 144:={}
instance:dg prog 145:={}
instance:dg prog 146:={}
instance:dg prog 147:={}
instance:dg prog 148:={}
instance:dg prog 149:={}
instance:dg prog 150:={}
instance:dg prog 151:={}
instance:dg prog 153:={}
instance:dg prog 159:={}
instance:dg prog 160:={}
instance:dg prog 161:={}
instance:dg prog 162:={}
instance:dg prog 163:={}
instance:dg prog 164:={}
instance:dg prog 165:={}
instance:dg prog 166:={}
instance:dg prog 167:={}
instance:dg prog 168:={}
instance:dg prog 169:={}
instance:dg prog 170:={}
instance:dg prog 171:={}
instance:dg prog 172:={}
instance:dg prog 173:={}
instance:dg prog 174:={}
instance:dg prog 175:={}
instance:dg prog 176:={}
instance:dg prog 177:={}
instance:dg prog 178:={}
instance:dg prog 179:={}
instance:dg prog 180:={}
instance:dg prog 181:={}
instance:dg prog 182:={}
instance:dg prog 183:={}
instance:dg prog 184:={}
instance:dg prog 185:={}
instance:dg prog 186:={}
instance:dg prog 187:={}
instance:dg prog 188:={}
instance:dg prog 189:={}
instance:dg prog 190:={}
instance:dg prog 191:={}
instance:dg prog 192:={}
instance:dg prog 193:={}
instance:dg prog 194:={}
instance:dg prog 195:={}
instance:dg prog 196:={}
instance:dg prog 197:={}
instance:dg prog 198:={}
instance:dg prog 199:={}
instance:dg prog 200:={}
instance:dg prog 201:={}
instance:dg prog 202:={}
instance:dg prog 203:={}
instance:dg prog 204:={}
instance:dg prog 205:={}
instance:dg prog 206:={}
instance:dg prog 207:={}
instance:dg prog 208:={}
instance:dg prog 209:={}
instance:dg prog 210:={}
instance:dg prog 211:={}
instance:dg prog 212:={}
instance:dg prog 215:={}
instance:dg prog 216:={}
instance:dg prog 217:={}
instance:dg prog 218:={}
instance:dg prog 219:={}
instance:dg prog 220:={}
instance:dg prog 221:={}
instance:dg prog 222:={}
instance:dg prog 223:={}
instance:dg prog 224:={}
instance:dg prog 225:={}
instance:dg prog 226:={}
instance:dg prog 227:={}
instance:dg prog 228:={}
instance:dg prog 229:={}
instance:dg prog 230:={}
instance:dg prog 231:={}
instance:dg prog 232:={}
instance:dg prog 233:={}
instance:dg prog 234:={}
instance:dg prog 235:={}
instance:dg prog 236:={}
instance:dg prog 237:={}
instance:dg prog 238:={}
instance:dg prog 239:={}
instance:dg prog 240:={}
instance:dg prog 241:={}
instance:dg prog 242:={}
instance:dg prog 251:={}
instance:dg prog 252:={}
instance:dg prog 253:={}
instance:dg prog 254:={}
instance:dg prog 255:={}
instance:dg prog 256:={}
instance:dg prog 257:={}
instance:dg prog 258:={}
instance:dg prog 259:={}
instance:dg prog 260:={}
instance:dg prog 261:={}
instance:dg prog 262:={}
instance:dg prog 263:={}
instance:dg prog 264:={}
instance:dg prog 265:={}
instance:dg prog 266:={}
instance:dg prog 267:={}
instance:dg prog 268:={}
instance:dg prog 269:={}
instance:dg prog 278:={}
instance:dg prog 279:={}
instance:dg prog 280:={}
instance:dg prog 281:={}
instance:dg prog 282:={}
instance:dg prog 283:={}
instance:dg prog 284:={}
instance:dg prog 285:={}
instance:dg prog 286:={}
instance:dg prog 287:={}
instance:dg prog 288:={}
instance:dg prog 289:={}
instance:dg prog 290:={}
instance:dg prog 291:={}
instance:dg prog 292:={}
instance:dg prog 293:={}
instance:dg prog 294:={}
instance:dg prog 295:={}
instance:dg prog 296:={}
instance:dg prog 297:={}
instance:dg prog 298:={}
instance:dg prog 299:={}
instance:dg prog 300:={}
instance:dg prog 301:={}
instance:dg prog 302:={}
instance:dg prog 303:={}
instance:dg prog 304:={}
instance:dg prog 305:={}
instance:dg prog 311:={}
instance:dg prog 319:={}
instance:dg prog 320:={}
instance:dg prog 321:={}
instance:dg prog 322:={}
instance:dg prog 325:={}
instance:dg prog 326:={}
instance:dg prog 327:={}
instance:dg prog 328:={}
instance:dg prog 329:={}
instance:dg prog 335:={}
instance:dg prog 338:={}
instance:dg prog 339:={}
instance:dg prog 340:={}
instance:dg prog 341:={}
instance:dg prog 342:={}
instance:dg prog 343:={}
instance:dg prog 344:={}
instance:dg prog 345:={}
instance:dg prog 349:={}
instance:dg prog 350:={}
instance:dg prog 351:={}
instance:dg prog 352:={}
instance:dg prog 353:={}
instance:dg prog 354:={}
instance:dg prog 355:={}
instance:dg prog 356:={}
instance:dg prog 357:={}
instance:dg prog 358:={}
instance:dg prog 359:={}
instance:dg prog 360:={}
instance:dg prog 361:={}
instance:dg prog 362:={}
instance:dg prog 363:={}
instance:dg prog 364:={}
instance:dg prog 369:={}
instance:dg prog 370:={}
instance:dg prog 372:={}
instance:dg prog 376:={}
instance:dg prog 377:={}
instance:dg prog 378:={}
instance:dg prog 379:={}
instance:dg prog 380:={}
instance:dg prog 381:={}
instance:dg prog 382:={}
instance:dg prog 384:={}
instance:dg prog 385:={}
instance:dg prog 386:={}
instance:dg prog 387:={}
instance:dg prog 388:={}
instance:dg prog 389:={}
instance:dg prog 390:={}
instance:dg prog 391:={}
instance:dg prog 392:={}
instance:dg prog 393:={}
instance:dg prog 394:={}
instance:dg prog 395:={}
instance:dg prog 396:={}
instance:dg prog 397:={}
instance:dg prog 398:={}
instance:dg prog 399:={}
instance:dg prog 400:={}
instance:dg prog 402:={}
instance:dg prog 403:={}
instance:dg prog 405:={}
instance:dg prog 407:={}
instance:dg prog 408:={}
instance:dg prog 409:={}
instance:dg prog 410:={}
instance:dg prog 411:={}
instance:dg prog 412:={}
instance:dg prog 413:={}
instance:dg prog 414:={}
instance:dg prog 415:={}
instance:dg prog 416:={}
instance:dg prog 418:={}
instance:dg prog 419:={}
instance:dg prog 420:={}
instance:dg prog 421:={}
instance:dg prog 422:={}
instance:dg prog 423:={}
instance:dg prog 424:={}
instance:dg prog 425:={}
instance:dg prog 426:={}
instance:dg prog 427:={}
instance:dg prog 428:={}
instance:dg prog 429:={}
theorem mixed:prog.follows .mixedOrders=true:=bp
instance:wg prog 41 [.int .u64,.int .u64,.int .u64,.int .u64,.int .u64,.int .u64,.int .u64,.int .u64,.int .u64]:=wg.array (e:=40) (m:=9) (g:=.int .u64) bp bp bp bp bp
instance:wg prog 46 [.int .u64,.int .u64,.int .u64,.int .u64,.int .u64,.int .u64,.int .u64,.int .u64,.int .u64,.int .u64,.int .u64,.int .u64,.int .u64,.int .u64,.int .u64,.int .u64]:=wg.array (e:=40) (m:=16) (g:=.int .u64) bp bp bp bp bp
instance:wg prog 48 [.int .u64,.int .u64,.int .u64,.int .u64,.int .u64,.int .u64,.int .u64,.int .u64,.int .u64,.int .u64,.int .u64,.int .u64,.int .u64,.int .u64,.int .u64,.int .u64]:=wg.agP (a:=46) (e:=40) (m:=16) (g:=.int .u64) bp bp bp bp bp bp bp bp
instance:wg prog 58 [.int .i64,.int .i64]:=wg.struct bp bp bp
instance:wg prog 89 [.int .i64,.int .i64,.int .i64]:=wg.struct bp bp bp
instance:wg prog 154 [.int .i64,.int .i64,.int .i64,.int .i64,.int .i64,.int .i64]:=wg.array (e:=3) (m:=6) (g:=.int .i64) bp bp bp bp bp
instance:wg prog 174 [.int .u8,.int .i64,.int .i64,.int .i64]:=wg.struct bp bp bp
instance:wg prog 204 [.int .i64,.int .i64,.int .i64,.int .i64,.int .i64,.int .i64,.int .i64,.int .i64]:=wg.array (e:=3) (m:=8) (g:=.int .i64) bp bp bp bp bp
instance:wg prog 226 [.int .u8,.int .u8,.int .u8,.int .u8,.int .u8]:=wg.array (e:=224) (m:=5) (g:=.int .u8) bp bp bp bp bp
instance:wg prog 249 [.str,.bool]:=wg.struct bp bp bp
instance:wg prog 251 [.str,.str,.int .i64]:=wg.struct bp bp bp
instance:wg prog 259 [.str,.int .i64,.int .i64]:=wg.struct bp bp bp
instance:wg prog 271 [.str,.bool]:=wg.struct bp bp bp
instance:wg prog 272 [.str,.str,.int .i64]:=wg.struct bp bp bp
instance:wg prog 279 [.str,.int .u8,.int .i64]:=wg.struct bp bp bp
instance:wg prog 347 [.int .u64,.int .u64,.int .u64,.int .u64,.int .u64,.int .u64,.int .u64,.int .u64,.int .u64,.int .u64,.int .u64,.int .u64,.int .u64,.int .u64,.int .u64,.int .u64,.int .u64,.int .u64,.int .u64,.int .u64]:=wg.array (e:=40) (m:=20) (g:=.int .u64) bp bp bp bp bp
instance:wg prog 360 [.str,.str,.int .i64]:=wg.struct bp bp bp
instance:wg prog 421 [.int .u8,.int .i64,.int .i64,.int .i64]:=wg.struct bp bp bp
instance:wg prog 457 [.int .u32,.int .u32,.int .u32,.int .u32,.int .u32,.int .u32,.int .u32,.int .u32]:=wg.array (e:=150) (m:=8) (g:=.int .u32) bp bp bp bp bp
instance:wg prog 523 [.int .i64,.int .i64,.int .i64]:=wg.array (e:=3) (m:=3) (g:=.int .i64) bp bp bp bp bp
instance:wg prog 531 [.str,.str,.int .i64,.int .i64]:=wg.struct bp bp bp
instance:wg prog 554 [.bool,.bool,.int .i64,.int .i64,.bool,.bool]:=wg.struct bp bp bp
instance:wg prog 592 [.int .i64,.bool,.int .i64,.str]:=wg.struct bp bp bp
instance:wg prog 610 [.int .i64,.int .i64]:=wg.struct bp bp bp
instance:LO prog 86 89 48 [.int .i64,.int .i64,.int .i64] (.agg [.int .u64 0,.int .u64 0,.int .u64 0,.int .u64 0,.int .u64 0,.int .u64 0,.int .u64 0,.int .u64 0,.int .u64 0,.int .u64 0,.int .u64 0,.int .u64 0,.int .u64 0,.int .u64 0,.int .u64 0,.int .u64 0]):=⟨bp,bp,bp,inferInstance,bp,bp⟩
instance:LO prog 296 174 4 [.int .u8,.int .i64,.int .i64,.int .i64] (.bool false):=⟨bp,bp,bp,inferInstance,bp,bp⟩
instance:PI prog 9:={}
instance:PI prog 10:={}
instance:PI prog 11:={}
instance:aap prog 86:=⟨89,48,bp⟩
instance:aap prog 296:=⟨174,4,bp⟩
instance:aap prog 488:=⟨9,4,bp⟩
attribute [local irreducible] gL dH br gY jP dK fC kY
structure AEv where
 AM:Int
 aN:Int
 bC:Int
 lW:Int
 gN:Int
 lX:Int
 bU:Int
 gD:Int
 cE:List Int
def AEv.cs(x:AEv):List DV:=[.int .i64 x.AM,.int .i64 x.aN,.int .u8 x.bC,.int .i64 x.lW,.int .i64 x.gN,.int .i64 x.lX,.int .i64 x.bU,.int .i64 x.gD,.sl 1 (List.map (DV.int .i64) x.cE)]
def AEv.dv(x:AEv):DV:=.agg (AEv.cs x)
structure VClk where
 ei:Nat->Int
def VClk.cs(x:VClk):List DV:=[.int .u64 (x.ei 0),.int .u64 (x.ei 1),.int .u64 (x.ei 2),.int .u64 (x.ei 3),.int .u64 (x.ei 4),.int .u64 (x.ei 5),.int .u64 (x.ei 6),.int .u64 (x.ei 7),.int .u64 (x.ei 8),.int .u64 (x.ei 9),.int .u64 (x.ei 10),.int .u64 (x.ei 11),.int .u64 (x.ei 12),.int .u64 (x.ei 13),.int .u64 (x.ei 14),.int .u64 (x.ei 15)]
def VClk.dv(x:VClk):DV:=.agg (VClk.cs x)
structure RRec where
 aN:Int
 acR:Int
 rL:VClk
 zy:Int
 kD:AEv
 yM:Int
def RRec.cs(x:RRec):List DV:=[.int .i64 x.aN,.int .u64 x.acR,.int .u64 (x.rL.ei 0),.int .u64 (x.rL.ei 1),.int .u64 (x.rL.ei 2),.int .u64 (x.rL.ei 3),.int .u64 (x.rL.ei 4),.int .u64 (x.rL.ei 5),.int .u64 (x.rL.ei 6),.int .u64 (x.rL.ei 7),.int .u64 (x.rL.ei 8),.int .u64 (x.rL.ei 9),.int .u64 (x.rL.ei 10),.int .u64 (x.rL.ei 11),.int .u64 (x.rL.ei 12),.int .u64 (x.rL.ei 13),.int .u64 (x.rL.ei 14),.int .u64 (x.rL.ei 15),.int .u8 x.zy,.int .i64 x.kD.AM,.int .i64 x.kD.aN,.int .u8 x.kD.bC,.int .i64 x.kD.lW,.int .i64 x.kD.gN,.int .i64 x.kD.lX,.int .i64 x.kD.bU,.int .i64 x.kD.gD,.sl 1 (List.map (DV.int .i64) x.kD.cE),.int .u64 x.yM]
def RRec.dv(x:RRec):DV:=.agg (RRec.cs x)
structure bE where
 dY:Int
 qQ:List Int
def abl(x:bE):List DV:=[.int .u8 x.dY,.sl 1 (List.map (DV.int .u8) x.qQ)]
def CN(x:bE):DV:=.agg (abl x)
structure bP where
 zz:Int
 dh:Int
 bR:List bE
 jH:List bE
def Ue(x:bP):List DV:=[.int .u8 x.zz,.int .u8 x.dh,.sl 2 (List.map CN x.bR),.sl 2 (List.map CN x.jH)]
def Jq(x:bP):DV:=.agg (Ue x)
structure dC where
 aY:Int
 fJ:List Int
 aG:List bP
def NI(x:dC):List DV:=[.int .u8 x.aY,.sl 1 (List.map (DV.int .u8) x.fJ),.sl 4 (List.map Jq x.aG)]
structure cW where
 bx:ByteArray
 uK:Bool
def cW.cs(x:cW):List DV:=[.str x.bx,.bool x.uK]
def yn(x:cW):DV:=.agg (cW.cs x)
structure cJ where
 gz:ByteArray
 uJ:ByteArray
 pW:Int
def cJ.cs(x:cJ):List DV:=[.str x.gz,.str x.uJ,.int .i64 x.pW]
def zM(x:cJ):DV:=.agg (cJ.cs x)
structure cq where
 bx:ByteArray
 sQ:Int
 uK:Int
def cq.cs(x:cq):List DV:=[.str x.bx,.int .i64 x.sQ,.int .i64 x.uK]
def CO(x:cq):DV:=.agg (cq.cs x)
structure bM where
 bx:ByteArray
 dY:List ByteArray
 uM:List DV
def bM.cs(x:bM):List DV:=[.str x.bx,.sl 1 (List.map DV.str x.dY),.sl 6 (List.map lg x.uM)]
def zL(x:bM):DV:=.agg (bM.cs x)
structure bK where
 bx:ByteArray
 eG:List cq
 bf:List (List bM)
def bK.cs(x:bK):List DV:=[.str x.bx,.sl 3 (List.map CO x.eG),.sl 1 (List.map (bA 3 zL) x.bf)]
def CM(x:bK):DV:=.agg (bK.cs x)
structure dW where
 bx:ByteArray
 aY:List cW
 fJ:List cJ
 aG:List bK
def Jo(x:dW):List DV:=[.str x.bx,.sl 2 (List.map yn x.aY),.sl 3 (List.map zM x.fJ),.sl 3 (List.map CM x.aG)]
structure ax where
 lV:Int
 cK:Int
 dN:Int
 kS:Int
 eZ:List (List Int)
 eM:Int
 sP:List Int
 qj:Int
def iR(x:ax):List DV:=[.int .i64 x.lV,.int .i64 x.cK,.int .i64 x.dN,.int .i64 x.kS,.sl 1 (List.map (bA 1 (DV.int .i64)) x.eZ),.int .i64 x.eM,.sl 1 (List.map (DV.int .u8) x.sP),.int .i64 x.qj]
structure aw where
 cZ:Int
 bx:ByteArray
 gN:Int
 cE:List DV
def xB(x:aw):List DV:=[.int .i64 x.cZ,.str x.bx,.int .i64 x.gN,.sl 4 (List.map lg x.cE)]
def ib(x:aw):DV:=.agg (xB x)
def aw.dec:DV->Option aw
 |.agg [.int .i64 a0,.str a1,.int .i64 a2,.sl 4 a3]=>some ⟨a0,a1,a2,a3⟩
 |_=>none
theorem aw.Fo{d:DV}{x:aw}(h:aw.dec d=some x):d=ib x:=by
 unfold aw.dec at h
 split at h
 .injection h with h;subst h;simp[ib,xB,xV]
 .cases h
instance:DC aw.dec ib:=⟨aw.Fo⟩
theorem aw.nF(x:aw):aw.dec (ib x)=some x:=by simp[aw.dec,ib,xB,xV]
structure bh where
 bC:Int
 bx:ByteArray
 bU:ByteArray
 js:List DV
 vZ:List DV
 uL:List DV
def NH(x:bh):List DV:=[.int .i64 x.bC,.str x.bx,.str x.bU,.sl 4 (List.map lg x.js),.sl 6 (List.map lg x.vZ),.sl 6 (List.map lg x.uL)]
def Ba(x:bh):DV:=.agg (NH x)
def bh.dec:DV->Option bh
 |.agg [.int .i64 a0,.str a1,.str a2,.sl 4 a3,.sl 6 a4,.sl 6 a5]=>some ⟨a0,a1,a2,a3,a4,a5⟩
 |_=>none
theorem bh.Fo{d:DV}{x:bh}(h:bh.dec d=some x):d=Ba x:=by
 unfold bh.dec at h
 split at h
 .injection h with h;subst h;simp[Ba,NH,xV]
 .cases h
instance:DC bh.dec Ba:=⟨bh.Fo⟩
theorem bh.nF(x:bh):bh.dec (Ba x)=some x:=by simp[bh.dec,Ba,NH,xV]
def ax.b0(x:ax)(d6:DV):List DV:=[.int .i64 x.lV,.int .i64 x.cK,.int .i64 x.dN,.int .i64 x.kS,.sl 1 (List.map (bA 1 (DV.int .i64)) x.eZ),.int .i64 x.eM,d6,.int .i64 x.qj]
def gJ(x0:Int)(x1:Int):Option Int :=If (decide (x0<x1)) (some x0)<|some x1
instance OB{x0 x1}:MC (gJ x0 x1) λr=>br prog 108 [.I x0,.I x1] (.I r):=.p func108 ntmps108
def bQ(x0:Int)(x1:Int):Option (List ByteArray) :=wL (E:=(List ByteArray)) (([]:List ByteArray),0) [] [0,1] [] (λs t=>(5,.row 1001)::(6,.I s.2)::t) (λs t=>(1001,some (.R 9 1 DV.str s.1))::t) [.r 5 1002 9 1] [(1001,1002)] (λs3=>If (decide (s3.2<x1)) (eE 17 (bA 1 (DV.int .u8)) [x0,(IntKind.wrap .u8 (IntKind.wrap .i64 (48+s3.2)))] λv4=>eE 19 (bA 1 DV.str) [(strOfNums v4)] λv5=>Ck (dK 16 (s3.1.length+List.length v5))<|nX [] [(1001,20)] (some (.next ((s3.1++v5),(IntKind.wrap .i64 (s3.2+1))))))<|some (.done s3.1)) λe7=>wk [.z 1001]<|some e7
instance OA{x0 x1}:MC (bQ x0 x1) λr=>br prog 109 [.int .u8 x0,.I x1] (.L 1 DV.str r):=.p func109 ntmps109
def oA(x0:bP):Option (List Int) :=wL (E:=(List Int)) (([]:List Int),0) [] [1] [1] (λs t=>(3,.row 1001)::(4,.I s.2)::t) (λs t=>(1001,some (.R 3 1 (DV.int .i64) s.1))::t) [.r 3 1002 3 1] [(1001,1002)] (λs3=>If (decide (s3.2<3)) (If (decide (s3.2<(x0.bR.length:Int))) (Bi (idx x0.bR s3.2) λv5=>Ck ((0:Int)<=v5.dY∧(0:Int)<3)<|eE 24 (bA 1 (DV.int .i64)) [(IntKind.wrap .i64 (v5.dY % 3))] λv7=>Ck (dK 8 (s3.1.length+List.length v7))<|nX [] [(1001,25)] (some (.next ((s3.1++v7),(IntKind.wrap .i64 (s3.2+1))))))<|If (s3.2==0) (eE 30 (bA 1 (DV.int .i64)) [1] λv9=>Ck (dK 8 (s3.1.length+List.length v9))<|nX [] [(1001,31)] (some (.next ((s3.1++v9),(IntKind.wrap .i64 (s3.2+1))))))<|If (decide (s3.2<(x0.jH.length:Int))) (Bi (idx x0.jH s3.2) λv12=>Ck ((0:Int)<=v12.dY∧(0:Int)<3)<|eE 47 (bA 1 (DV.int .i64)) [(IntKind.wrap .i64 (v12.dY % 3))] λll=>Ck (dK 8 (s3.1.length+List.length ll))<|nX [] [(1001,48)] (some (.next ((s3.1++ll),(IntKind.wrap .i64 (s3.2+1))))))<|nX [] [] (some (.next (s3.1,(IntKind.wrap .i64 (s3.2+1))))))<|some (.done s3.1)) λJl=>wk [.z 1001]<|some Jl
instance OC{x0}:MC (oA x0) λr=>br prog 110 [.agg (Ue x0)] (.L 1 (DV.int .i64) r):=.p func110 ntmps110
def bV(x1:Int)(o0:ax):Option (Int×ax) :=If ((o0.sP.length:Int)==0) (rX [] (some (0,o0)))<|Bi (idx o0.sP 0) λv2=>Ck (fC (o0.sP.length) 1 (o0.sP.length))<|Ck ((0:Int)<=(IntKind.wrap .i64 v2)∧(0:Int)<x1)<|rX [] (some (((IntKind.wrap .i64 v2) % x1),({ o0 with sP:=(List.drop (Int.toNat 1) o0.sP) }:ax)))
instance HU{x1 o0}:MA (bV x1 o0) prog 219 (λ_=>1) λr=>⟨[.ref 9000 0,.I x1],[(9000,some (.bJ 261 (iR o0)))],.I r.1,[(9000,some (.bJ 261 (iR r.2)))],[]⟩:=.b func219 ntmps219
def eu(o0:ax):Option (ByteArray×ax) :=Bi (bQ 120 3) λv2=>Bi (cl 9 [] (bV o0.lV o0)) λv4=>Bi (idx v2 v4.1) λv6=>rX [] (some (v6,v4.2))
instance FN{o0}:MA (eu o0) prog 281 (λ_=>1) λr=>⟨[.ref 9000 0],[(9000,some (.bJ 261 (iR o0)))],.str r.1,[(9000,some (.bJ 261 (iR r.2)))],[]⟩:=.b func281 ntmps281
def iE(zfaf:Int->ax->Option (aw×ax))(x1:Int)(o0:ax):Option (aw×ax) :=Bi (cl 9 [] (bV 12 o0)) λv2=>If ((decide (v2.1<2))||((decide (2<x1))&&(decide (5<v2.1)))) (Bi (cl 22 [] (bV 9 v2.2)) λv4=>rX [] (some ((aw.mk 1 ByteArray.empty v4.1 []),v4.2)))<|If ((decide (v2.1<4))||((v2.1==4)&&(v2.2.eM==0))) (Bi (cl 39 [] (eu v2.2)) λv6=>rX [] (some ((aw.mk 5 v6.1 0 []),v6.2)))<|If (v2.1==4) (Bi (bQ 112 2) λv8=>Bi (cl 50 [] (bV v2.2.eM v2.2)) λv10=>Bi (idx v8 v10.1) λv12=>rX [] (some ((aw.mk 5 v12 0 []),v10.2)))<|If (v2.1==5) (rX [] (some ((aw.mk 4 ByteArray.empty 0 []),v2.2)))<|If ((v2.1==6)&&(decide (0<v2.2.cK))) (Bi (cl 71 [] (zfaf (IntKind.wrap .i64 (x1+1)) v2.2)) λll=>eE 72 (bA 4 lg) [(ib ll.1)] λlL=>wk [.z 72]<|rX [] (some ((aw.mk 6 ⟨#[116,48]⟩ 0 lL),ll.2)))<|If ((v2.1==7)&&(decide (0<v2.2.cK))) (rX [] (some ((aw.mk 8 ⟨#[116,48]⟩ 0 []),v2.2)))<|If (v2.1==8) (Bi (cl 91 [] (zfaf (IntKind.wrap .i64 (x1+1)) v2.2)) λoi=>eE 92 (bA 4 lg) [(ib oi.1)] λlI=>wk [.z 92]<|rX [] (some ((aw.mk 9 ByteArray.empty 0 lI),oi.2)))<|eE 94 (bA 1 (DV.int .i64)) [14,15,11,12,13,14] λxa=>Bi (cl 96 [] (bV 6 v2.2)) λv21=>Bi (idx xa v21.1) λuj=>Bi (cl 102 [] (zfaf (IntKind.wrap .i64 (x1+1)) v21.2)) λua=>Bi (cl 108 [] (zfaf (IntKind.wrap .i64 (x1+1)) ua.2)) λvV=>eE 109 (bA 4 lg) [(ib ua.1),(ib vV.1)] λv28=>wk [.z 109]<|rX [] (some ((aw.mk uj ByteArray.empty 0 v28),vV.2))
theorem vP{zfaf:Int->ax->Option (aw×ax)}[zhaf:∀{x1 o0},MA (zfaf x1 o0) prog 279 (λ_=>1) λr=>⟨[.ref 9000 0,.I x1],[(9000,some (.bJ 261 (iR o0)))],.agg (xB r.1),[(9000,some (.bJ 261 (iR r.2)))],[]⟩]{x1 o0}:MA (iE zfaf x1 o0) prog 279 (λ_=>1) λr=>⟨[.ref 9000 0,.I x1],[(9000,some (.bJ 261 (iR o0)))],.agg (xB r.1),[(9000,some (.bJ 261 (iR r.2)))],[]⟩:=.b func279 ntmps279
def bH:Nat->Int->ax->Option (aw×ax)
 |0,_,_=>none
 |fu+1,x1,o0=>iE (bH fu) x1 o0
instance GL(fu:Nat){x1 o0}:MA (bH fu x1 o0) prog 279 (λ_=>1) λr=>⟨[.ref 9000 0,.I x1],[(9000,some (.bJ 261 (iR o0)))],.agg (xB r.1),[(9000,some (.bJ 261 (iR r.2)))],[]⟩:=by
 induction fu generalizing x1 o0 with
 |zero=>exact⟨λh=>dI⟩
 |succ fu ih=>exact vP (zfaf:=bH fu)
def iX(zfag:Int->ax->Option (aw×ax))(x1:Int)(o0:ax):Option (aw×ax) :=Bi (cl 10 [] (bV 10 o0)) λv2=>If (v2.1==0) (Bi (cl 15 [] (bV 2 v2.2)) λv4=>rX [] (some ((aw.mk (IntKind.wrap .i64 (2+v4.1)) ByteArray.empty 0 []),v4.2)))<|If ((v2.1==1)||((decide (1<x1))&&(decide (4<v2.1)))) (rX [] (some ((aw.mk 5 ⟨#[98,48]⟩ 0 []),v2.2)))<|If ((v2.1==2)&&(decide (0<v2.2.dN))) (Bi (bQ 102 2) λv6=>Bi (cl 46 [] (bV v2.2.dN v2.2)) λv8=>Bi (idx v6 v8.1) λv10=>rX [] (some ((aw.mk 5 v10 0 []),v8.2)))<|If ((v2.1==3)&&(decide (0<v2.2.cK))) (Bi (cl 61 [] ((bH 64) 1 v2.2)) λv12=>eE 62 (bA 4 lg) [(ib v12.1)] λkG=>wk [.z 62]<|rX [] (some ((aw.mk 7 ⟨#[116,48]⟩ 0 kG),v12.2)))<|If (v2.1==5) (Bi (cl 70 [] (zfag (IntKind.wrap .i64 (x1+1)) v2.2)) λlL=>eE 71 (bA 4 lg) [(ib lL.1)] λmA=>wk [.z 71]<|rX [] (some ((aw.mk 10 ByteArray.empty 0 mA),lL.2)))<|If ((v2.1==6)||(v2.1==7)) (Bi (cl 83 [] (zfag (IntKind.wrap .i64 (x1+1)) v2.2)) λlI=>Bi (cl 90 [] (zfag (IntKind.wrap .i64 (x1+1)) lI.2)) λv20=>eE 91 (bA 4 lg) [(ib lI.1),(ib v20.1)] λv21=>wk [.z 91]<|rX [] (some ((aw.mk (IntKind.wrap .i64 (16+v2.1)) ByteArray.empty 0 v21),v20.2)))<|Bi (cl 94 [] (bV 6 v2.2)) λuj=>Bi (cl 97 [] ((bH 64) 1 uj.2)) λua=>Bi (cl 101 [] ((bH 64) 1 ua.2)) λvV=>eE 102 (bA 4 lg) [(ib ua.1),(ib vV.1)] λv28=>wk [.z 102]<|rX [] (some ((aw.mk (IntKind.wrap .i64 (16+uj.1)) ByteArray.empty 0 v28),vV.2))
theorem wy{zfag:Int->ax->Option (aw×ax)}[zhag:∀{x1 o0},MA (zfag x1 o0) prog 278 (λ_=>1) λr=>⟨[.ref 9000 0,.I x1],[(9000,some (.bJ 261 (iR o0)))],.agg (xB r.1),[(9000,some (.bJ 261 (iR r.2)))],[]⟩]{x1 o0}:MA (iX zfag x1 o0) prog 278 (λ_=>1) λr=>⟨[.ref 9000 0,.I x1],[(9000,some (.bJ 261 (iR o0)))],.agg (xB r.1),[(9000,some (.bJ 261 (iR r.2)))],[]⟩:=.b func278 ntmps278
def dU:Nat->Int->ax->Option (aw×ax)
 |0,_,_=>none
 |fu+1,x1,o0=>iX (dU fu) x1 o0
instance Hd(fu:Nat){x1 o0}:MA (dU fu x1 o0) prog 278 (λ_=>1) λr=>⟨[.ref 9000 0,.I x1],[(9000,some (.bJ 261 (iR o0)))],.agg (xB r.1),[(9000,some (.bJ 261 (iR r.2)))],[]⟩:=by
 induction fu generalizing x1 o0 with
 |zero=>exact⟨λh=>dI⟩
 |succ fu ih=>exact wy (zfag:=dU fu)
def fe(x1:Int)(o0:ax):Option ((List DV)×ax) :=wL (E:=(List DV)×ax) (([]:List DV),0,o0) [9000] [0,1] [] (λs t=>(5,.row 1001)::(6,.I s.2.1)::t) (λs t=>(1001,some (.R 399 4 lg s.1))::(9000,some (.bJ 261 (iR s.2.2)))::t) [.r 5 1002 399 4] [(1001,1002)] (λs4=>If (decide (s4.2.1<x1)) (Bi (cl 14 [] ((bH 64) 1 s4.2.2)) λv6=>eE 15 (bA 4 lg) [(ib v6.1)] λv7=>Ck (dK 56 (s4.1.length+List.length v7))<|nX [] [(1001,16)] (some (.next ((s4.1++v7),(IntKind.wrap .i64 (s4.2.1+1)),v6.2))))<|some (.done (s4.1,s4.2.2))) λe9=>wk [.z 1001]<|rX [] (some (e9.1,e9.2))
instance FM{x1 o0}:MA (fe x1 o0) prog 280 (λ_=>1) λr=>⟨[.ref 9000 0,.I x1],[(9000,some (.bJ 261 (iR o0)))],.L 4 lg r.1,[(9000,some (.bJ 261 (iR r.2)))],[]⟩:=.b func280 ntmps280
def jk(zfah:Int->ax->Option ((List DV)×ax))(x1:Int)(x2:Int)(o0:ax):Option (bh×ax) :=If (x1==2) (Bi (cl 22 [] ((dU 64) 0 o0)) λv2=>eE 23 (bA 4 lg) [(ib v2.1)] λv3=>wk [.z 23]<|rX [] (some ((bh.mk 1 ⟨#[98,48]⟩ ByteArray.empty v3 [] []),v2.2)))<|If ((x1==3)&&(decide (0<o0.cK))) (Bi (cl 36 [] ((bH 64) 0 o0)) λv5=>Bi (cl 38 [] ((bH 64) 0 v5.2)) λv7=>eE 39 (bA 4 lg) [(ib v5.1),(ib v7.1)] λv8=>wk [.z 39]<|rX [] (some ((bh.mk 2 ⟨#[116,48]⟩ ByteArray.empty v8 [] []),v7.2)))<|If ((x1==4)&&(decide (0<o0.cK))) (Bi (cl 52 [] ((bH 64) 0 o0)) λv10=>eE 53 (bA 4 lg) [(ib v10.1)] λv11=>wk [.z 53]<|rX [] (some ((bh.mk 3 ⟨#[116,48]⟩ ByteArray.empty v11 [] []),v10.2)))<|If (((x1==5)||(x1==6))&&(decide (x2<3))) (Bi (cl 67 [] ((dU 64) 0 o0)) λkG=>Bi (cl 71 [] (zfah (IntKind.wrap .i64 (x2+1)) kG.2)) λlL=>eE 73 (bA 4 lg) [(ib kG.1)] λmA=>Bi (cl 78 [] (zfah (IntKind.wrap .i64 (x2+1)) lL.2)) λlI=>wk [.z 73]<|rX [] (some ((bh.mk 4 ByteArray.empty ByteArray.empty mA lL.1 lI.1),lI.2)))<|If ((x1==7)&&(decide (x2<2))) (Bi (cl 88 [] ((dU 64) 0 o0)) λv20=>eE 90 (bA 4 lg) [(ib v20.1)] λv21=>Bi (cl 94 [] (zfah (IntKind.wrap .i64 (x2+1)) v20.2)) λuj=>wk [.z 90]<|rX [] (some ((bh.mk 5 ByteArray.empty ByteArray.empty v21 uj.1 []),uj.2)))<|If ((x1==8)||(x1==9)) (Bi (cl 109 [] (bV (o0.eZ.length:Int) o0)) λua=>Bi (idx ua.2.eZ ua.1) λvV=>Bi (cl 119 [] (bV (vV.length:Int) ua.2)) λzJ=>eE 120 (bA 1 DV.str) [⟨#[97]⟩,⟨#[98]⟩,⟨#[99]⟩] λv30=>Bi (idx v30 ua.1) λCJ=>Bi (bQ 104 3) λCt=>Bi (idx Ct zJ.1) λCu=>Bi (idx zJ.2.eZ ua.1) λHG=>Bi (idx HG zJ.1) λv40=>Bi (cl 139 [] (fe v40 zJ.2)) λGG=>rX [] (some ((bh.mk 6 CJ Cu GG.1 [] []),GG.2)))<|If (x1==10) (Bi (idx o0.eZ o0.kS) λYA=>Bi (cl 156 [] (bV (YA.length:Int) o0)) λv46=>Bi (cl 158 [] ((bH 64) 1 v46.2)) λFy=>Bi (bQ 104 3) λQK=>Bi (idx QK v46.1) λJm=>eE 164 (bA 4 lg) [(ib Fy.1)] λv53=>Bi (idx Fy.2.eZ Fy.2.kS) λv55=>Bi (idx v55 v46.1) λv57=>Bi (cl 179 [] (fe v57 Fy.2)) λv59=>Ck (dK 56 (v53.length+List.length v59.1))<|wk [.z 180]<|rX [] (some ((bh.mk 7 ByteArray.empty Jm (v53++v59.1) [] []),v59.2)))<|If ((x1==11)&&(decide (x2<3))) (Bi (cl 190 [] (bV 2 o0)) λv62=>If (v62.1==0) (Bi (cl 193 [] (fe 2 v62.2)) λYB=>Bi (cl 198 [] (zfah (IntKind.wrap .i64 (x2+1)) YB.2)) λv66=>rX [] (some ((bh.mk 8 ByteArray.empty ByteArray.empty YB.1 [] v66.1),v66.2)))<|Bi (cl 201 [] (eu v62.2)) λv68=>Bi (cl 203 [] ((bH 64) 0 v68.2)) λv70=>eE 206 (bA 4 lg) [(ib v70.1)] λv71=>Bi (cl 210 [] (zfah (IntKind.wrap .i64 (x2+1)) v70.2)) λKL=>wk [.z 206]<|rX [] (some ((bh.mk 9 v68.1 ByteArray.empty v71 [] KL.1),KL.2)))<|If (x1==12) (Bi (cl 217 [] (bV 3 o0)) λv75=>If ((x1==12)&&(v75.1==0)) (rX [] (some ((bh.mk 10 ByteArray.empty ByteArray.empty [] [] []),v75.2)))<|Bi (cl 222 [] (eu v75.2)) λJn=>Bi (cl 225 [] ((bH 64) 0 Jn.2)) λv79=>eE 226 (bA 4 lg) [(ib v79.1)] λv80=>wk [.z 226]<|rX [] (some ((bh.mk 1 Jn.1 ByteArray.empty v80 [] []),v79.2)))<|If ((x1==12)&&false) (rX [] (some ((bh.mk 10 ByteArray.empty ByteArray.empty [] [] []),o0)))<|Bi (cl 222 [] (eu o0)) λv75=>Bi (cl 225 [] ((bH 64) 0 v75.2)) λJn=>eE 226 (bA 4 lg) [(ib Jn.1)] λv78=>wk [.z 226]<|rX [] (some ((bh.mk 1 v75.1 ByteArray.empty v78 [] []),Jn.2))
instance He{zfah:Int->ax->Option ((List DV)×ax)}[zhah:∀{x1 o0},MA (zfah x1 o0) prog 162 (λ_=>1) λr=>⟨[.ref 9000 0,.I x1],[(9000,some (.bJ 261 (iR o0)))],.L 6 lg r.1,[(9000,some (.bJ 261 (iR r.2)))],[]⟩]{x1 x2 o0}:MA (jk zfah x1 x2 o0) prog 220 (λ_=>1) λr=>⟨[.ref 9000 0,.I x1,.I x2],[(9000,some (.bJ 261 (iR o0)))],.agg (NH r.1),[(9000,some (.bJ 261 (iR r.2)))],[]⟩:=.b func220 ntmps220
def lz(zfah:Int->ax->Option ((List DV)×ax))(x1:Int)(o0:ax):Option ((List DV)×ax) :=wL (E:=((List DV)×ax)⊕((List DV)×ax)) (([]:List DV),o0) [9000] [0,1] [] (λ_ t=>(5,.row 1001)::t) (λs t=>(1001,some (.R 393 6 lg s.1))::(9000,some (.bJ 261 (iR s.2)))::t) [.r 5 1002 393 6] [(1001,1002)] (λs3=>If ((decide (0<(s3.2.sP.length:Int)))&&(decide (0<s3.2.qj))) (Bi (cl 21 [] (bV 14 s3.2)) λv5=>If (v5.1==13) (wk [.z 1001]<|rX [] (some (.done (.inr (s3.1,v5.2)))))<|Bi (cl 36 [] ((jk zfah) v5.1 x1 ({ v5.2 with qj:=(IntKind.wrap .i64 (v5.2.qj-1)) }:ax))) λv7=>eE 37 (bA 6 lg) [(Ba v7.1)] λv8=>Ck (dK 112 (s3.1.length+List.length v8))<|nX [] [(1001,38)] (some (.next ((s3.1++v8),v7.2))))<|some (.done (.inl (s3.1,s3.2)))) fun
  |.inl e10=>wk [.z 1001]<|rX [] (some (e10.1,e10.2))
  |.inr r=>some r
theorem xe{zfah:Int->ax->Option ((List DV)×ax)}[zhah:∀{x1 o0},MA (zfah x1 o0) prog 162 (λ_=>1) λr=>⟨[.ref 9000 0,.I x1],[(9000,some (.bJ 261 (iR o0)))],.L 6 lg r.1,[(9000,some (.bJ 261 (iR r.2)))],[]⟩]{x1 o0}:MA (lz zfah x1 o0) prog 162 (λ_=>1) λr=>⟨[.ref 9000 0,.I x1],[(9000,some (.bJ 261 (iR o0)))],.L 6 lg r.1,[(9000,some (.bJ 261 (iR r.2)))],[]⟩:=.b func162 ntmps162
def eI:Nat->Int->ax->Option ((List DV)×ax)
 |0,_,_=>none
 |fu+1,x1,o0=>lz (eI fu) x1 o0
instance HV(fu:Nat){x1 o0}:MA (eI fu x1 o0) prog 162 (λ_=>1) λr=>⟨[.ref 9000 0,.I x1],[(9000,some (.bJ 261 (iR o0)))],.L 6 lg r.1,[(9000,some (.bJ 261 (iR r.2)))],[]⟩:=by
 induction fu generalizing x1 o0 with
 |zero=>exact⟨λh=>dI⟩
 |succ fu ih=>exact xe (zfah:=eI fu)
def iG(x1:List bE)(o0:ax):Option ((List bM)×ax) :=fL (([]:List bM),o0.lV,o0.cK,o0.dN,o0.kS,o0.eZ,o0.eM,([]:List Int),o0.qj) 10 [9000] [0,8,9] [] (λ_ t=>(5,.row 1001)::t) (λs t=>(1001,some (.R 285 3 zL s.1))::(9000,some (.bJ 261 [.I s.2.1,.I s.2.2.1,.I s.2.2.2.1,.I s.2.2.2.2.1,.L 1 (bA 1 (DV.int .i64)) s.2.2.2.2.2.1,.I s.2.2.2.2.2.2.1,.L 1 (DV.int .u8) s.2.2.2.2.2.2.2.1,.I s.2.2.2.2.2.2.2.2]))::t) [.r 5 1002 285 3] [(1001,1002)] m64 (x1.length:Int) (λk1 rG=>Bi (idx x1 (k1:Int)) λkG=>Bi (idx rG.2.2.2.2.2.1 rG.2.2.2.2.1) λlL=>Bi (idx lL (k1:Int)) λoi=>Bi (gJ (kG.qQ.length:Int) 40) λxa=>Ck (fC (kG.qQ.length) 0 xa)<|Bi (bQ 104 3) λuQ=>Bi (idx uQ (k1:Int)) λv24=>Bi (bQ 112 oi) λxz=>Bi (cl 55 [] ((eI 64) 0 (ax.mk rG.2.1 rG.2.2.1 rG.2.2.2.1 rG.2.2.2.2.1 rG.2.2.2.2.2.1 oi (List.take (Int.toNat xa) kG.qQ) 12))) λv28=>eE 57 (bA 3 zL) [(bM.mk v24 xz v28.1)] λzJ=>Ck (dK 64 (rG.1.length+List.length zJ))<|nX [] [(1001,58)] (some ((rG.1++zJ),v28.2.lV,v28.2.cK,v28.2.dN,v28.2.kS,v28.2.eZ,v28.2.eM,v28.2.sP,v28.2.qj))) λrG=>wk [.z 1001]<|rX [] (some (rG.1,(ax.mk rG.2.1 rG.2.2.1 rG.2.2.2.1 rG.2.2.2.2.1 rG.2.2.2.2.2.1 rG.2.2.2.2.2.2.1 rG.2.2.2.2.2.2.2.1 rG.2.2.2.2.2.2.2.2)))
instance FC{x1 o0}:MA (iG x1 o0) prog 111 (λ_=>1) λr=>⟨[.ref 9000 0,.L 2 CN x1],[(9000,some (.bJ 261 (ax.b0 o0 .cu)))],.L 3 zL r.1,[(9000,some (.bJ 261 (iR r.2)))],[]⟩:=.b func111 ntmps111
def iq(x1:List bE)(o0:ax):Option ((List bM)×ax) :=fL (([]:List bM),o0) 10 [9000] [0,8,9] [] (λ_ t=>(5,.row 1001)::t) (λs t=>(1001,some (.R 285 3 zL s.1))::(9000,some (.bJ 261 (iR s.2)))::t) [.r 5 1002 285 3] [(1001,1002)] m64 (x1.length:Int) (λk1 s4=>Bi (idx x1 (k1:Int)) λv6=>Bi (idx s4.2.eZ s4.2.kS) λv8=>Bi (idx v8 (k1:Int)) λv10=>Bi (gJ (v6.qQ.length:Int) 40) λv12=>Ck (fC (v6.qQ.length) 0 v12)<|Bi (bQ 104 3) λlL=>Bi (idx lL (k1:Int)) λoi=>Bi (bQ 112 v10) λxa=>Bi (cl 55 [] ((eI 64) 0 ({ s4.2 with eM:=v10,sP:=(List.take (Int.toNat v12) v6.qQ),qj:=12 }:ax))) λv21=>eE 57 (bA 3 zL) [(bM.mk oi xa v21.1)] λuQ=>Ck (dK 64 (s4.1.length+List.length uQ))<|nX [] [(1001,58)] (some ((s4.1++uQ),v21.2))) λs4=>wk [.z 1001]<|rX [] (some (s4.1,s4.2))
instance EW{x1 o0}:MA (iq x1 o0) prog 111 (λ_=>1) λr=>⟨[.ref 9000 0,.L 2 CN x1],[(9000,some (.bJ 261 (iR o0)))],.L 3 zL r.1,[(9000,some (.bJ 261 (iR r.2)))],[]⟩:=.b func111 ntmps111
@[reducible] def pP(s35:(List bK)):Option (List bK) :=nX [] [(1007,1010),(1008,1011),(1009,1012)] (some s35)
@[reducible] def jy(a32:List bK)(AY:ByteArray)(a52:List cq)(s67:(List (List bM))):Option (List bK) :=wk [.z 1028,.z 1029]<|eE 231 (bA 3 CM) [(bK.mk AY a52 s67)] λv65=>Ck (dK 64 (a32.length+List.length v65))<|nX [] [(1010,1025),(1011,1026),(1012,232)] (pP (a32++v65))
@[reducible] def iB(a10:List cW)(a14:List cJ)(a29:List (List Int))(k31:Nat)(a32:List bK)(v37:bP)(AY:ByteArray)(a52:List cq)(s75:(List bE)):Option (List bK) :=Bi (cl 207 [(9000,20)] (iG s75 (ax.mk (IntKind.wrap .i64 (1+(IntKind.wrap .i64 (v37.zz % 3)))) (IntKind.wrap .i64 (v37.dh % 2)) (a10.length:Int) (k31:Int) a29 0 [] 0))) λv61=>eE 208 (bA 1 (bA 3 zL)) [v61.1] λv62=>Ck (dK 24 (v62.length))<|jn (jy a32 AY a52) 43 [] [2,5,8,10,15,120,121,122] [2] i2 (λs t=>(5,some (.bJ 74 [.str ⟨#[102,108,101,101,116,49]⟩,.row 1025,.row 1026,.row 1027]))::(15,some (.bJ 257 [.str AY,.row 1028,.row 1029]))::(1025,some (.R 249 2 yn a10))::(1026,some (.R 251 3 zM a14))::(1027,some (.R 257 3 CM a32))::(1028,some (.R 259 3 CO a52))::(1029,some (.R 264 1 (bA 3 zL) s))::t)<|If (decide (0<(v37.jH.length:Int))) (Bi (gJ (v37.jH.length:Int) 3) λv69=>Ck (fC (v37.jH.length) 0 v69)<|Bi (cl 224 [(9000,20)] (iq (List.take (Int.toNat v69) v37.jH) v61.2)) λv72=>eE 225 (bA 1 (bA 3 zL)) [v72.1] λKL=>Ck (dK 24 (v62.length+List.length KL))<|nX [] [(1025,1021),(1026,1022),(1027,1023),(1028,1024),(1029,226)] (jy a32 AY a52 (v62++KL)))<|nX [] [(1025,1021),(1026,1022),(1027,1023),(1028,1024),(1029,209)] (jy a32 AY a52 v62)
@[reducible] def jz(x0:dC)(s98:Int×(List bP)):Option dW :=Ck ((0:Int)<=x0.aY∧(0:Int)<3)<|Bi (bQ 102 (IntKind.wrap .i64 (x0.aY % 3))) λv8=>fL ([]:List cW) 41 [] [1,2,3,4,5,39,40] [1,2] i2 (λs t=>(5,some (.bJ 74 [.str ⟨#[102,108,101,101,116,49]⟩,.row 1001,.cu,.cu]))::(1001,some (.R 249 2 yn s))::t) [.c 5 1034 1 249 2] [(1001,1034)] m64 (v8.length:Int) (λk9 rG=>Bi (idx v8 (k9:Int)) λv93=>Ck ((0:Int)<=(IntKind.wrap .i64 (4+(k9:Int))))<|Ck ((0:Int)<=(Int.fdiv x0.aY (2^min (Int.toNat (IntKind.wrap .i64 (4+(k9:Int)))) (IntKind.bits .u8)))∧(0:Int)<2)<|eE 57 (bA 2 yn) [(cW.mk v93 (((Int.fdiv x0.aY (2^min (Int.toNat (IntKind.wrap .i64 (4+(k9:Int)))) (IntKind.bits .u8))) % 2)==1))] λv96=>Ck (dK 24 (rG.length+List.length v96))<|nX [] [(1001,58)] (some (rG++v96))) λrG=>eE 61 (bA 1 DV.str) [⟨#[97]⟩,⟨#[98]⟩,⟨#[99]⟩] λv12=>wL (E:=(List cJ)) (0,([]:List cJ)) [] [1,2,3,4,5] [1,2] (λs t=>(8,.L 1 DV.str v12)::(9,.I s.1)::t) (λs t=>(5,some (.bJ 74 [.str ⟨#[102,108,101,101,116,49]⟩,.row 1002,.row 1003,.cu]))::(1002,some (.R 249 2 yn rG))::(1003,some (.R 251 3 zM s.2))::t) [.z 61,.c 5 1033 2 251 3] [(1002,1001),(1003,1033)] (λgH=>If ((decide (gH.1<(x0.fJ.length:Int)))&&(decide (gH.1<(IntKind.wrap .i64 (s98.1*s98.1))))) (Bi (idx x0.fJ gH.1) λoi=>Ck ((0:Int)<=oi∧(0:Int)<4)<|If (decide (0<(oi % 4))) (Ck (akT .i64 gH.1 s98.1)<|Bi (idx v12 (gH.1 / s98.1)) λv21=>Ck ((0:Int)<=gH.1∧(0:Int)<s98.1)<|Bi (idx v12 (gH.1 % s98.1)) λv24=>Ck ((0:Int)<=oi∧(0:Int)<4)<|eE 105 (bA 3 zM) [(cJ.mk v21 v24 (IntKind.wrap .i64 (oi % 4)))] λxz=>Ck (dK 40 (gH.2.length+List.length xz))<|nX [] [(1003,106)] (some (.next ((IntKind.wrap .i64 (gH.1+1)),(gH.2++xz)))))<|nX [] [] (some (.next ((IntKind.wrap .i64 (gH.1+1)),gH.2))))<|some (.done gH.2)) λe91=>fL ([]:List (List Int)) 110 [] [2,4,5,8,108,109] [2] (λ_ t=>(10,.row 1004)::t) (λs t=>(5,some (.bJ 74 [.str ⟨#[102,108,101,101,116,49]⟩,.row 1005,.row 1006,.cu]))::(1004,some (.R 92 1 (bA 1 (DV.int .i64)) s))::(1005,some (.R 249 2 yn rG))::(1006,some (.R 251 3 zM e91))::t) [.r 10 1032 92 1] [(1004,1032),(1005,1002),(1006,1003)] m64 (s98.2.length:Int) (λk28 s30=>Bi (idx s98.2 (k28:Int)) λv86=>Bi (oA v86) λv88=>eE 117 (bA 1 (bA 1 (DV.int .i64))) [v88] λv89=>Ck (dK 24 (s30.length+List.length v89))<|nX [] [(1004,118)] (some (s30++v89))) λs30=>fL ([]:List bK) 122 [] [2,5,8,120,121] [2] (λ_ t=>(10,.L 1 (bA 1 (DV.int .i64)) s30)::t) (λs t=>(5,some (.bJ 74 [.str ⟨#[102,108,101,101,116,49]⟩,.row 1007,.row 1008,.row 1009]))::(1007,some (.R 249 2 yn rG))::(1008,some (.R 251 3 zM e91))::(1009,some (.R 257 3 CM s))::t) [.z 1004,.c 5 1031 3 257 3] [(1007,1005),(1008,1006),(1009,1031)] m64 (s98.2.length:Int) (λk31 QL=>jn pP 10025 [] [2,5,8,10,120,121,122] [2] i2 (λs t=>(5,some (.bJ 74 [.str ⟨#[102,108,101,101,116,49]⟩,.row 1010,.row 1011,.row 1012]))::(1010,some (.R 249 2 yn rG))::(1011,some (.R 251 3 zM e91))::(1012,some (.R 257 3 CM s))::t)<|Bi (idx s98.2 (k31:Int)) λv37=>Bi (idx v12 (k31:Int)) λAY=>Ck ((0:Int)<=v37.zz∧(0:Int)<3)<|Bi (bQ 120 (IntKind.wrap .i64 (1+(IntKind.wrap .i64 (v37.zz % 3))))) λGG=>fL ([]:List cq) 139 [] [2,5,8,10,13,14,15,120,121,122,137,138] [2,14] i2 (λs t=>(5,some (.bJ 74 [.str ⟨#[102,108,101,101,116,49]⟩,.row 1013,.row 1014,.row 1015]))::(15,some (.bJ 257 [.str AY,.row 1016,.cu]))::(1013,some (.R 249 2 yn rG))::(1014,some (.R 251 3 zM e91))::(1015,some (.R 257 3 CM QL))::(1016,some (.R 259 3 CO s))::t) [.c 15 1030 1 259 3] [(1013,1007),(1014,1008),(1015,1009),(1016,1030)] m64 (GG.length:Int) (λk43 s45=>Bi (idx GG (k43:Int)) λv82=>eE 149 (bA 3 CO) [(cq.mk v82 1 (k43:Int))] λv83=>Ck (dK 32 (s45.length+List.length v83))<|nX [] [(1016,150)] (some (s45++v83))) λs45=>eE 156 (bA 3 CO) [(cq.mk ⟨#[98,48]⟩ 2 0)] λv46=>Ck (dK 32 (s45.length+List.length v46))<|Ck ((0:Int)<=v37.dh∧(0:Int)<2)<|Bi (bQ 116 (IntKind.wrap .i64 (v37.dh % 2))) λQK=>fL (s45++v46) 165 [] [2,5,8,10,13,14,15,120,121,122,163,164] [2,14] i2 (λs t=>(5,some (.bJ 74 [.str ⟨#[102,108,101,101,116,49]⟩,.row 1017,.row 1018,.row 1019]))::(15,some (.bJ 257 [.str AY,.row 1020,.cu]))::(1017,some (.R 249 2 yn rG))::(1018,some (.R 251 3 zM e91))::(1019,some (.R 257 3 CM QL))::(1020,some (.R 259 3 CO s))::t) [] [(1017,1013),(1018,1014),(1019,1015),(1020,157)] m64 (QK.length:Int) (λk51 YC=>Bi (idx QK (k51:Int)) λv78=>eE 173 (bA 3 CO) [(cq.mk v78 3 0)] λv79=>Ck (dK 32 (YC.length+List.length v79))<|nX [] [(1020,174)] (some (YC++v79))) λYC=>Ck ((0:Int)<=v37.zz∧(0:Int)<3)<|Ck ((0:Int)<=v37.dh∧(0:Int)<2)<|Bi (gJ (v37.bR.length:Int) 3) λv57=>Ck (fC (v37.bR.length) 0 v57)<|jn (iB rG e91 s30 k31 QL v37 AY YC) 40 [] [2,5,8,10,14,15,20,120,121,122] [2,14,20] (λs t=>(21,.L 2 CN s)::t) (λ_ t=>(5,some (.bJ 74 [.str ⟨#[102,108,101,101,116,49]⟩,.row 1021,.row 1022,.row 1023]))::(15,some (.bJ 257 [.str AY,.row 1024,.cu]))::(1021,some (.R 249 2 yn rG))::(1022,some (.R 251 3 zM e91))::(1023,some (.R 257 3 CM QL))::(1024,some (.R 259 3 CO YC))::t)<|If ((List.length (List.take (Int.toNat v57) v37.bR):Int)==0) (eE 203 (bA 2 CN) [(bE.mk 1 [])] λv76=>nX [.z 203] [(1021,1017),(1022,1018),(1023,1019),(1024,1020)] (iB rG e91 s30 k31 QL v37 AY YC v76))<|nX [] [(1021,1017),(1022,1018),(1023,1019),(1024,1020)] (iB rG e91 s30 k31 QL v37 AY YC (List.take (Int.toNat v57) v37.bR))) λQL=>wk [.z 1007,.z 1008,.z 1009]<|some (dW.mk ⟨#[102,108,101,101,116,49]⟩ rG e91 QL)
def sL(x0:dC):Option dW :=Bi (gJ (x0.aG.length:Int) 3) λv2=>Ck (fC (x0.aG.length) 0 v2)<|jn (jz x0) 3 [] [1,2] [1,2] (λs t=>(3,.I s.1)::(4,.L 4 Jq s.2)::t) i2<|If (v2==0) (eE 33 (bA 4 Jq) [(bP.mk 0 0 [] [])] λv99=>nX [.z 33] [] (jz x0 (1,v99)))<|nX [] [] (jz x0 (v2,(List.take (Int.toNat v2) x0.aG)))
instance OD{x0}:MC (sL x0) λr=>br prog 62 [.agg (NI x0)] (.agg (Jo r)):=.p func62 ntmps62
end Go.Proofs.YtaafmkmdfcgeaaaGreatDoor
namespace Go.Proofs.YtaafmkmdfcgeaaaGreatDoor
open Go.Proofs.Tryz
theorem Uq{S E:Type}{step:S->Option (xy S E)}{s0:S}(I:S->Prop)(μ:S->Nat)(Q:E->Prop)(hI:I s0)(hb:μ s0<1180591620717411303424)
  (h:∀s,I s->(∃s',step s=some (.next s')∧I s'∧μ s'<μ s)∨(∃e,step s=some (.done e)∧Q e)):∃e,EP step s0=some e∧Q e:=by
 unfold EP
 have:∀n s,I s->μ s<n->∃e,Bk step n s=some e∧Q e:=by
  intro n
  induction n with
  |zero=>intro s _ h;omega
  |succ n ih=>
   intro s hs hm;rcases h s hs with⟨s',h1,h2,h3⟩|⟨e,h1,h2⟩
   .obtain⟨e,k1,k2⟩:=ih s' h2 ah
    refine⟨e,?_,k2⟩;unfold Bk;rw[h1];exact k1
   .refine⟨e,?_,h2⟩
    unfold Bk;rw[h1];rfl
 exact this _ s0 hI hb
theorem wrap_i64{n:Int}(h1:-9223372036854775808<=n)(h2:n<=9223372036854775807):IntKind.wrap .i64 n=n:=FF (k:=.i64) ⟨h1,h2⟩
theorem wrap_u64{n:Int}(h1:0<=n)(h2:n<=18446744073709551615):IntKind.wrap .u64 n=n:=FF (k:=.u64) ⟨h1,h2⟩
theorem wrap_u8{n:Int}(h1:0<=n)(h2:n<=255):IntKind.wrap .u8 n=n:=FF (k:=.u8) ⟨h1,h2⟩
def Wp{α:Type}(o:Option α)(Q:α->Prop):Prop:=∃r,o=some r∧Q r
section
variable {α β γ S E R:Type} {Q:β->Prop} {a:Option α} {b k:Option β}
theorem aj{r:β}(h:Q r):Wp (some r) Q:=⟨r,rfl,h⟩
theorem Un{r:β}(h:b=some r)(g:Q r):Wp b Q:=⟨r,h,g⟩
theorem Wp.imp{P:β->Prop}(h:Wp b P)(g:∀x,P x->Q x):Wp b Q:=by obtain⟨r,e,p⟩:=h;exact⟨r,e,g r p⟩
theorem mC{f:α->Option β}(h:Wp a λx=>Wp (f x) Q):Wp (Bi a f) Q:=by
 rw[NA];obtain⟨x,e,h⟩:=h;rw[e];exact h
theorem av{P:α->Prop}{f:α->Option β}(h:Wp a P)(g:∀x,P x->Wp (f x) Q):Wp (Bi a f) Q:=mC (h.imp g)
theorem aF{f:α->Option β}{x:α}(h:a=some x)(g:Wp (f x) Q):Wp (Bi a f) Q:=mC ⟨x,h,g⟩
theorem aq{c:Bool}{x y:Option β}(h1:c=true->Wp x Q)(h2:c=false->Wp y Q):Wp (If c x y) Q:=by
 rw[Yq];cases c with
 |true=>exact h1 rfl
 |false=>exact h2 rfl
theorem aK{p:Prop}[Decidable p](h:p)(g:Wp k Q):Wp (Ck p k) Q:=by rw[Yr];unfold Hu;rw[if_pos h];exact g
theorem aW{t:Nat}{l:Rn}(h:Wp b Q):Wp (cl t l b) Q:=by unfold Go.Proofs.YtaafmkmdfcgeaaaGreatDoor.cl;exact h
theorem cV{w:List Wk}(h:Wp b Q):Wp (wk w b) Q:=by unfold Go.Proofs.YtaafmkmdfcgeaaaGreatDoor.wk;exact h
theorem ay{w:List Wk}{l:Rn}(h:Wp b Q):Wp (nX w l b) Q:=by unfold Go.Proofs.YtaafmkmdfcgeaaaGreatDoor.nX;exact h
theorem aL{l:Rn}(h:Wp b Q):Wp (rX l b) Q:=by unfold Go.Proofs.YtaafmkmdfcgeaaaGreatDoor.rX;exact h
theorem abB{l:Rn}{ke kh:List Nat}(h:Wp b Q):Wp (rC ke kh l b) Q:=by unfold Go.Proofs.YtaafmkmdfcgeaaaGreatDoor.rC;exact h
theorem NT(h:Wp b Q):Wp (o1 b) Q:=by unfold Go.Proofs.YtaafmkmdfcgeaaaGreatDoor.o1;exact h
theorem Um{f:α->γ}{x:α}(h:Wp k Q):Wp (mv f x k) Q:=by unfold Go.Proofs.YtaafmkmdfcgeaaaGreatDoor.mv;exact h
theorem aX{t:Nat}{f:α->DV}{y:α}{k:α->Option β}(h:Wp (k y) Q):Wp (eE t f y k) Q:=by unfold eE;exact h
theorem fH{γ:Type}{t:Nat}{f:γ->List DV}{F:Nat->γ}(h:Wp k Q):Wp (ea t f F k) Q:=by unfold Go.Proofs.YtaafmkmdfcgeaaaGreatDoor.ea;exact h
theorem nY{γ:Type}{t:Nat}{v:γ}(h:Wp k Q):Wp (eb t v k) Q:=by unfold Go.Proofs.YtaafmkmdfcgeaaaGreatDoor.eb;exact h
theorem Wp.dX{r i m:Nat}(h:Wp k Q):Wp (dX r i m k) Q:=by unfold Go.Proofs.YtaafmkmdfcgeaaaGreatDoor.dX;exact h
theorem cX{K:S->Option β}{rid:Nat}{u ke kh:List Nat}{ne:S->Ev->Ev}{nh:S->eW->eW}(h:Wp b Q):Wp (jn K rid u ke kh ne nh b) Q:=by unfold Go.Proofs.YtaafmkmdfcgeaaaGreatDoor.jn;exact h
theorem EO{v:α⊕γ}{f:α->Option β}{g:γ->Option β}(h1:∀x,v = .inl x->Wp (f x) Q)(h2:∀x,v = .inr x->Wp (g x) Q):Wp (sm v f g) Q:=by
 unfold Go.Proofs.YtaafmkmdfcgeaaaGreatDoor.sm;cases v with
 |inl x=>exact h1 x rfl
 |inr x=>exact h2 x rfl
theorem gX{c:Bool}{z:β}(h1:c=true->Wp b Q)(h2:c=false->Q z):Wp (gb c z b) Q:=by
 unfold gb;cases c with
 |true=>exact h1 rfl
 |false=>exact⟨z,rfl,h2 rfl⟩
theorem Jt{xs:List β}{j:Nat}(h:j<xs.length)(g:∀x,xs[j]? = some x->x∈xs->Q x):Wp (idx xs (j:Int)) Q :=
 ⟨xs[j],aeD,g _ (List.getElem?_eq_getElem h) (List.getElem_mem h)⟩
theorem CW{xs:List β}{i:Int}(h0:0<=i)(h:i<xs.length)(g:∀x,xs[i.toNat]? = some x->x∈xs->Q x):Wp (idx xs i) Q:=by
 have:=Jt (xs:=xs) (j:=i.toNat) (Q:=Q) ah g
 rwa [Int.toNat_of_nonneg h0]at this
def Rdn(N:S->Prop)(D:E->Prop):xy S E->Prop
 |.next s=>N s
 |.done e=>D e
theorem MM{body:Nat->S->Option S}(I:Nat->S->Prop):∀(m k:Nat) (s:S),I k s->(∀j s,k<=j->j<k+m->I j s->Wp (body j s) (I (j+1)))->Wp (Kg body m k s) (I (k+m))
 |0,k,s,h0,_=>⟨s,rfl,h0⟩
 |m+1,k,s,h0,h=>by
  obtain⟨s',e,h1⟩:=h k s (Nat.le_refl _) ah h0;unfold Kg;rw[e,Option.bind_some];have:=MM I m (k+1) s' h1 (λj s a b c=>h j s ah ah c)
  rwa [show k+1+m=k+(m+1) by omega]at this
theorem Wp.fM{mx n:Int}{body:Nat->S->Option S}{s0:S}{P:S->Prop}(I:Nat->S->Prop)(hx:n<=mx)(h0:I 0 s0)(hb:∀(j:Nat) (s:S),(j:Int)<n->I j s->Wp (body j s) (I (j+1)))(hP:∀s:S,I n.toNat s->P s):Wp (Ho mx n body s0) P:=by
 unfold Ho;rw[tA hx];have:=MM I n.toNat 0 s0 h0 (λj s _ b c=>hb j s ah c);rw[Nat.zero_add]at this;exact this.imp hP
theorem cC{ct:Nat}{u ke kh:List Nat}{ne:S->Ev->Ev}{nh:S->eW->eW}{w:List Wk}{l:Rn}{mx n:Int}{body:Nat->S->Option S}{s0:S}{k:S->Option β}(I:Nat->S->Prop)(hx:n<=mx)(h0:I 0 s0)(hb:∀(j:Nat) (s:S),(j:Int)<n->I j s->Wp (body j s) (I (j+1)))(hk:∀s:S,I n.toNat s->Wp (k s) Q):Wp (fL s0 ct u ke kh ne nh w l mx n body k) Q:=by
 unfold Go.Proofs.YtaafmkmdfcgeaaaGreatDoor.fL;obtain⟨s,e,h⟩:=Wp.fM (P:=λs=>Wp (k s) Q) I hx h0 hb hk;rw[e];exact h
theorem RS{body:Nat->S->Option (xy S E)}(I:Nat->S->Prop)(D:E->Prop):∀(m k:Nat) (s:S),I k s->(∀j s,k<=j->j<k+m->I j s->Wp (body j s) (Rdn (I (j+1)) D))->Wp (RT body m k s) (Rdn (I (k+m)) D)
 |0,k,s,h0,_=>⟨.next s,rfl,h0⟩
 |m+1,k,s,h0,h=>by
  obtain⟨t,e,h1⟩:=h k s (Nat.le_refl _) ah h0;unfold RT;rw[e,Option.bind_some];cases t with
  |done e'=>exact⟨_,rfl,h1⟩
  |next s'=>
   have:=RS I D m (k+1) s' h1 (λj s a b c=>h j s ah ah c)
   rwa [show k+1+m=k+(m+1) by omega]at this
theorem eS{ct:Nat}{u ke kh:List Nat}{ne:S->Ev->Ev}{nh:S->eW->eW}{w:List Wk}{l:Rn}{mx n:Int}{body:Nat->S->Option (xy S E)}{s0:S}{k:xy S E->Option β}(I:Nat->S->Prop)(hx:n<=mx)(h0:I 0 s0)(hb:∀(j:Nat) (s:S),(j:Int)<n->I j s->Wp (body j s) (Rdn (I (j+1)) λe=>Wp (k (.done e)) Q))(hk:∀s:S,I n.toNat s->Wp (k (.next s)) Q):Wp (fO s0 ct u ke kh ne nh w l mx n body k) Q:=by
 unfold Go.Proofs.YtaafmkmdfcgeaaaGreatDoor.fO Xy;rw[tA hx];obtain⟨t,e,h⟩:=RS I (λe=>Wp (k (.done e)) Q) n.toNat 0 s0 h0 (λj s _ b c=>hb j s ah c);rw[e];cases t with
 |next s=>rw[Nat.zero_add]at h;exact hk s h
 |done e'=>exact h
theorem jR{u ke kh:List Nat}{ne:S->Ev->Ev}{nh:S->eW->eW}{w:List Wk}{l:Rn}{step:S->Option (xy S E)}{s0:S}{k:E->Option β}(I:S->Prop)(μ:S->Nat)(h0:I s0)(hm:μ s0<1180591620717411303424)(hb:∀s,I s->Wp (step s) (Rdn (λs'=>I s'∧μ s'<μ s) λe=>Wp (k e) Q)):Wp (wL s0 u ke kh ne nh w l step k) Q:=by
 unfold Go.Proofs.YtaafmkmdfcgeaaaGreatDoor.wL
 obtain⟨e,h1,h2⟩:=Uq I μ (λe=>Wp (k e) Q) h0 hm (λs hs=>by
  obtain⟨t,e,h⟩:=hb s hs;cases t with
  |next s'=>exact .inl ⟨s',e,h⟩
  |done e'=>exact .inr ⟨e',e,h⟩)
 rw[h1];exact h2
end
abbrev E5:=aw
abbrev Mk:=ax
def nm(c k:Nat):ByteArray:=⟨#[c.toUInt8,(48+k).toUInt8]⟩
theorem anQ:bQ 120 3=some [nm 120 0,nm 120 1,nm 120 2]:=bp
theorem akA:bQ 112 2=some [nm 112 0,nm 112 1]:=bp
theorem akB:bQ 102 2=some [nm 102 0,nm 102 1]:=bp
theorem ahk:bQ 104 3=some [nm 104 0,nm 104 1,nm 104 2]:=bp
abbrev Nd:=Int->ByteArray->Int->List DV->DV
def Zw:Nd:=λop s n a=>ib ⟨op,s,n,a⟩
inductive qU(mk:Nd)(I T Pn:Int):Nat->DV->Prop
 |lit {d:Nat} {n:Int}:0<=n->n<9->qU mk I T Pn (d+1) (mk 1 ByteArray.empty n [])
 |var {d i:Nat}:(i:Int)<I->qU mk I T Pn (d+1) (mk 5 (nm 120 i) 0 [])
 |par {d i:Nat}:(i:Int)<Pn->qU mk I T Pn (d+1) (mk 5 (nm 112 i) 0 [])
 |now {d:Nat}:qU mk I T Pn (d+1) (mk 4 ByteArray.empty 0 [])
 |get {d:Nat} {a:DV}:0<T->qU mk I T Pn d a->qU mk I T Pn (d+1) (mk 6 (nm 116 0) 0 [a])
 |size {d:Nat}:0<T->qU mk I T Pn (d+1) (mk 8 (nm 116 0) 0 [])
 |neg {d:Nat} {a:DV}:qU mk I T Pn d a->qU mk I T Pn (d+1) (mk 9 ByteArray.empty 0 [a])
 |bin {d:Nat} {op:Int} {a b:DV}:11<=op->op<=15->qU mk I T Pn d a->qU mk I T Pn d b->qU mk I T Pn (d+1) (mk op ByteArray.empty 0 ([a,b]))
inductive xu(mk:Nd)(I T F Pn:Int):Nat->DV->Prop
 |lit {d:Nat} {op:Int}:2<=op->op<=3->xu mk I T F Pn (d+1) (mk op ByteArray.empty 0 [])
 |b0 {d:Nat}:xu mk I T F Pn (d+1) (mk 5 (nm 98 0) 0 [])
 |flag {d i:Nat}:(i:Int)<F->xu mk I T F Pn (d+1) (mk 5 (nm 102 i) 0 [])
 |has {d:Nat} {a:DV}:0<T->qU mk I T Pn d a->xu mk I T F Pn (d+1) (mk 7 (nm 116 0) 0 [a])
 |not {d:Nat} {a:DV}:xu mk I T F Pn d a->xu mk I T F Pn (d+1) (mk 10 ByteArray.empty 0 [a])
 |con {d:Nat} {op:Int} {a b:DV}:22<=op->op<=23->xu mk I T F Pn d a->xu mk I T F Pn d b->xu mk I T F Pn (d+1) (mk op ByteArray.empty 0 ([a,b]))
 |cmp {d:Nat} {op:Int} {a b:DV}:16<=op->op<=21->qU mk I T Pn d a->qU mk I T Pn d b->xu mk I T F Pn (d+1) (mk op ByteArray.empty 0 ([a,b]))
structure KE(m:Mk):Prop where
 i1:1<=m.lV
 i3:m.lV<=3
 t0:0<=m.cK
 f0:0<=m.dN
 f2:m.dN<=2
 p0:0<=m.eM
 p2:m.eM<=2
 by8:∀b∈m.sP,0<=b∧b<256
 bl:m.sP.length<=40
structure Sm(m n:Mk):Prop where
 ints:n.lV=m.lV
 tables:n.cK=m.cK
 flags:n.dN=m.dN
 own:n.kS=m.kS
 ar:n.eZ=m.eZ
 params:n.eM=m.eM
 left:n.qj=m.qj
 bytes:n.sP.length<=m.sP.length
 sub:∀b∈n.sP,b∈m.sP
theorem Sm.refl(m:Mk):Sm m m:=⟨rfl,rfl,rfl,rfl,rfl,rfl,rfl,Nat.le_refl _,λ_ h=>h⟩
theorem Sm.trans{a b c:Mk}(h:Sm a b)(k:Sm b c):Sm a c:=⟨k.ints.trans h.ints,k.tables.trans h.tables,k.flags.trans h.flags,k.own.trans h.own,k.ar.trans h.ar,k.params.trans h.params,k.left.trans h.left,Nat.le_trans k.bytes h.bytes,λx hx=>h.sub x (k.sub x hx)⟩
theorem KE.of{m n:Mk}(h:KE m)(k:Sm m n):KE n:=⟨k.ints ▸ h.i1,k.ints ▸ h.i3,k.tables ▸ h.t0,k.flags ▸ h.f0,k.flags ▸ h.f2,k.params ▸ h.p0,k.params ▸ h.p2,λb hb=>h.by8 b (k.sub b hb),Nat.le_trans k.bytes h.bl⟩
theorem oB{m:Mk}{n:Int}(h:KE m)(hn:0<n):Wp (bV n m) λr=>0<=r.1∧r.1<n∧Sm m r.2:=by
 unfold bV;refine aq (λhb=>?_) (λhb=>?_)
 .exact aL (aj ⟨Int.le_refl _,hn,Sm.refl _⟩)
 .have hl:0<m.sP.length:=by
   simp at hb;exact List.length_pos_iff.2 hb
  refine mC (Jt (j:=0) hl (λv hv hm=>?_));have hv8:=h.by8 v hm;have hw:IntKind.wrap .i64 v=v:=tX;refine aK vI (aK (by rw[hw];exact⟨hv8.1,hn⟩) (aL (aj ?_)));rw[hw];refine⟨Int.emod_nonneg _ ah,Int.emod_lt_of_pos _ hn,⟨rfl,rfl,rfl,rfl,rfl,rfl,rfl,?_,?_⟩⟩
  .simp
  .intro b hb;exact List.mem_of_mem_drop hb
theorem Fc{m:Mk}(h:KE m):Wp (eu m) λr=>(∃i:Nat,(i:Int)<m.lV∧r.1=nm 120 i)∧Sm m r.2:=by
 unfold eu;refine aF anQ ?_;refine av (aW (oB h (by have:=h.i1;omega))) ?_;rintro⟨v,n⟩ ⟨h0,h1,hs⟩;dsimp only at h0 h1 hs |-;have h3:=h.i3;obtain⟨j,rfl⟩:=Int.eq_ofNat_of_zero_le h0;have hj:j<3:=ah
 have e:idx [nm 120 0,nm 120 1,nm 120 2] (j:Int)=some (nm 120 j):=by
  rw[fW]
  match j,hj with
  |0,_=>rfl
  |1,_=>rfl
  |2,_=>rfl
 refine aF e (aL (aj ⟨⟨j,h1,rfl⟩,hs⟩))
theorem Mw:∀(k fu:Nat) (x1:Int) (m:Mk),k<fu->k<=3->x1=3-(k:Int)->KE m->Wp (bH fu x1 m) λr=>qU Zw m.lV m.cK m.eM (k+1) (ib r.1)∧Sm m r.2:=by
 intro k
 induction k with
 |zero=>
  intro fu x1 m hf _ hx h;obtain⟨fu,rfl⟩:∃g,fu=g+1:=⟨fu-1,ah⟩;unfold bH iE;refine av (aW (oB h ah)) ?_;rintro⟨v,n⟩ ⟨v0,v1,hs⟩;dsimp only at v0 v1 hs |-;have hn:=h.of hs;refine aq (λhb=>?_) (λhb=>?_)
  .refine av (aW (oB hn ah)) ?_
   rintro⟨w,n'⟩ ⟨w0,w1,jI⟩;exact aL (aj ⟨.lit w0 w1,hs.trans jI⟩)
  refine aq (λAp=>?_) (λAp=>?_)
  .refine av (aW (Fc hn)) ?_
   rintro⟨w,n'⟩ ⟨⟨i,hi,rfl⟩,jI⟩;exact aL (aj ⟨.var adT,hs.trans jI⟩)
  have hv:v=4∨v=5:=by
   simp at hb Ap;omega
  refine aq (λGH=>?_) (λGH=>?_)
  .have hp:n.eM≠0:=by
    intro e;simp at Ap GH;omega
   have hp0:=hn.p0;have hp2:=hn.p2;refine aF akA ?_;refine av (aW (oB hn ah)) ?_;rintro⟨w,n'⟩ ⟨w0,w1,jI⟩;dsimp only at w0 w1 jI |-;obtain⟨j,rfl⟩:=Int.eq_ofNat_of_zero_le w0;have hj:j<2:=ah
   have e:idx [nm 112 0,nm 112 1] (j:Int)=some (nm 112 j):=by
    rw[fW]
    match j,hj with
    |0,_=>rfl
    |1,_=>rfl
   exact aF e (aL (aj ⟨.par ad2,hs.trans jI⟩))
  refine aq (λHJ=>?_) (λHJ=>?_)
  .exact aL (aj ⟨.now,hs⟩)
  .exfalso;simp at GH HJ;omega
 |succ k ih=>
  intro fu x1 m hf hk hx h;obtain⟨fu,rfl⟩:∃g,fu=g+1:=⟨fu-1,ah⟩;have hw:IntKind.wrap .i64 (x1+1)=3-(k:Int):=tX;unfold bH iE;rw[hw]
  have rc:∀{n:Mk},Sm m n->Wp (bH fu (3-(k:Int)) n) λr=>qU Zw m.lV m.cK m.eM (k+1) (ib r.1)∧Sm m r.2:=by
   intro n hs;refine(ih fu _ n ah ah rfl (h.of hs)).imp ?_;rintro r ⟨h1,h2⟩;rw[hs.ints,hs.tables,hs.params]at h1;exact⟨h1,hs.trans h2⟩
  refine av (aW (oB h ah)) ?_;rintro⟨v,n⟩ ⟨v0,v1,hs⟩;dsimp only at v0 v1 hs |-;have hn:=h.of hs;refine aq (λhb=>?_) (λhb=>?_)
  .refine av (aW (oB hn ah)) ?_
   rintro⟨w,n'⟩ ⟨w0,w1,jI⟩;exact aL (aj ⟨.lit w0 w1,hs.trans jI⟩)
  refine aq (λAp=>?_) (λAp=>?_)
  .refine av (aW (Fc hn)) ?_
   rintro⟨w,n'⟩ ⟨⟨i,hi,rfl⟩,jI⟩;exact aL (aj ⟨.var adT,hs.trans jI⟩)
  refine aq (λGH=>?_) (λGH=>?_)
  .have hp:n.eM≠0:=by
    intro e;simp at Ap GH;omega
   have hp0:=hn.p0;have hp2:=hn.p2;refine aF akA ?_;refine av (aW (oB hn ah)) ?_;rintro⟨w,n'⟩ ⟨w0,w1,jI⟩;dsimp only at w0 w1 jI |-;obtain⟨j,rfl⟩:=Int.eq_ofNat_of_zero_le w0;have hj:j<2:=ah
   have e:idx [nm 112 0,nm 112 1] (j:Int)=some (nm 112 j):=by
    rw[fW]
    match j,hj with
    |0,_=>rfl
    |1,_=>rfl
   exact aF e (aL (aj ⟨.par ad2,hs.trans jI⟩))
  refine aq (λHJ=>?_) (λHJ=>?_)
  .exact aL (aj ⟨.now,hs⟩)
  refine aq (λYD=>?_) (λYD=>?_)
  .have ht:0<m.cK:=by rw[<-hs.tables];simp at YD;exact YD.2
   refine av (aW (rc hs)) ?_;rintro⟨e,n'⟩ ⟨h1,h2⟩;exact aX (cV (aL (aj ⟨.get ht h1,h2⟩)))
  refine aq (λhb6=>?_) (λhb6=>?_)
  .have ht:0<m.cK:=by rw[<-hs.tables];simp at hb6;exact hb6.2
   exact aL (aj ⟨.size ht,hs⟩)
  refine aq (λhb7=>?_) (λhb7=>?_)
  .refine av (aW (rc hs)) ?_
   rintro⟨e,n'⟩ ⟨h1,h2⟩;exact aX (cV (aL (aj ⟨.neg h1,h2⟩)))
  refine aX ?_;refine av (aW (oB hn ah)) ?_;rintro⟨w,n'⟩ ⟨w0,w1,jI⟩;dsimp only at w0 w1 jI |-
  obtain⟨op,ho,o1,o2⟩:∃op,idx ([14,15,11,12,13,14]:List Int) w=some op∧11<=op∧op<=15:=by
   obtain⟨j,rfl⟩:=Int.eq_ofNat_of_zero_le w0;have hj:j<6:=ah;rw[fW]
   match j,hj with
   |0,_=>exact⟨14,rfl,aV,aV⟩
   |1,_=>exact⟨15,rfl,aV,aV⟩
   |2,_=>exact⟨11,rfl,aV,aV⟩
   |3,_=>exact⟨12,rfl,aV,aV⟩
   |4,_=>exact⟨13,rfl,aV,aV⟩
   |5,_=>exact⟨14,rfl,aV,aV⟩
  refine aF ho ?_;refine av (aW (rc (hs.trans jI))) ?_;rintro⟨e,n1⟩ ⟨h1,h2⟩;refine av (aW (rc h2)) ?_;rintro⟨e2,n2⟩ ⟨h3,h4⟩;exact aX (cV (aL (aj ⟨.bin o1 o2 h1 h3,h4⟩)))
theorem qU.mono{mk:Nd}{I T Pn:Int}{d:Nat}{x:DV}(h:qU mk I T Pn d x):∀{d':Nat},d<=d'->qU mk I T Pn d' x:=by
 induction h with
 |lit a b=>intro d' hd;obtain⟨e,rfl⟩:∃e,d'=e+1:=⟨d'-1,ah⟩;exact .lit a b
 |var a=>intro d' hd;obtain⟨e,rfl⟩:∃e,d'=e+1:=⟨d'-1,ah⟩;exact .var a
 |par a=>intro d' hd;obtain⟨e,rfl⟩:∃e,d'=e+1:=⟨d'-1,ah⟩;exact .par a
 |now=>intro d' hd;obtain⟨e,rfl⟩:∃e,d'=e+1:=⟨d'-1,ah⟩;exact .now
 |get a b ih=>intro d' hd;obtain⟨e,rfl⟩:∃e,d'=e+1:=⟨d'-1,ah⟩;exact .get a (ih ah)
 |size a=>intro d' hd;obtain⟨e,rfl⟩:∃e,d'=e+1:=⟨d'-1,ah⟩;exact .size a
 |neg b ih=>intro d' hd;obtain⟨e,rfl⟩:∃e,d'=e+1:=⟨d'-1,ah⟩;exact .neg (ih ah)
 |bin a b c d ih1 ih2=>intro d' hd;obtain⟨e,rfl⟩:∃e,d'=e+1:=⟨d'-1,ah⟩;exact .bin a b (ih1 ah) (ih2 ah)
theorem zr{m n:Mk}(h:KE m)(hs:Sm m n):Wp (bH 64 1 n) λr=>qU Zw m.lV m.cK m.eM 3 (ib r.1)∧Sm m r.2:=by
 refine(Mw 2 64 1 n ah ah ah (h.of hs)).imp ?_;rintro r ⟨h1,h2⟩;rw[hs.ints,hs.tables,hs.params]at h1;exact⟨h1,hs.trans h2⟩
theorem ahj{m n:Mk}(h:KE m)(hs:Sm m n):Wp (bH 64 0 n) λr=>qU Zw m.lV m.cK m.eM 4 (ib r.1)∧Sm m r.2:=by
 refine(Mw 3 64 0 n ah ah ah (h.of hs)).imp ?_;rintro r ⟨h1,h2⟩;rw[hs.ints,hs.tables,hs.params]at h1;exact⟨h1,hs.trans h2⟩
theorem abI:∀(k fu:Nat) (x1:Int) (m:Mk),k<fu->k<=2->x1=2-(k:Int)->KE m->Wp (dU fu x1 m) λr=>xu Zw m.lV m.cK m.dN m.eM (k+4) (ib r.1)∧Sm m r.2:=by
 intro k
 induction k with
 |zero=>
  intro fu x1 m hf hk hx h;obtain⟨fu,rfl⟩:∃g,fu=g+1:=⟨fu-1,ah⟩;unfold dU iX;refine av (aW (oB h ah)) ?_;rintro⟨v,n⟩ ⟨v0,v1,hs⟩;dsimp only at v0 v1 hs |-;have hn:=h.of hs;refine aq (λhb=>?_) (λhb=>?_)
  .refine av (aW (oB hn ah)) ?_
   rintro⟨w,n'⟩ ⟨w0,w1,jI⟩;dsimp only at w0 w1 jI |-;have hw:IntKind.wrap .i64 (2+w)=2+w:=tX;rw[hw];exact aL (aj ⟨.lit ah ah,hs.trans jI⟩)
  refine aq (λAp=>?_) (λAp=>?_)
  .exact aL (aj ⟨.b0,hs⟩)
  refine aq (λGH=>?_) (λGH=>?_)
  .have hp:0<n.dN:=by simp at GH;exact GH.2
   have hp2:=hn.f2;refine aF akB ?_;refine av (aW (oB hn hp)) ?_;rintro⟨w,n'⟩ ⟨w0,w1,jI⟩;dsimp only at w0 w1 jI |-;obtain⟨j,rfl⟩:=Int.eq_ofNat_of_zero_le w0;have hj:j<2:=ah
   have e:idx [nm 102 0,nm 102 1] (j:Int)=some (nm 102 j):=by
    rw[fW]
    match j,hj with
    |0,_=>rfl
    |1,_=>rfl
   exact aF e (aL (aj ⟨.flag adX,hs.trans jI⟩))
  refine aq (λHJ=>?_) (λHJ=>?_)
  .have ht:0<m.cK:=by rw[<-hs.tables];simp at HJ;exact HJ.2
   refine av (aW (zr h hs)) ?_;rintro⟨e,n'⟩ ⟨h1,h2⟩;exact aX (cV (aL (aj ⟨.has ht h1,h2⟩)))
  refine aq (λYD=>?_) (λYD=>?_)
  .exfalso;simp at YD Ap;omega
  refine aq (λhb6=>?_) (λhb6=>?_)
  .exfalso;simp at hb6 Ap;omega
  refine av (aW (oB hn ah)) ?_;rintro⟨w,n'⟩ ⟨w0,w1,jI⟩;dsimp only at w0 w1 jI |-;refine av (aW (zr h (hs.trans jI))) ?_;rintro⟨e,n1⟩ ⟨h1,h2⟩;refine av (aW (zr h h2)) ?_;rintro⟨e2,n2⟩ ⟨h3,h4⟩;have hw:IntKind.wrap .i64 (16+w)=16+w:=tX;rw[hw];exact aX (cV (aL (aj ⟨.cmp ah ah h1 h3,h4⟩)))
 |succ k ih=>
  intro fu x1 m hf hk hx h;obtain⟨fu,rfl⟩:∃g,fu=g+1:=⟨fu-1,ah⟩;have hw:IntKind.wrap .i64 (x1+1)=2-(k:Int):=tX;unfold dU iX;rw[hw]
  have rc:∀{n:Mk},Sm m n->Wp (dU fu (2-(k:Int)) n) λr=>xu Zw m.lV m.cK m.dN m.eM (k+4) (ib r.1)∧Sm m r.2:=by
   intro n hs;refine(ih fu _ n ah ah rfl (h.of hs)).imp ?_;rintro r ⟨h1,h2⟩;rw[hs.ints,hs.tables,hs.flags,hs.params]at h1;exact⟨h1,hs.trans h2⟩
  refine av (aW (oB h ah)) ?_;rintro⟨v,n⟩ ⟨v0,v1,hs⟩;dsimp only at v0 v1 hs |-;have hn:=h.of hs;refine aq (λhb=>?_) (λhb=>?_)
  .refine av (aW (oB hn ah)) ?_
   rintro⟨w,n'⟩ ⟨w0,w1,jI⟩;dsimp only at w0 w1 jI |-;have hw:IntKind.wrap .i64 (2+w)=2+w:=tX;rw[hw];exact aL (aj ⟨.lit ah ah,hs.trans jI⟩)
  refine aq (λAp=>?_) (λAp=>?_)
  .exact aL (aj ⟨.b0,hs⟩)
  refine aq (λGH=>?_) (λGH=>?_)
  .have hp:0<n.dN:=by simp at GH;exact GH.2
   have hp2:=hn.f2;refine aF akB ?_;refine av (aW (oB hn hp)) ?_;rintro⟨w,n'⟩ ⟨w0,w1,jI⟩;dsimp only at w0 w1 jI |-;obtain⟨j,rfl⟩:=Int.eq_ofNat_of_zero_le w0;have hj:j<2:=ah
   have e:idx [nm 102 0,nm 102 1] (j:Int)=some (nm 102 j):=by
    rw[fW]
    match j,hj with
    |0,_=>rfl
    |1,_=>rfl
   exact aF e (aL (aj ⟨.flag adX,hs.trans jI⟩))
  refine aq (λHJ=>?_) (λHJ=>?_)
  .have ht:0<m.cK:=by rw[<-hs.tables];simp at HJ;exact HJ.2
   refine av (aW (zr h hs)) ?_;rintro⟨e,n'⟩ ⟨h1,h2⟩;exact aX (cV (aL (aj ⟨.has ht (h1.mono ah),h2⟩)))
  refine aq (λYD=>?_) (λYD=>?_)
  .refine av (aW (rc hs)) ?_
   rintro⟨e,n'⟩ ⟨h1,h2⟩;exact aX (cV (aL (aj ⟨.not h1,h2⟩)))
  refine aq (λhb6=>?_) (λhb6=>?_)
  .have hv:v=6∨v=7:=by simp at hb6;exact hb6
   refine av (aW (rc hs)) ?_;rintro⟨e,n1⟩ ⟨h1,h2⟩;refine av (aW (rc h2)) ?_;rintro⟨e2,n2⟩ ⟨h3,h4⟩;have hw:IntKind.wrap .i64 (16+v)=16+v:=tX;rw[hw];exact aX (cV (aL (aj ⟨.con ah ah h1 h3,h4⟩)))
  refine av (aW (oB hn ah)) ?_;rintro⟨w,n'⟩ ⟨w0,w1,jI⟩;dsimp only at w0 w1 jI |-;refine av (aW (zr h (hs.trans jI))) ?_;rintro⟨e,n1⟩ ⟨h1,h2⟩;refine av (aW (zr h h2)) ?_;rintro⟨e2,n2⟩ ⟨h3,h4⟩;have hw:IntKind.wrap .i64 (16+w)=16+w:=tX;rw[hw];exact aX (cV (aL (aj ⟨.cmp ah ah (h1.mono ah) (h3.mono ah),h4⟩)))
abbrev Ns:=Int->ByteArray->ByteArray->List DV->List DV->List DV->DV
def ns5:Ns:=λk n h e s t=>Ba ⟨k,n,h,e,s,t⟩
structure SC where
 me:Nd
 ms:Ns
 I:Int
 T:Int
 F:Int
 Pn:Int
 gw:List (List Int)
 own:Int
abbrev SC.N(C:SC)(d:Nat)(x:DV):Prop:=qU C.me C.I C.T C.Pn d x
abbrev SC.B(C:SC)(d:Nat)(x:DV):Prop:=xu C.me C.I C.T C.F C.Pn d x
def cn(k:Nat):ByteArray:=⟨#[(97+k).toUInt8]⟩
inductive oY(C:SC)(B:Nat->List DV->Prop):Nat->DV->Prop
 |set {i:Nat} {e:DV}:(i:Int)<C.I->C.N 4 e->oY C B 1 (C.ms 1 (nm 120 i) ByteArray.empty [e] [] [])
 |Zc {e:DV}:C.B 6 e->oY C B 1 (C.ms 1 (nm 98 0) ByteArray.empty [e] [] [])
 |put {a b:DV}:0<C.T->C.N 4 a->C.N 4 b->oY C B 1 (C.ms 2 (nm 116 0) ByteArray.empty [a,b] [] [])
 |del {a:DV}:0<C.T->C.N 4 a->oY C B 1 (C.ms 3 (nm 116 0) ByteArray.empty [a] [] [])
 |iff {e:DV} {a b:Nat} {s t:List DV}:C.B 6 e->B a s->B b t->oY C B (1+a+b) (C.ms 4 ByteArray.empty ByteArray.empty [e] s t)
 |whl {e:DV} {a:Nat} {s:List DV}:C.B 6 e->B a s->oY C B (1+a) (C.ms 5 ByteArray.empty ByteArray.empty [e] s [])
 |send {i h:Nat} {r:List Int} {k:Int} {l:List DV}:C.gw[i]? = some r->r[h]? = some k->(l.length:Int)=k->(∀e∈l,C.N 3 e)->oY C B 1 (C.ms 6 (cn i) (nm 104 h) l [] [])
 |aft {h:Nat} {r:List Int} {k:Int} {e:DV} {l:List DV}:C.gw[C.own.toNat]? = some r->r[h]? = some k->(l.length:Int)=k->C.N 3 e->(∀e∈l,C.N 3 e)->oY C B 1 (C.ms 7 ByteArray.empty (nm 104 h) (e::l) [] [])
 |store {x y:DV} {a:Nat} {s:List DV}:C.N 3 x->C.N 3 y->B a s->oY C B (1+a) (C.ms 8 ByteArray.empty ByteArray.empty [x,y] [] s)
 |MT {i:Nat} {x:DV} {a:Nat} {s:List DV}:(i:Int)<C.I->C.N 4 x->B a s->oY C B (1+a) (C.ms 9 (nm 120 i) ByteArray.empty [x] [] s)
 |stop:oY C B 1 (C.ms 10 ByteArray.empty ByteArray.empty [] [] [])
inductive DI(S:Nat->DV->Prop):Nat->List DV->Prop
 |nil:DI S 0 []
 |snoc {a b:Nat} {l:List DV} {s:DV}:DI S a l->S b s->DI S (a+b) (l++[s])
def xv(C:SC):Nat->Nat->List DV->Prop
 |0=>DI (oY C λ_ _=>False)
 |d+1=>DI (oY C (xv C d))
def DH(C:SC):Nat->Nat->DV->Prop
 |0=>oY C λ_ _=>False
 |d+1=>oY C (xv C d)
theorem xv.eq(C:SC)(d:Nat):xv C d=DI (DH C d):=by cases d <;> rfl
theorem UX{m n:Mk}{x1:Int}(h:KE m)(hs:Sm m n)(h0:0<=x1)(h3:x1<=3):Wp (fe x1 n) λr=>(r.1.length:Int)=x1∧(∀e∈r.1,qU Zw m.lV m.cK m.eM 3 e)∧Sm m r.2:=by
 unfold fe;refine jR (λs=>0<=s.2.1∧s.2.1<=x1∧(s.1.length:Int)=s.2.1∧(∀e∈s.1,qU Zw m.lV m.cK m.eM 3 e)∧Sm m s.2.2) (λs=>(x1-s.2.1).toNat) ⟨Int.le_refl _,h0,rfl,aR,hs⟩ bB ?_;rintro⟨l,k,n'⟩ ⟨k0,k1,hl,hN,jI⟩;dsimp only at k0 k1 hl hN jI |-;refine aq (λhb=>?_) (λhb=>?_)
 .have hk:k<x1:=by simpa using hb
  refine av (aW (zr h jI)) ?_;rintro⟨e,n2⟩ ⟨h1,h2⟩;dsimp only at h1 h2 |-;have hw:IntKind.wrap .i64 (k+1)=k+1:=tX;refine aX (aK yT (ay (aj ?_)));rw[hw];refine⟨⟨bB,bB,EF,λx hx=>?_,h2⟩,bB⟩;rcases List.mem_append.1 hx with hx|hx
  .exact hN x hx
  .simp at hx;subst hx;exact h1
 .have hk:k=x1:=by simp at hb;omega
  exact aj (cV (aL (aj ⟨bB,hN,jI⟩)))
def Hw(m:Mk):SC:=⟨Zw,ns5,m.lV,m.cK,m.dN,m.eM,m.eZ,m.kS⟩
structure afq(m:Mk):Prop where
 o0:0<=m.kS
 o1:m.kS<m.eZ.length
 a3:m.eZ.length<=3
 r1:∀r∈m.eZ,1<=r.length∧r.length<=3∧∀k∈r,0<=k∧k<=2
 l0:0<=m.qj
 l1:m.qj<=12
structure Ai(m n:Mk)(c:Nat):Prop where
 s:Sm m { n with qj:=m.qj }
 left:n.qj=m.qj-(c:Int)
 l0:0<=n.qj
theorem Ai.refl{m:Mk}(h:0<=m.qj):Ai m m 0:=⟨Sm.refl _,aR,h⟩
theorem Ai.mk'{m n:Mk}{c:Nat}(h:Ai m n c)(hm:KE m):KE n:=by
 have:=hm.of h.s;exact⟨this.i1,this.i3,this.t0,this.f0,this.f2,this.p0,this.p2,this.by8,this.bl⟩
theorem Ai.then{m n p:Mk}{c:Nat}(h:Ai m n c)(k:Sm n p):Ai m p c:=by
 obtain⟨s,l,z⟩:=h;exact⟨⟨k.ints.trans s.ints,k.tables.trans s.tables,k.flags.trans s.flags,k.own.trans s.own,k.ar.trans s.ar,k.params.trans s.params,rfl,Nat.le_trans k.bytes s.bytes,λx hx=>s.sub x (k.sub x hx)⟩,by rw[k.left];exact l,by rw[k.left];exact z⟩
theorem DI.len{S:Nat->DV->Prop}(hS:∀n s,S n s->1<=n){n:Nat}{l:List DV}(h:DI S n l):l.length<=n:=by
 induction h with
 |nil=>exact Nat.le_refl _
 |snoc _ hs ih=>have:=hS _ _ hs;simp only[List.length_append,List.length_singleton];omega
theorem oY.pos{C:SC}{B:Nat->List DV->Prop}{n:Nat}{s:DV}(h:oY C B n s):1<=n:=VD
theorem DH.pos{C:SC}{d n:Nat}{s:DV}(h:DH C d n s):1<=n:=by cases d <;> exact oY.pos h
theorem DH.flat{C:SC}{d n:Nat}{s:DV}(h:∀B,oY C B n s):DH C d n s:=by cases d <;> exact h _
theorem RG{m n:Mk}{c:Nat}(h:KE m)(hs:Ai m n c):Wp (bH 64 0 n) λr=>(Hw m).N 4 (ib r.1)∧Ai m r.2 c:=by
 refine(ahj (hs.mk' h) (Sm.refl n)).imp ?_;rintro r ⟨h1,h2⟩;have e:=hs.s;have e1:=e.ints;have e2:=e.tables;have e3:=e.params;dsimp only at e1 e2 e3;rw[e1,e2,e3]at h1;exact⟨h1,hs.then h2⟩
theorem anK{m n:Mk}{c:Nat}(h:KE m)(hs:Ai m n c):Wp (bH 64 1 n) λr=>(Hw m).N 3 (ib r.1)∧Ai m r.2 c:=by
 refine(zr (hs.mk' h) (Sm.refl n)).imp ?_;rintro r ⟨h1,h2⟩;have e:=hs.s;have e1:=e.ints;have e2:=e.tables;have e3:=e.params;dsimp only at e1 e2 e3;rw[e1,e2,e3]at h1;exact⟨h1,hs.then h2⟩
theorem aj3{m n:Mk}{c:Nat}(h:KE m)(hs:Ai m n c):Wp (dU 64 0 n) λr=>(Hw m).B 6 (ib r.1)∧Ai m r.2 c:=by
 refine(abI 2 64 0 n ah ah ah (hs.mk' h)).imp ?_;rintro r ⟨h1,h2⟩;have e:=hs.s;have e1:=e.ints;have e2:=e.tables;have e3:=e.params;have e4:=e.flags;dsimp only at e1 e2 e3 e4;rw[e1,e2,e3,e4]at h1;exact⟨h1,hs.then h2⟩
theorem an3{m n:Mk}{c:Nat}(h:KE m)(hs:Ai m n c):Wp (eu n) λr=>(∃i:Nat,(i:Int)<(Hw m).I∧r.1=nm 120 i)∧Ai m r.2 c:=by
 refine(Fc (hs.mk' h)).imp ?_;rintro r ⟨⟨i,h1,h3⟩,h2⟩;have e1:=hs.s.ints;dsimp only at e1;exact⟨⟨i,by unfold Hw;dsimp only;rw[<-e1];exact h1,h3⟩,hs.then h2⟩
theorem Zv{m n:Mk}{c:Nat}{k:Int}(h:KE m)(hs:Ai m n c)(hk:0<k):Wp (bV k n) λr=>0<=r.1∧r.1<k∧Ai m r.2 c:=by
 refine(oB (hs.mk' h) hk).imp ?_;rintro r ⟨h1,h2,h3⟩;exact⟨h1,h2,hs.then h3⟩
theorem akz{m n:Mk}{c:Nat}{k:Int}(h:KE m)(hs:Ai m n c)(h0:0<=k)(h3:k<=3):Wp (fe k n) λr=>(r.1.length:Int)=k∧(∀e∈r.1,(Hw m).N 3 e)∧Ai m r.2 c:=by
 refine(UX (hs.mk' h) (Sm.refl n) h0 h3).imp ?_;rintro r ⟨h1,h2,h3⟩;have e:=hs.s;have e1:=e.ints;have e2:=e.tables;have e3:=e.params;dsimp only at e1 e2 e3;rw[e1,e2,e3]at h2;exact⟨h1,h2,hs.then h3⟩
theorem Ai.tab{m n:Mk}{c:Nat}(hs:Ai m n c):n.cK=m.cK:=hs.s.tables
theorem Ai.arr{m n:Mk}{c:Nat}(hs:Ai m n c):n.eZ=m.eZ:=hs.s.ar
theorem Ai.ow{m n:Mk}{c:Nat}(hs:Ai m n c):n.kS=m.kS:=hs.s.own
theorem la{α:Type}{xs:List α}{i:Int}(h0:0<=i)(h:i<xs.length):∃x,idx xs i=some x∧xs[i.toNat]? = some x∧x∈xs:=by
 obtain⟨j,rfl⟩:=Int.eq_ofNat_of_zero_le h0;have hj:j<xs.length:=ah;exact⟨xs[j],by rw[fW];exact List.getElem?_eq_getElem hj,by simp[hj],List.getElem_mem hj⟩
theorem OU{i:Int}(h0:0<=i)(h:i<3):idx [nm 104 0,nm 104 1,nm 104 2] i=some (nm 104 i.toNat):=by
 obtain⟨j,rfl⟩:=Int.eq_ofNat_of_zero_le h0;have hj:j<3:=ah;rw[fW]
 match j,hj with
 |0,_=>rfl
 |1,_=>rfl
 |2,_=>rfl
theorem XG{i:Int}(h0:0<=i)(h:i<3):idx [⟨#[97]⟩,⟨#[98]⟩,⟨#[99]⟩] i=some (cn i.toNat):=by
 obtain⟨j,rfl⟩:=Int.eq_ofNat_of_zero_le h0;have hj:j<3:=ah;rw[fW]
 match j,hj with
 |0,_=>rfl
 |1,_=>rfl
 |2,_=>rfl
def afg(m:Mk)(d:Nat)(sf:Int->Mk->Option (List DV×Mk)):Prop:=∀(e:Nat),d=e+1->∀(n:Mk) (c:Nat),Ai m n c->Wp (sf (3-(e:Int)) n) λr=>∃a,xv (Hw m) e a r.1∧Ai m r.2 (c+a)
theorem agT{m n:Mk}{c d:Nat}{x1:Int}{sf:Int->Mk->Option (List DV×Mk)}(h:KE m)(ha:afq m)(hB:afg m d sf)(hd3:d<=3)(hs:Ai m n c) :
  Wp (jk sf x1 (3-(d:Int)) n) λr=>∃a,DH (Hw m) d (a+1) (Ba r.1)∧Ai m r.2 (c+a):=by
 unfold jk
 have nest:∀{n:Mk} {c:Nat},decide (3-(d:Int)<3)=true->Ai m n c->∃e,d=e+1∧Wp (sf (IntKind.wrap .i64 (3-(d:Int)+1)) n) λr=>∃a,xv (Hw m) e a r.1∧Ai m r.2 (c+a):=by
  intro n c hd hs;have:0<d:=by simp at hd;omega
  obtain⟨e,rfl⟩:∃e,d=e+1:=⟨d-1,ah⟩;have hw:IntKind.wrap .i64 (3-((e+1:Nat):Int)+1)=3-(e:Int):=tX;rw[hw];exact⟨e,rfl,hB e rfl n c hs⟩
 have fl:∀{s:DV} {r:Mk} {c:Nat},(∀B,oY (Hw m) B 1 s)->Ai m r c->∃a,DH (Hw m) d (a+1) s∧Ai m r (c+a):=λhf hs=>⟨0,DH.flat hf,hs⟩
 have o0:=ha.o0;have o1:=ha.o1;have a3:=ha.a3;refine aq (λhb=>?_) (λhb=>?_)
 .refine av (aW (aj3 h hs)) ?_
  rintro⟨e,n1⟩ ⟨h1,h2⟩;exact aX (cV (aL (aj (fl (λB=>.Zc h1) h2))))
 refine aq (λAp=>?_) (λAp=>?_)
 .have ht:0<(Hw m).T:=by simp at Ap;unfold Hw;rw[<-hs.tab];exact Ap.2
  refine av (aW (RG h hs)) ?_;rintro⟨e,n1⟩ ⟨h1,h2⟩;refine av (aW (RG h h2)) ?_;rintro⟨e2,n2⟩ ⟨h3,h4⟩;exact aX (cV (aL (aj (fl (λB=>.put ht h1 h3) h4))))
 refine aq (λGH=>?_) (λGH=>?_)
 .have ht:0<(Hw m).T:=by simp at GH;unfold Hw;rw[<-hs.tab];exact GH.2
  refine av (aW (RG h hs)) ?_;rintro⟨e,n1⟩ ⟨h1,h2⟩;exact aX (cV (aL (aj (fl (λB=>.del ht h1) h2))))
 refine aq (λHJ=>?_) (λHJ=>?_)
 .have hd:decide (3-(d:Int)<3)=true:=by
   cases hq:decide (3-(d:Int)<3)with
   |true=>rfl
   |false=>rw[hq]at HJ;simp at HJ
  refine av (aW (aj3 h hs)) ?_;rintro⟨e,n1⟩ ⟨h1,h2⟩;obtain⟨e0,rfl,hw⟩:=nest hd h2;refine av (aW hw) ?_;rintro⟨b1,n2⟩ ⟨a,h3,h4⟩;refine aX ?_;obtain⟨e1,he,hw2⟩:=nest hd h4;obtain rfl:e0=e1:=ah;refine av (aW hw2) ?_;rintro⟨b2,n3⟩ ⟨b,h5,h6⟩;refine cV (aL (aj ⟨a+b,?_,by rw[<-Nat.add_assoc];exact h6⟩));have:=oY.iff (C:=Hw m) (B:=xv (Hw m) e0) h1 h3 h5;rw[show 1+a+b=a+b+1 by omega]at this;exact this
 refine aq (λYD=>?_) (λYD=>?_)
 .have hd:decide (3-(d:Int)<3)=true:=by simp at YD |-;omega
  refine av (aW (aj3 h hs)) ?_;rintro⟨e,n1⟩ ⟨h1,h2⟩;refine aX ?_;obtain⟨e0,rfl,hw⟩:=nest hd h2;refine av (aW hw) ?_;rintro⟨b1,n2⟩ ⟨a,h3,h4⟩;refine cV (aL (aj ⟨a,?_,h4⟩));have:=oY.whl (C:=Hw m) (B:=xv (Hw m) e0) h1 h3;rw[Nat.add_comm 1 a]at this;exact this
 refine aq (λhb6=>?_) (λhb6=>?_)
 .refine av (aW (Zv h hs (by rw[hs.arr];omega))) ?_
  rintro⟨i,n1⟩ ⟨i0,i1,h1⟩;dsimp only at i0 i1 h1 |-;rw[hs.arr]at i1;rw[h1.arr];obtain⟨r,r1,r2,r3⟩:=la i0 i1;have hr:=ha.r1 r r3;refine aF r1 ?_;refine av (aW (Zv h h1 ah)) ?_;rintro⟨j,n2⟩ ⟨j0,j1,h2⟩;dsimp only at j0 j1 h2 |-;refine aX ?_;refine aF (XG i0 ah) ?_;refine aF ahk ?_;refine aF (OU j0 ah) ?_;rw[h2.arr];refine aF r1 ?_;obtain⟨k,k1,k2,k3⟩:=la j0 j1;have hk:=hr.2.2 k k3;refine aF k1 ?_;refine av (aW (akz h h2 hk.1 ah)) ?_;rintro⟨l,n3⟩ ⟨l1,l2,h3⟩;exact aL (aj (fl (λB=>.send r2 k2 l1 l2) h3))
 refine aq (λhb7=>?_) (λhb7=>?_)
 .rw[hs.arr,hs.ow]
  obtain⟨r,r1,r2,r3⟩:=la o0 o1;have hr:=ha.r1 r r3;refine aF r1 ?_;refine av (aW (Zv h hs ah)) ?_;rintro⟨j,n2⟩ ⟨j0,j1,h2⟩;dsimp only at j0 j1 h2 |-;refine av (aW (anK h h2)) ?_;rintro⟨e,n3⟩ ⟨h3,h4⟩;refine aF ahk ?_;refine aF (OU j0 ah) ?_;refine aX ?_;dsimp only;rw[h4.arr,h4.ow];refine aF r1 ?_;obtain⟨k,k1,k2,k3⟩:=la j0 j1;have hk:=hr.2.2 k k3;refine aF k1 ?_;refine av (aW (akz h h4 hk.1 ah)) ?_;rintro⟨l,n5⟩ ⟨l1,l2,h5⟩;dsimp only at l1 l2 h5 |-;refine aK yT (cV (aL (aj (fl (λB=>.aft r2 k2 l1 h3 l2) h5))))
 refine aq (λhb8=>?_) (λhb8=>?_)
 .have hd:decide (3-(d:Int)<3)=true:=by
   cases hq:decide (3-(d:Int)<3)with
   |true=>rfl
   |false=>rw[hq]at hb8;simp at hb8
  refine av (aW (Zv h hs ah)) ?_;rintro⟨j,n2⟩ ⟨j0,j1,h2⟩;dsimp only at j0 j1 h2 |-;refine aq (λhb9=>?_) (λhb9=>?_)
  .refine av (aW (akz h h2 ah ah)) ?_
   rintro⟨l,n3⟩ ⟨l1,l2,h3⟩;dsimp only at l1 l2 h3 |-;obtain⟨e0,rfl,hw⟩:=nest hd h3;refine av (aW hw) ?_;rintro⟨b1,n4⟩ ⟨a,h4,h5⟩
   obtain⟨x,y,rfl⟩:∃x y,l = [x,y]:=by
    match l,l1 with
    |[x,y],_=>exact⟨x,y,rfl⟩
   refine aL (aj ⟨a,?_,h5⟩);have:=oY.store (C:=Hw m) (B:=xv (Hw m) e0) (l2 x aR) (l2 y aR) h4;rw[Nat.add_comm 1 a]at this;exact this
  .refine av (aW (an3 h h2)) ?_
   rintro⟨s,n3⟩ ⟨⟨i,hi,rfl⟩,h3⟩;refine av (aW (RG h h3)) ?_;rintro⟨e,n4⟩ ⟨h4,h5⟩;refine aX ?_;obtain⟨e0,rfl,hw⟩:=nest hd h5;refine av (aW hw) ?_;rintro⟨b1,n5⟩ ⟨a,h6,h7⟩;refine cV (aL (aj ⟨a,?_,h7⟩));have:=oY.MT (C:=Hw m) (B:=xv (Hw m) e0) hi h4 h6;rw[Nat.add_comm 1 a]at this;exact this
 have asg:∀{n:Mk} {c:Nat},Ai m n c->∀{t:Nat},Wp (Bi (cl 222 [] (eu n)) λv75=>Bi (cl 225 [] ((bH 64) 0 v75.2)) λJn=>eE 226 (bA 4 lg) [(ib Jn.1)] λv78=>wk [.z 226]<|rX [] (some ((bh.mk 1 v75.1 ByteArray.empty v78 [] []),Jn.2))) λr=>∃a,DH (Hw m) d (a+1) (Ba r.1)∧Ai m r.2 (c+a):=by
  intro n c hs t;refine av (aW (an3 h hs)) ?_;rintro⟨s,n3⟩ ⟨⟨i,hi,rfl⟩,h3⟩;refine av (aW (RG h h3)) ?_;rintro⟨e,n4⟩ ⟨h4,h5⟩;exact aX (cV (aL (aj (fl (λB=>.set hi h4) h5))))
 refine aq (λhb9=>?_) (λhb9=>?_)
 .refine av (aW (Zv h hs ah)) ?_
  rintro⟨j,n2⟩ ⟨j0,j1,h2⟩;dsimp only at j0 j1 h2 |-;refine aq (λalV=>?_) (λalV=>?_)
  .exact aL (aj (fl (λB=>.stop) h2))
  .exact asg h2 (t:=0)
 refine aq (λalV=>?_) (λalV=>?_)
 .exact aL (aj (fl (λB=>.stop) hs))
 .exact asg hs (t:=0)
theorem Yg{m:Mk}(h:KE m)(ha:afq m)(d fu:Nat)(hB:afg m d (eI fu))(hd:d<=3)(n:Mk)(c:Nat)(hs:Ai m n c):Wp (eI (fu+1) (3-(d:Int)) n) λr=>∃a,xv (Hw m) d a r.1∧Ai m r.2 (c+a):=by
 rw[xv.eq];unfold eI lz;have l1:=ha.l1;have hl:=hs.left;refine jR (λs=>∃a,DI (DH (Hw m) d) a s.1∧Ai m s.2 (c+a)) (λs=>s.2.qj.toNat) ⟨0,.nil,hs⟩ bB ?_;rintro⟨l,n'⟩ ⟨a,hl,jI⟩;dsimp only at hl jI |-;have e1:=jI.left;have e2:=jI.l0;refine aq (λhb=>?_) (λhb=>?_)
 .have aHs:0<n'.qj:=by simp at hb;exact hb.2
  refine av (aW (Zv h jI ah)) ?_;rintro⟨v,n2⟩ ⟨v0,v1,h2⟩;dsimp only at v0 v1 h2 |-;refine aq (λAp=>?_) (λAp=>?_)
  .exact cV (aL (aj (aj ⟨a,hl,h2⟩)))
  .have e3:=h2.left
   have hw:IntKind.wrap .i64 (n2.qj-1)=n2.qj-1:=tX
   have h3:Ai m ({ n2 with qj:=(IntKind.wrap .i64 (n2.qj-1)) }:Mk) (c+a+1):=by
    rw[hw];exact⟨h2.s,bB,bB⟩
   refine av (aW (agT h ha hB hd h3)) ?_;rintro⟨s,n4⟩ ⟨b,h4,h5⟩;dsimp only at h4 h5 |-;have hlen:=hl.len (λ_ _=>DH.pos);have e5:=h5.left;have e6:=h5.l0;refine aX (aK yT (ay (aj ⟨⟨a+(b+1),.snoc hl h4,?_⟩,bB⟩)));rw[show c+(a+(b+1))=c+a+1+b by omega];exact h5
 .exact aj (cV (aL (aj ⟨a,hl,jI⟩)))
theorem Yf{m:Mk}(h:KE m)(ha:afq m):∀(d fu:Nat),d<fu->d<=3->∀(n:Mk) (c:Nat),Ai m n c->Wp (eI fu (3-(d:Int)) n) λr=>∃a,xv (Hw m) d a r.1∧Ai m r.2 (c+a):=by
 intro d
 induction d with
 |zero=>
  intro fu hf hd n c hs;obtain⟨fu,rfl⟩:∃g,fu=g+1:=⟨fu-1,ah⟩;exact Yg h ha 0 fu (λe he=>ah) hd n c hs
 |succ d ih=>
  intro fu hf hd n c hs;obtain⟨fu,rfl⟩:∃g,fu=g+1:=⟨fu-1,ah⟩
  exact Yg h ha (d+1) fu (λe he n c hs=>by
   obtain rfl:e=d:=by omega
   exact ih fu ah ah n c hs) hd n c hs
def Al(x:bE):Prop:=0<=x.dY∧x.dY<256∧x.qQ.length<=9223372036854775807∧∀b∈x.qQ,0<=b∧b<256
def HOk(I T F:Int)(gw:List (List Int))(own:Int)(r:List Int)(k:Nat)(x:bM):Prop :=∃p:Nat,p<=2∧r[k]? = some (p:Int)∧k<3∧x.bx=nm 104 k∧x.dY=(List.range p).map (nm 112)∧∃a,a<=12∧xv ⟨Zw,ns5,I,T,F,p,gw,own⟩ 3 a x.uM
theorem Dn(a b:Int):gJ a b=some (if a<b then a else b):=by
 unfold gJ;rw[Yq]
 by_cases h:a<b <;> simp[h]
theorem anV:bQ 112 0=some []:=bp
theorem anU:bQ 112 1=some [nm 112 0]:=bp
theorem aja{p:Nat}(h:p<=2):bQ 112 (p:Int)=some ((List.range p).map (nm 112)):=by
 match p,h with
 |0,_=>exact anV
 |1,_=>exact anU
 |2,_=>exact akA
theorem aeS{x:bP}(hH:∀c∈x.bR,Al c)(hS:∀c∈x.jH,Al c):Wp (oA x) λr=>r.length=min 3 (max (max x.bR.length x.jH.length) 1)∧∀k∈r,0<=k∧k<=2:=by
 unfold oA;refine jR (λs=>0<=s.2∧s.2<=3∧s.1.length=min s.2.toNat (max (max x.bR.length x.jH.length) 1)∧∀k∈s.1,0<=k∧k<=2) (λs=>(3-s.2).toNat) ⟨Int.le_refl _,aV,aR,aR⟩ bB ?_;rintro⟨l,k⟩ ⟨k0,k3,hl,hk⟩;dsimp only at k0 k3 hl hk |-;have hw:IntKind.wrap .i64 (k+1)=k+1:=tX
 have apd:∀{c:bE},Al c->IntKind.wrap .i64 (c.dY % 3)=c.dY % 3∧0<=c.dY % 3∧c.dY % 3<=2:=by
  intro c hc;have:=hc.1;refine⟨tX,ah,ah⟩
 refine aq (λhb=>?_) (λhb=>?_)
 .have hk3:k<3:=by simpa using hb
  refine aq (λAp=>?_) (λAp=>?_)
  .have hkl:k<x.bR.length:=by simpa using Ap
   obtain⟨c,c1,_,c3⟩:=la k0 hkl;have hc:=apd (hH c c3);refine aF c1 (aK ⟨(hH c c3).1,aV⟩ (aX (aK yT (ay (aj ?_)))));rw[hw,hc.1];refine⟨⟨bB,bB,EF,λy hy=>?_⟩,bB⟩;rcases List.mem_append.1 hy with hy|hy
   .exact hk y hy
   .simp at hy;subst hy;exact hc.2
  refine aq (λGH=>?_) (λGH=>?_)
  .have hkz:k=0:=by simpa using GH
   refine aX (aK yT (ay (aj ?_)));rw[hw];refine⟨⟨bB,bB,EF,λy hy=>?_⟩,bB⟩;rcases List.mem_append.1 hy with hy|hy
   .exact hk y hy
   .simp at hy;subst hy;exact⟨aV,aV⟩
  have hkn:¬k<x.bR.length:=by simpa using Ap
  have hkz:¬k=0:=by simpa using GH
  refine aq (λHJ=>?_) (λHJ=>?_)
  .have hkl:k<x.jH.length:=by simpa using HJ
   obtain⟨c,c1,_,c3⟩:=la k0 hkl;have hc:=apd (hS c c3);refine aF c1 (aK ⟨(hS c c3).1,aV⟩ (aX (aK yT (ay (aj ?_)))));rw[hw,hc.1];refine⟨⟨bB,bB,EF,λy hy=>?_⟩,bB⟩;rcases List.mem_append.1 hy with hy|hy
   .exact hk y hy
   .simp at hy;subst hy;exact hc.2
  .have hkl:¬k<x.jH.length:=by simpa using HJ
   refine ay (aj ?_);rw[hw];exact⟨⟨bB,bB,bB,hk⟩,bB⟩
 .have av3:k=3:=by simp at hb;omega
  subst av3;exact aj (cV (aj ⟨by simpa using hl,hk⟩))
theorem RQ{m:Mk}{l:List bE}{r:List Int}(i1:1<=m.lV)(i3:m.lV<=3)(t0:0<=m.cK)(f0:0<=m.dN)(f2:m.dN<=2)(o0:0<=m.kS)(o1:m.kS<m.eZ.length)(a3:m.eZ.length<=3)
  (hr:∀r∈m.eZ,1<=r.length∧r.length<=3∧∀k∈r,0<=k∧k<=2) (hm:m.eZ[m.kS.toNat]? = some r) (hl:l.length<=r.length) (hc:∀c∈l,Al c) :
  Wp (iG l m) λq=>q.1.length=l.length∧(∀k x,q.1[k]? = some x->HOk m.lV m.cK m.dN m.eZ m.kS r k x)∧q.2.lV=m.lV∧q.2.cK=m.cK∧q.2.dN=m.dN∧q.2.kS=m.kS∧q.2.eZ=m.eZ:=by
 unfold iG;have hrm:=hr r (List.mem_of_getElem? hm);refine cC (λj s=>s.1.length=j∧(∀k x,s.1[k]? = some x->HOk m.lV m.cK m.dN m.eZ m.kS r k x)∧s.2.1=m.lV∧s.2.2.1=m.cK∧s.2.2.2.1=m.dN∧s.2.2.2.2.1=m.kS∧s.2.2.2.2.2.1=m.eZ) gx ⟨rfl,aR,rfl,rfl,rfl,rfl,rfl⟩ ?_ ?_
 .rintro j ⟨hs,ints,tables,flags,own,gw,params,bytes,left⟩ hj ⟨h1,h2,h3,h4,h5,h6,h7⟩
  dsimp only at h1 h2 h3 h4 h5 h6 h7 |-;subst h3 h4 h5 h6 h7;have IP:j<l.length:=ah;obtain⟨c,c1,c2,c3⟩:=la (xs:=l) (i:=(j:Int)) ah ah;have hcc:=hc c c3;refine aF c1 ?_;obtain⟨r',r1,r2,r3⟩:=la o0 o1;obtain rfl:r=r':=ael;refine aF r1 ?_;obtain⟨p,p1,p2,p3⟩:=la (xs:=r) (i:=(j:Int)) ah ah;have hp:=hrm.2.2 p p3;obtain⟨q,rfl⟩:=Int.eq_ofNat_of_zero_le hp.1;refine aF p1 ?_;refine aF (Dn _ _) ?_;refine aK Nq ?_;refine aF ahk ?_;refine aF (OU ah ah) ?_;refine aF (aja ah) ?_
  let m':Mk:=ax.mk m.lV m.cK m.dN m.kS m.eZ (q:Int) (List.take (Int.toNat (if (c.qQ.length:Int)<40 then(c.qQ.length:Int)else 40)) c.qQ) 12
  have hM:KE m':=⟨i1,i3,t0,f0,f2,ad8,by show(q:Int)<=2;omega,λb hb=>hcc.2.2.2 b (List.mem_of_mem_take hb),by
   show(List.take _ c.qQ).length<=40;rw[List.length_take]
   split <;> omega⟩
  have hA:afq m':=⟨o0,o1,a3,hr,by show(0:Int)<=12;decide,by show(12:Int)<=12;decide⟩;refine av (aW (Yf hM hA 3 64 ah ah m' 0 (Ai.refl hA.l0))) ?_;rintro⟨b,n⟩ ⟨a,hb,EI⟩;dsimp only at hb EI |-;have e1:=EI.left;have e2:=EI.l0;have e3:=EI.s;refine aX (aK yT (ay (aj ⟨EF,λk x hx=>?_,e3.ints,e3.tables,e3.flags,e3.own,e3.ar⟩)));rw[List.getElem?_append]at hx
  split at hx
  .exact h2 k x hx
  .rename_i hk
   have hk2:k=j:=by
    have:=(List.getElem?_eq_some_iff.1 hx).1;simp only[List.length_singleton]at this;omega
   subst hk2;rw[h1,Nat.sub_self]at hx;simp at hx;subst hx;refine⟨q,ah,by simpa using p2,ah,aR,rfl,a,?_,hb⟩;have:m'.qj=12:=rfl;omega
 .rintro⟨hs,ints,tables,flags,own,gw,params,bytes,left⟩ ⟨h1,h2,h3,h4,h5,h6,h7⟩
  exact cV (aL (aj ⟨by dsimp only at h1 |-;omega,h2,h3,h4,h5,h6,h7⟩))
theorem Pb{m:Mk}{l:List bE}{r:List Int}(i1:1<=m.lV)(i3:m.lV<=3)(t0:0<=m.cK)(f0:0<=m.dN)(f2:m.dN<=2)(o0:0<=m.kS)(o1:m.kS<m.eZ.length)(a3:m.eZ.length<=3)
  (hr:∀r∈m.eZ,1<=r.length∧r.length<=3∧∀k∈r,0<=k∧k<=2) (hm:m.eZ[m.kS.toNat]? = some r) (hl:l.length<=r.length) (hc:∀c∈l,Al c) :
  Wp (iq l m) λq=>q.1.length=l.length∧(∀k x,q.1[k]? = some x->HOk m.lV m.cK m.dN m.eZ m.kS r k x):=by
 unfold iq;have hrm:=hr r (List.mem_of_getElem? hm);refine cC (λj s=>s.1.length=j∧(∀k x,s.1[k]? = some x->HOk m.lV m.cK m.dN m.eZ m.kS r k x)∧s.2.lV=m.lV∧s.2.cK=m.cK∧s.2.dN=m.dN∧s.2.kS=m.kS∧s.2.eZ=m.eZ) gx ⟨rfl,aR,rfl,rfl,rfl,rfl,rfl⟩ ?_ ?_
 .rintro j ⟨hs,ints,tables,flags,own,gw,params,bytes,left⟩ hj ⟨h1,h2,h3,h4,h5,h6,h7⟩
  dsimp only at h1 h2 h3 h4 h5 h6 h7 |-;subst h3 h4 h5 h6 h7;have IP:j<l.length:=ah;obtain⟨c,c1,c2,c3⟩:=la (xs:=l) (i:=(j:Int)) ah ah;have hcc:=hc c c3;refine aF c1 ?_;obtain⟨r',r1,r2,r3⟩:=la o0 o1;obtain rfl:r=r':=ael;refine aF r1 ?_;obtain⟨p,p1,p2,p3⟩:=la (xs:=r) (i:=(j:Int)) ah ah;have hp:=hrm.2.2 p p3;obtain⟨q,rfl⟩:=Int.eq_ofNat_of_zero_le hp.1;refine aF p1 ?_;refine aF (Dn _ _) ?_;refine aK Nq ?_;refine aF ahk ?_;refine aF (OU ah ah) ?_;refine aF (aja ah) ?_
  let m':Mk:=ax.mk m.lV m.cK m.dN m.kS m.eZ (q:Int) (List.take (Int.toNat (if (c.qQ.length:Int)<40 then(c.qQ.length:Int)else 40)) c.qQ) 12
  have hM:KE m':=⟨i1,i3,t0,f0,f2,ad8,by show(q:Int)<=2;omega,λb hb=>hcc.2.2.2 b (List.mem_of_mem_take hb),by
   show(List.take _ c.qQ).length<=40;rw[List.length_take]
   split <;> omega⟩
  have hA:afq m':=⟨o0,o1,a3,hr,by show(0:Int)<=12;decide,by show(12:Int)<=12;decide⟩;refine av (aW (Yf hM hA 3 64 ah ah m' 0 (Ai.refl hA.l0))) ?_;rintro⟨b,n⟩ ⟨a,hb,EI⟩;dsimp only at hb EI |-;have e1:=EI.left;have e2:=EI.l0;have e3:=EI.s;refine aX (aK yT (ay (aj ⟨EF,λk x hx=>?_,e3.ints,e3.tables,e3.flags,e3.own,e3.ar⟩)));rw[List.getElem?_append]at hx
  split at hx
  .exact h2 k x hx
  .rename_i hk
   have hk2:k=j:=by
    have:=(List.getElem?_eq_some_iff.1 hx).1;simp only[List.length_singleton]at this;omega
   subst hk2;rw[h1,Nat.sub_self]at hx;simp at hx;subst hx;refine⟨q,ah,by simpa using p2,ah,aR,rfl,a,?_,hb⟩;have:m'.qj=12:=rfl;omega
 .rintro⟨hs,m2⟩ ⟨h1,h2,h3,h4,h5,h6,h7⟩
  exact cV (aL (aj ⟨by dsimp only at h1 |-;omega,h2⟩))
def Wg(F:Int)(gw:List (List Int))(i:Nat)(x:bK):Prop :=∃(I T:Nat) (r:List Int) (v:List bM) (vs:List (List bM)),1<=I∧I<=3∧T<=1∧gw[i]? = some r∧x.bx=cn i ∧x.eG=(List.range I).map (λ(k:Nat)=>(⟨nm 120 k,1,(k:Int)⟩:cq))++[⟨nm 98 0,2,0⟩]++(List.range T).map (λk=>(⟨nm 116 k,3,0⟩:cq)) ∧x.bf=v::vs∧vs.length<=1∧1<=v.length∧v.length<=r.length∧(∀u∈vs,1<=u.length∧u.length<=r.length)∧(v.length=r.length∨∃u∈vs,u.length=r.length) ∧∀u∈v::vs,∀k y,u[k]? = some y->HOk I T F gw i r k y
structure PO(x:bP):Prop where
 i0:0<=x.zz
 i1:x.zz<256
 t0:0<=x.dh
 t1:x.dh<256
 h:∀c∈x.bR,Al c
 s:∀c∈x.jH,Al c
theorem bK4{a:List bK}{n:ByteArray}{vs:List cq}{hs:List (List bM)}(h:a.length<=2):Wp (jy a n vs hs) λq=>q=a++[⟨n,vs,hs⟩]:=by
 unfold jy;refine cV (aX (aK yT (ay ?_)));unfold pP;exact ay (aj rfl)
theorem bK3{fl:List cW}{lk:List cJ}{gw:List (List Int)}{i:Nat}{a:List bK}{x:bP}{n:ByteArray}{vs:List cq}{cs:List bE}{r:List Int}
  (hx:PO x) (hF:fl.length<=2) (h3:gw.length<=3) (hr:∀r∈gw,1<=r.length∧r.length<=3∧∀k∈r,0<=k∧k<=2) (hri:gw[i]? = some r) (ha:a.length<=2) (hc1:1<=cs.length) (hc2:cs.length<=r.length) (hc:∀c∈cs,Al c) (av5:min 3 x.jH.length<=r.length) (ajR:cs.length=r.length∨min 3 x.jH.length=r.length) :
  Wp (iB fl lk gw i a x n vs cs) λq=>∃v us,q=a++[⟨n,vs,v::us⟩]∧us.length<=1∧1<=v.length∧v.length<=r.length∧(∀u∈us,1<=u.length∧u.length<=r.length)∧(v.length=r.length∨∃u∈us,u.length=r.length) ∧
   ∀u∈v::us,∀k y,u[k]? = some y->HOk (1+x.zz % 3) (x.dh % 2) fl.length gw i r k y:=by
 unfold iB;have i0:=hx.i0;have i1:=hx.i1;have t0:=hx.t0;have t1:=hx.t1;have hil:i<gw.length:=(List.getElem?_eq_some_iff.1 hri).1;have w1:IntKind.wrap .i64 (1+(IntKind.wrap .i64 (x.zz % 3)))=1+x.zz % 3:=aex;have w2:IntKind.wrap .i64 (x.dh % 2)=x.dh % 2:=tX;have ape:gw[(i:Int).toNat]? = some r:=by simpa using hri
 rw[w1,w2];refine av (aW (RQ (r:=r) bB bB bB bB bB bB bB h3 hr ape hc2 hc)) ?_;rintro⟨v,m⟩ ⟨v1,v2,v3,v4,v5,v6,v7⟩;dsimp only at v1 v2 v3 v4 v5 v6 v7 |-;refine aX (aK yT (cX ?_));refine aq (λhb=>?_) (λhb=>?_)
 .have DP:0<x.jH.length:=by simpa using hb
  refine aF (Dn _ _) ?_;refine aK Nq ?_
  have YE:(List.take (Int.toNat (if (x.jH.length:Int)<3 then(x.jH.length:Int)else 3)) x.jH).length=min 3 x.jH.length:=by
   rw[List.length_take];split <;> omega
  refine av (aW (Pb (m:=m) (r:=r) (by rw[v3];omega) (by rw[v3];omega) (by rw[v4];omega) (by rw[v5];omega) (by rw[v5];omega) (by rw[v6];omega) (by rw[v6,v7];omega) (by rw[v7];exact h3) (by rw[v7];exact hr) (by rw[v6,v7];exact ape) (by rw[YE];exact av5) (λc hc=>hx.s c (List.mem_of_mem_take hc)))) ?_;rintro⟨u,m2⟩ ⟨u1,u2⟩;dsimp only at u1 u2 |-;rw[YE]at u1;rw[v3,v4,v5,v6,v7]at u2;refine aX (aK yT (ay ((bK4 ha).imp ?_)));rintro q rfl;refine⟨v,[u],rfl,aR,ah,ah,λw hw=>by simp at hw;subst hw;omega,?_,λw hw=>?_⟩
  .rcases ajR with h|h
   .exact .inl ah
   .exact .inr ⟨u,aR,ah⟩
  .rcases List.mem_cons.1 hw with rfl|hw
   .exact v2
   .simp at hw;subst hw;exact u2
 .have DP:x.jH.length=0:=by simp at hb;simp[hb]
  refine ay ((bK4 ha).imp ?_);rintro q rfl;refine⟨v,[],rfl,aR,ah,ah,aR,?_,λw hw=>?_⟩
  .rcases ajR with h|h
   .exact .inl ah
   .left;omega
  .simp at hw;subst hw;exact v2
structure PN(x:dC):Prop where
 f0:0<=x.aY
 f1:x.aY<256
 l:∀b∈x.fJ,0<=b∧b<256
 c:∀p∈x.aG,PO p
def Yp(n:Nat)(l:List cJ):Prop:=∃ks:List (Nat×Int),(ks.map (·.1)).Pairwise (· < ·)∧(∀p∈ks,p.1<n*n∧1<=p.2∧p.2<=3)∧l=ks.map λp=>⟨cn (p.1 / n),cn (p.1 % n),p.2⟩
structure PT(f:dW):Prop where
 name:f.bx=⟨#[102,108,101,101,116,49]⟩
 f2:f.aY.length<=2
 fn:∀k x,f.aY[k]? = some x->x.bx=nm 102 k
 n1:1<=f.aG.length
 n3:f.aG.length<=3
 lk:Yp f.aG.length f.fJ
 cs:∃gw:List (List Int),gw.length=f.aG.length∧(∀r∈gw,1<=r.length∧r.length<=3∧∀k∈r,0<=k∧k<=2)∧∀i x,f.aG[i]? = some x->Wg f.aY.length gw i x
theorem anZ:bQ 102 0=some []:=bp
theorem anX:bQ 102 1=some [nm 102 0]:=bp
theorem anW{p:Nat}(h:p<=2):bQ 102 (p:Int)=some ((List.range p).map (nm 102)):=by
 match p,h with
 |0,_=>exact anZ
 |1,_=>exact anX
 |2,_=>exact akB
theorem anP:bQ 120 1=some [nm 120 0]:=bp
theorem anO:bQ 120 2=some [nm 120 0,nm 120 1]:=bp
theorem anN{p:Nat}(h1:1<=p)(h:p<=3):bQ 120 (p:Int)=some ((List.range p).map (nm 120)):=by
 match p,h1,h with
 |1,_,_=>exact anP
 |2,_,_=>exact anO
 |3,_,_=>exact anQ
theorem anT:bQ 116 0=some []:=bp
theorem anS:bQ 116 1=some [nm 116 0]:=bp
theorem anR{p:Nat}(h:p<=1):bQ 116 (p:Int)=some ((List.range p).map (nm 116)):=by
 match p,h with
 |0,_=>exact anT
 |1,_=>exact anS
theorem Gh{α:Type}{l:List α}{y:α}{k:Nat}{x:α}(h:(l++[y])[k]? = some x):l[k]? = some x∨k=l.length∧x=y:=by
 grind
theorem ajz{x:dC}{ps:List bP}(hx:PN x)(h1:1<=ps.length)(h3:ps.length<=3)(hp:∀p∈ps,PO p):Wp (jz x ((ps.length:Int),ps)) PT:=by
 unfold jz;have f0:=hx.f0;have f1:=hx.f1;dsimp only;obtain⟨q,hq,hq2⟩:∃q:Nat,x.aY % 3=(q:Int)∧q<=2:=⟨(x.aY % 3).toNat,ah,ah⟩;have w1:IntKind.wrap .i64 (x.aY % 3)=(q:Int):=tX;refine aK ⟨f0,aV⟩ ?_;rw[w1];refine aF (anW hq2) ?_;refine cC (λj s=>s.length=j∧∀k y,s[k]? = some y->y.bx=nm 102 k) XW ⟨rfl,aR⟩ ?_ ?_
 .rintro j s hj ⟨s1,s2⟩
  have hj2:j<q:=Pz;refine aF (x:=nm 102 j) VQ ?_;have w2:IntKind.wrap .i64 (4+(j:Int))=4+(j:Int):=tX;rw[w2];refine aK ah (aK ⟨Int.fdiv_nonneg f0 (Int.le_of_lt (Int.pow_pos aV)),aV⟩ (aX (aK yT (ay (aj ⟨EF,λk y hy=>?_⟩)))));rcases Gh hy with hy|⟨rfl,rfl⟩
  .exact s2 k y hy
  .rw[s1]
 rintro fl ⟨g1,g2⟩;have g3:fl.length<=2:=by rw[g1];simp;omega
 refine aX ?_
 have wn:IntKind.wrap .i64 ((ps.length:Int)*(ps.length:Int))=((ps.length*ps.length:Nat):Int):=by
  have:ps.length*ps.length<=3*3:=Nat.mul_le_mul h3 h3;rw[<-Int.natCast_mul,IntKind.wrap_i64];omega
 have hnn:ps.length*ps.length<=9:=Nat.mul_le_mul h3 h3;refine jR (λs=>0<=s.1∧s.1<=9∧s.2.length<=s.1.toNat∧∃ks:List (Nat×Int),(ks.map (·.1)).Pairwise (· < ·)∧(∀p∈ks,p.1<ps.length*ps.length∧(p.1:Int)<s.1∧1<=p.2∧p.2<=3)∧s.2=ks.map λp=>⟨cn (p.1 / ps.length),cn (p.1 % ps.length),p.2⟩) (λs=>(9-s.1).toNat) ⟨Int.le_refl _,aV,aR,[],aR,aR,rfl⟩ bB ?_
 .rintro⟨k,l⟩ ⟨k0,k9,hl,ks,p1,p2,rfl⟩
  dsimp only at k0 k9 hl p2 |-;rw[wn];have wk:IntKind.wrap .i64 (k+1)=k+1:=tX;refine aq (λhb=>?_) (λhb=>?_)
  .obtain⟨ND,Ap⟩:k<(x.fJ.length:Int)∧k<((ps.length*ps.length:Nat):Int):=by simpa using hb
   obtain⟨b,b1,_,b3⟩:=la k0 ND;have hb8:=hx.l b b3;obtain⟨kk,rfl⟩:=Int.eq_ofNat_of_zero_le k0;refine aF b1 (aK ⟨hb8.1,aV⟩ ?_);refine aq (λhc=>?_) (λhc=>?_)
   .have hc2:0<b % 4:=by simpa using hc
    have hd:kk / ps.length<ps.length:=Nat.div_lt_of_lt_mul ah;have hm:kk % ps.length<ps.length:=Nat.mod_lt _ ah;have e1:((kk:Int) / (ps.length:Int))=((kk / ps.length:Nat):Int):=aR;have e2:((kk:Int) % (ps.length:Int))=((kk % ps.length:Nat):Int):=aR;have w4:IntKind.wrap .i64 (b % 4)=b % 4:=tX;have z1:(0:Int)<=((kk / ps.length:Nat):Int):=Int.natCast_nonneg _;have z2:(0:Int)<=((kk % ps.length:Nat):Int):=Int.natCast_nonneg _;have y1:((kk / ps.length:Nat):Int)<3:=Int.ofNat_lt.2 (Nat.lt_of_lt_of_le hd h3);have y2:((kk % ps.length:Nat):Int)<3:=Int.ofNat_lt.2 (Nat.lt_of_lt_of_le hm h3);refine aK ⟨ah,ah,by rw[e1];simp only[Aj];omega⟩ ?_;rw[e1,e2,w4,wk];refine aF (XG z1 y1) ?_;refine aK ah ?_;refine aF (XG z2 y2) ?_;refine aK ah (aX (aK yT (ay (aj ⟨⟨bB,bB,EF,ks++[(kk,b % 4)],?_,?_,?_⟩,bB⟩))))
    .rw[List.map_append,List.pairwise_append]
     refine⟨p1,aR,λa ha c hc=>?_⟩;obtain⟨p,hp,rfl⟩:=List.mem_map.1 ha;simp at hc;subst hc;have:=p2 p hp;omega
    .intro p hp
     rcases List.mem_append.1 hp with hp|hp
     .have:=p2 p hp;omega
     .simp at hp;subst hp;dsimp only;omega
    .simp only[List.map_append,List.map_cons,List.map_nil,Int.toNat_natCast]
   .rw[wk]
    exact ay (aj ⟨⟨bB,bB,bB,ks,p1,λp hp=>by have:=p2 p hp;dsimp only;omega,rfl⟩,bB⟩)
  .refine aj ?_
   generalize hlk:(ks.map λp=>(⟨cn (p.1 / ps.length),cn (p.1 % ps.length),p.2⟩:cJ))=lk;have hLk:Yp ps.length lk:=⟨ks,p1,λp hp=>⟨(p2 p hp).1,(p2 p hp).2.2⟩,hlk.symm⟩;clear hlk hl p1 p2 hb wk;refine cC (λ(j:Nat) (s:List (List Int))=>s.length=j∧∀(k:Nat) (r:List Int),s[k]? = some r->∃p:bP,ps[k]? = some p∧r.length=min 3 (max (max p.bR.length p.jH.length) 1)∧∀k∈r,0<=k∧k<=2) gx ⟨rfl,aR⟩ ?_ ?_
   .rintro j s hj ⟨s1,s2⟩
    obtain⟨p,q1,q2,q3⟩:=la (xs:=ps) (i:=(j:Int)) ah hj;refine aF q1 ?_;refine av (aeS (hp p q3).h (hp p q3).s) ?_;rintro r ⟨r1,r2⟩;refine aX (aK yT (ay (aj ⟨EF,λk y hy=>?_⟩)));rcases Gh hy with hy|⟨rfl,rfl⟩
    .exact s2 k y hy
    .rw[s1];exact⟨p,by simpa using q2,r1,r2⟩
   rintro gw ⟨a1,a2⟩;have a1':gw.length=ps.length:=by rw[a1];simp
   have har:∀r∈gw,1<=r.length∧r.length<=3∧∀k∈r,0<=k∧k<=2:=by
    intro r hr;obtain⟨k,hk,rfl⟩:=List.getElem_of_mem hr;obtain⟨p,_,r1,r2⟩:=a2 k _ (List.getElem?_eq_getElem hk);exact⟨ah,ah,r2⟩
   refine cC (λ(j:Nat) (s:List bK)=>s.length=j∧∀(i:Nat) (c:bK),s[i]? = some c->Wg fl.length gw i c) gx ⟨rfl,aR⟩ ?_ ?_
   .rintro j s hj ⟨s1,s2⟩
    refine cX ?_;obtain⟨p,q1,q2,q3⟩:=la (xs:=ps) (i:=(j:Int)) ah hj;have hpp:=hp p q3;have i0:=hpp.i0;have i1:=hpp.i1;have t0:=hpp.t0;have t1:=hpp.t1;refine aF q1 ?_;refine aF (XG ah ah) ?_;obtain⟨I,hI,I1,I3⟩:∃I:Nat,1+p.zz % 3=(I:Int)∧1<=I∧I<=3:=⟨(1+p.zz % 3).toNat,ah,ah,ah⟩;obtain⟨T,hT,T1⟩:∃T:Nat,p.dh % 2=(T:Int)∧T<=1:=⟨(p.dh % 2).toNat,ah,ah⟩;have w5:IntKind.wrap .i64 (1+IntKind.wrap .i64 (p.zz % 3))=(I:Int):=aex;have w6:IntKind.wrap .i64 (p.dh % 2)=(T:Int):=tX;rw[w5,w6];refine aK ⟨i0,aV⟩ ?_;refine aF (anN I1 I3) ?_;refine cC (λj s=>s=(List.range j).map (λ(k:Nat)=>(⟨nm 120 k,1,(k:Int)⟩:cq))) XW rfl ?_ ?_
    .rintro j' s' Yu rfl
     have hj2:j'<I:=by simpa using Yu
     refine aF (x:=nm 120 j') VQ ?_;refine aX (aK (by unfold dK;simp;omega) (ay (aj ?_)));rw[List.range_succ,List.map_append];rfl
    rintro s45 hs45;have ajE:s45=(List.range I).map (λ(k:Nat)=>(⟨nm 120 k,1,(k:Int)⟩:cq)):=by rw[hs45];simp
    refine aX (aK aeo ?_);refine aK ⟨t0,aV⟩ ?_;refine aF (anR T1) ?_;refine cC (λj s=>s=s45++[⟨nm 98 0,2,0⟩]++(List.range j).map (λ(k:Nat)=>(⟨nm 116 k,3,0⟩:cq))) XW (by simp;rfl) ?_ ?_
    .rintro j' s' Yu rfl
     have hj2:j'<T:=by simpa using Yu
     refine aF (x:=nm 116 j') VQ ?_;refine aX (aK aeo (ay (aj ?_)));rw[List.range_succ,List.map_append,<-List.append_assoc];rfl
    rintro YC hs53;have apf:YC=s45++[⟨nm 98 0,2,0⟩]++(List.range T).map (λ(k:Nat)=>(⟨nm 116 k,3,0⟩:cq)):=by rw[hs53];simp
    refine aK ⟨i0,aV⟩ (aK ⟨t0,aV⟩ ?_);refine aF (Dn _ _) ?_;refine aK Nq (cX ?_);have IP:j<gw.length:=ah;obtain⟨p',hp',r1,r2⟩:=a2 j _ (List.getElem?_eq_getElem IP)
    obtain rfl:p'=p:=by
     have:ps[j]? = some p:=by simpa using q2
     rw[this]at hp';exact(Option.some.inj hp').symm
    have YE:(List.take (Int.toNat (if (p'.bR.length:Int)<3 then(p'.bR.length:Int)else 3)) p'.bR).length=min 3 p'.bR.length:=by
     rw[List.length_take];split <;> omega
    have fin:∀(cs:List bE),cs.length=max 1 (min 3 p'.bR.length)->(∀c∈cs,Al c)->Wp (iB fl lk gw j s p' (cn (j:Int).toNat) YC cs) λq=>q.length=j+1∧∀i c,q[i]? = some c->Wg fl.length gw i c:=by
     intro cs hc1 hc2;refine(bK3 hpp g3 ah har (List.getElem?_eq_getElem IP) ah ah ah hc2 ah ah).imp ?_;rintro q ⟨v,us,rfl,u1,u2,u3,u4,u5,u6⟩;refine⟨EF,λi c hc=>?_⟩;rcases Gh hc with hc|⟨rfl,rfl⟩
     .exact s2 i c hc
     .rw[s1]
      rw[hI,hT]at u6;exact⟨I,T,_,v,us,I1,I3,T1,List.getElem?_eq_getElem IP,aR,by dsimp only;rw[apf,ajE],rfl,u1,u2,u3,u4,u5,u6⟩
    refine aq (λhz=>?_) (λhz=>?_)
    .refine aX (ay (fin _ ?_ ?_))
     .have:min 3 p'.bR.length=0:=by rw[<-YE];simpa using hz
      rw[this];rfl
     .intro c hc;simp at hc;subst hc
      exact⟨aV,aV,aR,aR⟩
    .refine ay (fin _ ?_ (λc hc=>hpp.h c (List.mem_of_mem_take hc)))
     have:min 3 p'.bR.length≠0:=by
      rw[<-YE];intro e;rw[e]at hz;simp at hz
     rw[YE];omega
   .rintro cs ⟨c1,c2⟩
    have c3:cs.length=ps.length:=by rw[c1];simp
    exact cV (aj ⟨rfl,g3,g2,bB,bB,by dsimp only;rw[c3];exact hLk,gw,bB,har,c2⟩)
theorem afo{x:dC}(hx:PN x):Wp (sL x) PT:=by
 refine aF (Dn _ _) ?_;refine aK vI (cX ?_)
 have YE:(List.take (Int.toNat (if (x.aG.length:Int)<3 then(x.aG.length:Int)else 3)) x.aG).length=min 3 x.aG.length:=by
  rw[List.length_take];omega
 have hn:(if (x.aG.length:Int)<3 then(x.aG.length:Int)else 3)=((min 3 x.aG.length:Nat):Int):=ah;refine aq (λhb=>?_) (λhb=>?_)
 .refine aX (ay ?_)
  exact ajz (ps:=[⟨0,0,[],[]⟩]) hx aR aR (λp hp=>by simp at hp;subst hp;exact⟨aV,aV,aV,aV,aR,aR⟩)
 .have h0:min 3 x.aG.length≠0:=by
   simp_all
  have:=ajz (ps:=List.take (Int.toNat (if (x.aG.length:Int)<3 then(x.aG.length:Int)else 3)) x.aG) hx ah ah (λp hp=>hx.c p (List.mem_of_mem_take hp));rw[YE]at this;rw[<-hn]at this;exact ay this
structure SN where
 I:Int
 T:Int
 F:Int
 Pn:Int
 gw:List (List Int)
 own:Int
abbrev SC.sn(C:SC):SN:=⟨C.I,C.T,C.F,C.Pn,C.gw,C.own⟩
inductive Sh(C:SN):Bool->Int->ByteArray->Int->Bool->Nat->Prop
 |lit {n:Int}:0<=n->n<9->Sh C false 1 ByteArray.empty n false 0
 |now:Sh C false 4 ByteArray.empty 0 false 0
 |var {i:Nat}:(i:Int)<C.I->Sh C false 5 (nm 120 i) 0 false 0
 |par {i:Nat}:(i:Int)<C.Pn->Sh C false 5 (nm 112 i) 0 false 0
 |get:0<C.T->Sh C false 6 (nm 116 0) 0 false 1
 |size:0<C.T->Sh C false 8 (nm 116 0) 0 false 0
 |neg:Sh C false 9 ByteArray.empty 0 false 1
 |bin {op:Int}:11<=op->op<=15->Sh C false op ByteArray.empty 0 false 2
 |tf {op:Int}:2<=op->op<=3->Sh C true op ByteArray.empty 0 false 0
 |b0:Sh C true 5 (nm 98 0) 0 false 0
 |flag {i:Nat}:(i:Int)<C.F->Sh C true 5 (nm 102 i) 0 false 0
 |has:0<C.T->Sh C true 7 (nm 116 0) 0 false 1
 |not:Sh C true 10 ByteArray.empty 0 true 1
 |con {op:Int}:22<=op->op<=23->Sh C true op ByteArray.empty 0 true 2
 |cmp {op:Int}:16<=op->op<=21->Sh C true op ByteArray.empty 0 false 2
inductive WE(C:SN)(mk:Nd):Nat->Bool->DV->Prop
 |node {d:Nat} {t u:Bool} {op n:Int} {s:ByteArray} {c:Nat} {l:List DV}:Sh C t op s n u c->l.length=c->(∀a∈l,WE C mk d u a)->WE C mk (d+1) t (mk op s n l)
theorem WE.le{C:SN}{mk:Nd}{d:Nat}{t:Bool}{x:DV}(h:WE C mk d t x):∀{e:Nat},d<=e->WE C mk e t x:=by
 induction h with
 |node a b _ ih=>
  intro e he;obtain⟨f,rfl⟩:∃f,e=f+1:=⟨e-1,ah⟩;exact .node a b (λx hx=>ih x hx ah)
theorem wq{C:SC}{d:Nat}{x:DV}(h:C.N d x):WE C.sn C.me d false x:=by
 unfold SC.N at h
 induction h with
 |lit a b=>exact .node (.lit a b) rfl aR
 |var a=>exact .node (.var a) rfl aR
 |par a=>exact .node (.par a) rfl aR
 |now=>exact .node .now rfl aR
 |get a _ ih=>exact .node (.get a) rfl Vz
 |size a=>exact .node (.size a) rfl aR
 |neg _ ih=>exact .node .neg rfl Vz
 |bin a b _ _ i j=>exact .node (.bin a b) rfl (by simpa using⟨i,j⟩)
theorem Ul{C:SC}{d:Nat}{x:DV}(h:C.B d x):WE C.sn C.me d true x:=by
 unfold SC.B at h
 induction h with
 |lit a b=>exact .node (.tf a b) rfl aR
 |b0=>exact .node .b0 rfl aR
 |flag a=>exact .node (.flag a) rfl aR
 |has a b=>exact .node (.has a) rfl (by simpa using wq (C:=C) b)
 |not _ ih=>exact .node .not rfl Vz
 |con a b _ _ i j=>exact .node (.con a b) rfl (by simpa using⟨i,j⟩)
 |cmp a b i j=>exact .node (.cmp a b) rfl (by simpa using⟨wq (C:=C) i,wq (C:=C) j⟩)
inductive Ss(C:SN):Int->ByteArray->ByteArray->Bool->Nat->Bool->Bool->Prop
 |set {i:Nat}:(i:Int)<C.I->Ss C 1 (nm 120 i) ByteArray.empty false 1 false false
 |Zc:Ss C 1 (nm 98 0) ByteArray.empty true 1 false false
 |put:0<C.T->Ss C 2 (nm 116 0) ByteArray.empty false 2 false false
 |del:0<C.T->Ss C 3 (nm 116 0) ByteArray.empty false 1 false false
 |iff:Ss C 4 ByteArray.empty ByteArray.empty true 1 true true
 |whl:Ss C 5 ByteArray.empty ByteArray.empty true 1 true false
 |send {i h c:Nat} {r:List Int}:C.gw[i]? = some r->r[h]? = some (c:Int)->c<=2->Ss C 6 (cn i) (nm 104 h) false c false false
 |aft {h c:Nat} {r:List Int}:C.gw[C.own.toNat]? = some r->r[h]? = some (c:Int)->c<=2->Ss C 7 ByteArray.empty (nm 104 h) false (c+1) false false
 |store:Ss C 8 ByteArray.empty ByteArray.empty false 2 false true
 |MT {i:Nat}:(i:Int)<C.I->Ss C 9 (nm 120 i) ByteArray.empty false 1 false true
 |stop:Ss C 10 ByteArray.empty ByteArray.empty false 0 false false
inductive WF(C:SN)(me:Nd)(ms:Ns)(B:Nat->List DV->Prop):Nat->DV->Prop
 |node {k:Int} {n h:ByteArray} {t:Bool} {c a b:Nat} {p q:Bool} {l s z:List DV}:Ss C k n h t c p q->l.length=c->(∀e∈l,WE C me 6 t e)->B a s->B b z->(p=false->s = [])->(q=false->z = [])->WF C me ms B (1+a+b) (ms k n h l s z)
inductive WL(S:Nat->DV->Prop):Nat->List DV->Prop
 |nil:WL S 0 []
 |cons {a b:Nat} {l:List DV} {s:DV}:S a s->WL S b l->WL S (a+b) (s::l)
def WB(C:SN)(me:Nd)(ms:Ns):Nat->Nat->List DV->Prop
 |0=>λn l=>n=0∧l = []
 |d+1=>WL (WF C me ms (WB C me ms d))
theorem WB.nil{C:SN}{me:Nd}{ms:Ns}:∀{d:Nat},WB C me ms d 0 []
 |0=>⟨rfl,rfl⟩
 |_+1=>WL.nil
theorem WL.snoc{S:Nat->DV->Prop}{a b:Nat}{l:List DV}{s:DV}(h:WL S a l)(k:S b s):WL S (a+b) (l++[s]):=by
 induction h with
 |nil=>rw[Nat.add_comm];exact .cons k .nil
 |cons x _ ih=>rw[Nat.add_assoc];exact .cons x ih
theorem WL.get{S:Nat->DV->Prop}{n:Nat}{l:List DV}(h:WL S n l):∀{x:DV},x∈l->∃a,a<=n∧S a x:=by
 induction h with
 |nil=>intro x hx;simp at hx
 |cons y _ ih=>
  intro x hx;rcases List.mem_cons.1 hx with rfl|hx
  .exact⟨_,ah,y⟩
  .obtain⟨a,b,c⟩:=ih hx;exact⟨a,ah,c⟩
theorem DI.wl{S R:Nat->DV->Prop}(f:∀a x,S a x->R a x){n:Nat}{l:List DV}(h:DI S n l):WL R n l:=by
 induction h with
 |nil=>exact .nil
 |snoc _ x ih=>exact ih.snoc (f _ _ x)
theorem oY.wf{C:SC}(har:∀r∈C.gw,∀k∈r,k<=2){P B:Nat->List DV->Prop}(f:∀a x,P a x->B a x)(hn:B 0 []){n:Nat}{x:DV}(h:oY C P n x):WF C.sn C.me C.ms B n x:=by
 have o:∀{t:Bool} {e:DV},WE C.sn C.me 6 t e->∀x∈[e],WE C.sn C.me 6 t x:=by intro t e h x hx;simp at hx;subst hx;exact h
 have h2:∀{i h c:Nat} {r:List Int},C.gw[i]? = some r->r[h]? = some (c:Int)->c<=2:=by
  intro i h c r h1 h2;have:=har r (List.mem_of_getElem? h1) _ (List.mem_of_getElem? h2);omega
 cases h with
 |set a b=>exact .node (a:=0) (b:=0) (.set a) rfl (o (wq b |>.le aV)) hn hn (λ_=>rfl) (λ_=>rfl)
 |Zc b=>exact .node (a:=0) (b:=0) .Zc rfl (o (Ul b)) hn hn (λ_=>rfl) (λ_=>rfl)
 |put a b c=>exact .node (a:=0) (b:=0) (.put a) rfl (by simpa using⟨(wq b).le aV,(wq c).le aV⟩) hn hn (λ_=>rfl) (λ_=>rfl)
 |del a b=>exact .node (a:=0) (b:=0) (.del a) rfl (o (wq b |>.le aV)) hn hn (λ_=>rfl) (λ_=>rfl)
 |iff a b c=>exact .node .iff rfl (o (Ul a)) (f _ _ b) (f _ _ c) aR aR
 |whl a b=>exact .node (b:=0) .whl rfl (o (Ul a)) (f _ _ b) hn aR (λ_=>rfl)
 |send a b c e=>subst c;exact .node (a:=0) (b:=0) (.send a b (h2 a b)) rfl (λx hx=>(wq (e x hx)).le aV) hn hn (λ_=>rfl) (λ_=>rfl)
 |aft a b c e g=>
  subst c;refine .node (a:=0) (b:=0) (.aft a b (h2 a b)) rfl (λx hx=>?_) hn hn (λ_=>rfl) (λ_=>rfl);rcases List.mem_cons.1 hx with rfl|hx
  .exact(wq e).le aV
  .exact(wq (g x hx)).le aV
 | @store x y m _ a b c=>
  have:=WF.node (C:=C.sn) (me:=C.me) (ms:=C.ms) (B:=B) (a:=0) (b:=m) (l:=[x,y]) .store rfl (by simpa using⟨(wq a).le aV,(wq b).le aV⟩) hn (f _ _ c) (λ_=>rfl) aR
  rwa [Nat.add_zero]at this
 | @MT _ _ m _ a b c=>
  have:=WF.node (C:=C.sn) (me:=C.me) (ms:=C.ms) (B:=B) (a:=0) (b:=m) (.MT a) rfl (o (wq b |>.le aV)) hn (f _ _ c) (λ_=>rfl) aR
  rwa [Nat.add_zero]at this
 |stop=>exact .node (a:=0) (b:=0) .stop rfl aR hn hn (λ_=>rfl) (λ_=>rfl)
theorem xv.wb{C:SC}(har:∀r∈C.gw,∀k∈r,k<=2):∀{d n:Nat} {l:List DV},xv C d n l->WB C.sn C.me C.ms (d+1) n l
 |0,_,_,h=>h.wl λ_ _=>oY.wf har (λ_ _ h=>h.elim) WB.nil
 |d+1,_,_,h=>h.wl λ_ _=>oY.wf har (λ_ _ h=>h.wb har) WB.nil
theorem Iu{k n:Nat}(h:n<=1000000000)(hk:k<=1000):dK k n:=by
 have:=Nat.mul_le_mul h hk;unfold dK;omega
theorem yk{α:Type}{a:α}{k n:Nat}(h:n<=100000000)(hk:k<=1000):dK k (n + [a].length):=Iu SA hk
theorem ahC{α:Type}{xs:List α}{j:Nat}(h:j<xs.length):∃x,idx xs (j:Int)=some x∧xs[j]? = some x∧x∈xs:=⟨xs[j],aeD,List.getElem?_eq_getElem h,List.getElem_mem h⟩
section
variable {α β γ:Type} {Q:β->Prop} {xs:List α} {j:Nat} {R:α->γ->Prop} {s:List γ}
theorem bO{f:α->Option β}(hj:(j:Int)<(xs.length:Int))(g:∀x,xs[j]? = some x->x∈xs->Wp (f x) Q):Wp (Bi (idx xs (j:Int)) f) Q:=mC (Jt ah g)
theorem fE{i:Int}{f:α->Option β}(h0:0<=i)(hj:i<(xs.length:Int))(g:∀x,xs[i.toNat]? = some x->x∈xs->Wp (f x) Q):Wp (Bi (idx xs i) f) Q:=mC (CW h0 hj g)
def MI(R:α->γ->Prop)(xs:List α)(j:Nat)(s:List γ):Prop:=s.length=j∧∀(k:Nat) (a:α),k<j->xs[k]? = some a->∃b,s[k]? = some b∧R a b
theorem MI.zero:MI R xs 0 ([]:List γ):=⟨rfl,λk a h=>absurd h (Nat.not_lt_zero k)⟩
theorem MI.snoc{a:α}{b:γ}(h:MI R xs j s)(hx:xs[j]? = some a)(hr:R a b):MI R xs (j+1) (s++[b]):=by
 refine⟨ad3,λk c hk hc=>?_⟩;rcases Nat.lt_or_ge k j with my|hge
 .obtain⟨d,d1,d2⟩:=h.2 k c my hc
  exact⟨d,by rw[List.getElem?_append_left VE];exact d1,d2⟩
 .obtain rfl:k=j:=by omega
  rw[hx]at hc;obtain rfl:=Option.some.inj hc;exact⟨b,by rw[List.getElem?_append_right VE,h.1,Nat.sub_self];rfl,hr⟩
theorem MI.at(h:MI R xs xs.length s){k:Nat}{a:α}(ha:xs[k]? = some a):∃b,s[k]? = some b∧R a b:=h.2 k a (List.getElem?_eq_some_iff.1 ha).1 ha
theorem MI.back(h:MI R xs xs.length s){k:Nat}{b:γ}(hb:s[k]? = some b):∃a,xs[k]? = some a∧R a b:=by
 have hk:=(List.getElem?_eq_some_iff.1 hb).1;rw[h.1]at hk;obtain⟨c,c1,c2⟩:=h.2 k _ hk (List.getElem?_eq_getElem hk);rw[hb]at c1;obtain rfl:=Option.some.inj c1;exact⟨_,List.getElem?_eq_getElem hk,c2⟩
theorem MI.mem(h:MI R xs xs.length s){b:γ}(hb:b∈s):∃a,a∈xs∧R a b:=by
 obtain⟨k,hk,rfl⟩:=List.getElem_of_mem hb;obtain⟨a,a1,a2⟩:=h.back (List.getElem?_eq_getElem hk);exact⟨a,List.mem_of_getElem? a1,a2⟩
end
def LI{γ:Type}(P:Nat->γ->Prop)(j:Nat)(s:List γ):Prop:=s.length=j∧∀(k:Nat) (b:γ),s[k]? = some b->P k b
theorem LI.zero{γ:Type}{P:Nat->γ->Prop}:LI P 0 ([]:List γ):=⟨rfl,aR⟩
theorem LI.snoc{γ:Type}{P:Nat->γ->Prop}{j:Nat}{s:List γ}{b:γ}(h:LI P j s)(hb:P j b):LI P (j+1) (s++[b]):=by
 refine⟨ad3,λk c hc=>?_⟩;rcases Gh hc with hc|⟨rfl,rfl⟩
 .exact h.2 k c hc
 .rw[h.1];exact hb
theorem WL.len{S:Nat->DV->Prop}(hS:∀n s,S n s->1<=n){n:Nat}{l:List DV}(h:WL S n l):l.length<=n:=by
 induction h with
 |nil=>exact Nat.le_refl _
 |cons hs _ ih=>have:=hS _ _ hs;simp only[List.length_cons];omega
theorem WF.pos{C:SN}{me:Nd}{ms:Ns}{B:Nat->List DV->Prop}{n:Nat}{s:DV}(h:WF C me ms B n s):1<=n:=by cases h;omega
theorem WB.len{C:SN}{me:Nd}{ms:Ns}:∀{d n:Nat} {l:List DV},WB C me ms d n l->l.length<=n
 |0,n,l,h=>by rw[h.2];exact Nat.zero_le _
 |d+1,n,l,h=>WL.len (λ_ _=>WF.pos) h
theorem WB.at5{C:SN}{me:Nd}{ms:Ns}{d n:Nat}(h:WB C me ms d n []):n=0:=by
 cases d with
 |zero=>exact h.1
 |succ d=>cases h;rfl
theorem WB.emp{C D:SN}{me me':Nd}{ms ms':Ns}{d e n:Nat}{s s':List DV}(h:WB C me ms d n s)(h':WB D me' ms' e n s')(hs:s = []):s' = []:=by
 subst hs;have:=h'.len;rw[h.at5]at this;exact List.eq_nil_of_length_eq_zero ah
theorem Sh.op{C:SN}{t u:Bool}{op n:Int}{s:ByteArray}{c:Nat}(h:Sh C t op s n u c):1<=op∧op<=23:=VD
theorem Sh.c2{C:SN}{t u:Bool}{op n:Int}{s:ByteArray}{c:Nat}(h:Sh C t op s n u c):c<=2:=VD
theorem Ss.c3{C:SN}{k:Int}{n h:ByteArray}{t:Bool}{c:Nat}{p q:Bool}(x:Ss C k n h t c p q):c<=3:=by cases x <;> omega
theorem Ss.op{C:SN}{k:Int}{n h:ByteArray}{t:Bool}{c:Nat}{p q:Bool}(x:Ss C k n h t c p q):1<=k∧k<=10:=by cases x <;> omega
end Go.Proofs.YtaafmkmdfcgeaaaGreatDoor

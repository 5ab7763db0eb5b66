/- Part 4 of what the claim leans on. -/
import Derived.Test.YtpeihknododmlaaGreatDoorRRv3
import Derived.Test.YtpeihknododmlaaGreatDoorProg
set_option maxRecDepth 100000
set_option linter.unusedVariables false
set_option maxHeartbeats 4000000
set_option linter.unusedSimpArgs false
namespace Go.Proofs.YtpeihknododmlaaGreatDoor
open Go.Proofs.Tryz
open Go.RowKit
theorem Zo.of{P:Program}{t n:Nat}(h:(P.underlying t).map (·.isRow)=some true:=by kernel_rfl)(hi:(P.info? t).map (·.size)=some n:=by kernel_rfl):Zo P t n:=by
 cases hu:P.underlying t with
 |none=>simp[hu]at h
 |some d=>exact⟨d,hu,by simpa [hu]using h,hi⟩
theorem TSc.of{P:Program}{t:Nat}(h:(P.underlying t).map (·.isRow)=some false:=by kernel_rfl)(hi:(P.info? t).map (·.size)=some 1:=by kernel_rfl):TSc P t:=by
 cases hu:P.underlying t with
 |none=>simp[hu]at h
 |some d=>exact⟨d,hu,by simpa [hu]using h,hi⟩
def adF(P:Program)(t i:Nat):Option (TypeId×Nat):=match P.underlying t with
 |some (.struct fs)=>(fs[i]?).map fun f=>(f.type,f.offset)
 |_=>none
theorem bW.of{P:Program}{t i off n:Nat}{ft:TypeId}(h:adF P t i=some (ft,off):=by kernel_rfl)(hs:(P.info? ft).map (·.size)=some n:=by kernel_rfl)(hp:0<n:=by decide):bW P t i off n ft:=by
 refine⟨?_,hs,hp⟩;unfold adF at h
 split at h
 ·rename_i fs hu
  cases hf:fs[i]? with
  |none=>rw[hf]at h;cases h
  |some f=>rw[hf]at h;injection h with h;injection h with h1 h2;exact⟨fs,f,hu,hf,h1,h2⟩
 ·cases h
theorem oa.of{P:Program}{t e sz bytes:Nat}{zd:DV}(hu:P.underlying t=some (.slice e):=by kernel_rfl)(hi:(P.info? e).map (fun i=>(i.zero.map (fun z=>(Ab z,z.cells.size)),i.size,i.bytes))=some (some (zd,sz),sz,bytes):=by kernel_rfl)(hp:0<sz:=by decide):oa P t e sz bytes zd:=by
 cases hq:P.info? e with
 |none=>simp[hq]at hi
 |some i=>
  simp only[hq,Option.map_some,Option.some.injEq,Prod.mk.injEq]at hi;obtain⟨h1,h2,h3⟩:=hi;cases hz:i.zero with
  |none=>simp[hz]at h1
  |some z=>
   simp only[hz,Option.map_some,Option.some.injEq,Prod.mk.injEq]at h1;exact⟨z,⟨hu,⟨i,hq,hz,h2,h3⟩,h1.2,hp⟩,h1.1⟩
def ahl(P:Program)(t:Nat):Option (List (Nat×Nat)×Bool):=match P.underlying t with
 |some (.struct fs)=>some (fs.toList.map (fun f=>(f.offset,P.cellsOf f.type)),fs.toList.all fun f=>(P.info? f.type).isSome)
 |_=>none
theorem tI.uP{P:Program}{t:Nat}{zs:List DV}{pl:List (Nat×Nat)}(hz:eZ P t zs)(h:ahl P t=some (pl,true)):tI P t zs pl:=by
 refine⟨hz,.inl ?_⟩;unfold ahl at h
 split at h
 ·rename_i fs hu
  injection h with h;injection h with h1 h2
  exact⟨fs,hu,fun f hf=>List.all_eq_true.1 h2 f hf,h1⟩
 ·cases h
theorem tI.ofA{P:Program}{t n e s:Nat}{zs:List DV}(hz:eZ P t zs)(h:P.underlying t=some (.array n e))(hs:(P.info? e).map (·.size)=some s):tI P t zs ((List.range n).map fun i=>(i*s,s)):=⟨hz,.inr ⟨n,e,s,h,hs,rfl⟩⟩
instance:dE prog 2 1:={}
instance:AD prog 2 .i64:={}
instance:qX prog 2:=⟨.of⟩
instance:dE prog 3 1:={}
instance:AD prog 3 .i64:={}
instance:qX prog 3:=⟨.of⟩
instance:dE prog 4 1:={}
instance:adI prog 4:={}
instance:qX prog 4:=⟨.of⟩
instance:dE prog 5 1:={}
instance:AD prog 5 .u8:={}
instance:qX prog 5:=⟨.of⟩
instance:dE prog 9 1:={}
instance:qX prog 9:=⟨.of⟩
instance:dE prog 22 1:={}
instance:qX prog 22:=⟨.of⟩
instance:oa prog 22 5 1 1 (.int .u8 0):=.of
instance:qX prog 23:=⟨.of⟩
instance:oa prog 23 175 4 56 (.agg ([.int .u8 0,.int .u8 0,.bq,.bq])):=.of
instance:kE prog 25 3:=⟨.of⟩
instance:bW prog 25 0 0 1 5:=.of
instance:bW prog 25 1 1 1 22:=.of
instance:bW prog 25 2 2 1 23:=.of
instance:dE prog 26 1:={}
instance:qX prog 26:=⟨.of⟩
instance:oa prog 26 123 7 72 (.agg ([.int .u8 0,.int .i64 0,.int .i64 0,.int .i64 0,.int .i64 0,.int .i64 0,.bq])):=.of
instance:dE prog 27 1:={}
instance:qX prog 27:=⟨.of⟩
instance:oa prog 27 130 4 48 (.agg ([.int .i64 0,.int .i64 0,.int .i64 0,.bq])):=.of
instance:kE prog 29 6:=⟨.of⟩
instance:bW prog 29 0 0 3 25:=.of
instance:bW prog 29 1 3 1 26:=.of
instance:bW prog 29 2 4 1 27:=.of
instance:bW prog 29 3 5 1 5:=.of
instance:qX prog 30:=⟨.of⟩
instance:oa prog 30 48 1 8 (.int .u64 0):=.of
instance:Cu prog 32:=⟨⟨205,by kernel_rfl⟩⟩
instance:qX prog 32:=⟨.of⟩
instance:dE prog 34 1:={}
instance:eZ prog 34 ([.bq]):={}
instance:kE prog 34 1:=⟨.of⟩
instance:bW prog 34 0 0 1 26:=.of
instance:tI prog 34 ([.bq]) [(0,1)]:=.uP inferInstance (by kernel_rfl)
instance:dE prog 36 4:={}
instance:eZ prog 36 ([.val (.pointer none),.bq,.bq,.int .i64 0]):={}
instance:kE prog 36 4:=⟨.of⟩
instance:bW prog 36 0 0 1 32:=.of
instance:bW prog 36 1 1 1 34:=.of
instance:bW prog 36 2 2 1 27:=.of
instance:bW prog 36 3 3 1 3:=.of
instance:tI prog 36 ([.val (.pointer none),.bq,.bq,.int .i64 0]) [(0,1),(1,1),(2,1),(3,1)]:=.uP inferInstance (by kernel_rfl)
instance:dE prog 37 1:={}
instance:qX prog 37:=⟨.of⟩
instance:oa prog 37 179 2 24 (.agg ([.str .empty,.bool false])):=.of
instance:dE prog 38 1:={}
instance:qX prog 38:=⟨.of⟩
instance:oa prog 38 181 3 40 (.agg ([.str .empty,.str .empty,.int .i64 0])):=.of
instance:dE prog 39 1:={}
instance:qX prog 39:=⟨.of⟩
instance:oa prog 39 187 3 64 (.agg ([.str .empty,.bq,.bq])):=.of
instance:dE prog 41 4:={}
instance:eZ prog 41 ([.str .empty,.bq,.bq,.bq]):={}
instance:kE prog 41 4:=⟨.of⟩
instance:bW prog 41 0 0 1 9:=.of
instance:bW prog 41 1 1 1 37:=.of
instance:bW prog 41 2 2 1 38:=.of
instance:bW prog 41 3 3 1 39:=.of
instance:tI prog 41 ([.str .empty,.bq,.bq,.bq]) [(0,1),(1,1),(2,1),(3,1)]:=.uP inferInstance (by kernel_rfl)
instance:dE prog 45 1:={}
instance:qX prog 45:=⟨.of⟩
instance:dE prog 48 1:={}
instance:AD prog 48 .u64:={}
instance:qX prog 48:=⟨.of⟩
instance:uz prog 49 16 48 1:=⟨by kernel_rfl,by kernel_rfl⟩
instance:dE prog 51 16:={}
instance:eZ prog 51 ([.int .u64 0,.int .u64 0,.int .u64 0,.int .u64 0,.int .u64 0,.int .u64 0,.int .u64 0,.int .u64 0,.int .u64 0,.int .u64 0,.int .u64 0,.int .u64 0,.int .u64 0,.int .u64 0,.int .u64 0,.int .u64 0]):={}
instance:kE prog 51 16:=⟨.of⟩
instance:bW prog 51 0 0 16 49:=.of
instance:tI prog 51 ([.int .u64 0,.int .u64 0,.int .u64 0,.int .u64 0,.int .u64 0,.int .u64 0,.int .u64 0,.int .u64 0,.int .u64 0,.int .u64 0,.int .u64 0,.int .u64 0,.int .u64 0,.int .u64 0,.int .u64 0,.int .u64 0]) [(0,16)]:=.uP inferInstance (by kernel_rfl)
instance:dE prog 54 1:={}
instance:qX prog 54:=⟨.of⟩
instance:oa prog 54 62 9 88 (.agg ([.int .i64 0,.int .i64 0,.int .u8 0,.int .i64 0,.int .i64 0,.int .i64 0,.int .i64 0,.int .i64 0,.bq])):=.of
instance:oa prog 55 121 4 32 (.agg ([.int .u8 0,.int .i64 0,.int .i64 0,.int .i64 0])):=.of
instance:dE prog 56 1:={}
instance:qX prog 56:=⟨.of⟩
instance:oa prog 56 143 3 72 (.agg ([.bq,.bq,.bq])):=.of
instance:eZ prog 58 ([.bq,.bq,.bq]):={}
instance:bW prog 58 0 0 1 54:=.of
instance:tI prog 58 ([.bq,.bq,.bq]) [(0,1),(1,1),(2,1)]:=.uP inferInstance (by kernel_rfl)
instance:dE prog 59 1:={}
instance:AD prog 59 .u8:={}
instance:qX prog 59:=⟨.of⟩
instance:dE prog 60 1:={}
instance:qX prog 60:=⟨.of⟩
instance:oa prog 60 2 1 8 (.int .i64 0):=.of
instance:dE prog 62 9:={}
instance:eZ prog 62 ([.int .i64 0,.int .i64 0,.int .u8 0,.int .i64 0,.int .i64 0,.int .i64 0,.int .i64 0,.int .i64 0,.bq]):={}
instance:kE prog 62 9:=⟨.of⟩
instance:bW prog 62 0 0 1 3:=.of
instance:bW prog 62 1 1 1 3:=.of
instance:bW prog 62 2 2 1 59:=.of
instance:bW prog 62 3 3 1 3:=.of
instance:bW prog 62 4 4 1 3:=.of
instance:bW prog 62 5 5 1 3:=.of
instance:bW prog 62 6 6 1 3:=.of
instance:bW prog 62 7 7 1 2:=.of
instance:bW prog 62 8 8 1 60:=.of
instance:tI prog 62 ([.int .i64 0,.int .i64 0,.int .u8 0,.int .i64 0,.int .i64 0,.int .i64 0,.int .i64 0,.int .i64 0,.bq]) [(0,1),(1,1),(2,1),(3,1),(4,1),(5,1),(6,1),(7,1),(8,1)]:=.uP inferInstance (by kernel_rfl)
instance:qX prog 63:=⟨.of⟩
instance:dE prog 65 29:={}
instance:eZ prog 65 ([.int .i64 0,.int .u64 0,.int .u64 0,.int .u64 0,.int .u64 0,.int .u64 0,.int .u64 0,.int .u64 0,.int .u64 0,.int .u64 0,.int .u64 0,.int .u64 0,.int .u64 0,.int .u64 0,.int .u64 0,.int .u64 0,.int .u64 0,.int .u64 0,.int .u8 0,.int .i64 0,.int .i64 0,.int .u8 0,.int .i64 0,.int .i64 0,.int .i64 0,.int .i64 0,.int .i64 0,.bq,.int .u64 0]):={}
instance:kE prog 65 29:=⟨.of⟩
instance:bW prog 65 0 0 1 3:=.of
instance:bW prog 65 1 1 1 48:=.of
instance:bW prog 65 2 2 16 51:=.of
instance:bW prog 65 3 18 1 63:=.of
instance:bW prog 65 4 19 9 62:=.of
instance:bW prog 65 5 28 1 48:=.of
instance:tI prog 65 ([.int .i64 0,.int .u64 0,.int .u64 0,.int .u64 0,.int .u64 0,.int .u64 0,.int .u64 0,.int .u64 0,.int .u64 0,.int .u64 0,.int .u64 0,.int .u64 0,.int .u64 0,.int .u64 0,.int .u64 0,.int .u64 0,.int .u64 0,.int .u64 0,.int .u8 0,.int .i64 0,.int .i64 0,.int .u8 0,.int .i64 0,.int .i64 0,.int .i64 0,.int .i64 0,.int .i64 0,.bq,.int .u64 0]) [(0,1),(1,1),(2,16),(18,1),(19,9),(28,1)]:=.uP inferInstance (by kernel_rfl)
instance:eZ prog 76 ([.int .u8 0,.int .i64 0,.int .u64 0,.int .u64 0,.bq,.int .i64 0,.int .i64 0,.int .u8 0,.int .i64 0,.int .i64 0,.int .i64 0,.int .i64 0,.int .i64 0,.bq]):={}
instance:bW prog 76 0 0 1 5:=.of
instance:bW prog 76 1 1 1 3:=.of
instance:bW prog 76 2 2 1 48:=.of
instance:bW prog 76 3 3 1 48:=.of
instance:bW prog 76 4 4 1 30:=.of
instance:bW prog 76 5 5 9 62:=.of
instance:tI prog 76 ([.int .u8 0,.int .i64 0,.int .u64 0,.int .u64 0,.bq,.int .i64 0,.int .i64 0,.int .u8 0,.int .i64 0,.int .i64 0,.int .i64 0,.int .i64 0,.int .i64 0,.bq]) [(0,1),(1,1),(2,1),(3,1),(4,1),(5,9)]:=.uP inferInstance (by kernel_rfl)
instance:Cu prog 84:=⟨⟨145,by kernel_rfl⟩⟩
instance:Cu prog 90:=⟨⟨165,by kernel_rfl⟩⟩
instance:qX prog 90:=⟨.of⟩
instance:eZ prog 101 ([.int .i64 0,.int .i64 0,.int .i64 0,.int .i64 0,.int .i64 0,.int .i64 0]):={}
instance:uz prog 101 6 3 1:=⟨by kernel_rfl,by kernel_rfl⟩
instance:tI prog 101 ([.int .i64 0,.int .i64 0,.int .i64 0,.int .i64 0,.int .i64 0,.int .i64 0]) ((List.range 6).map fun i=>(i*1,1)):=.ofA (e:=3) inferInstance (by kernel_rfl) (by kernel_rfl)
instance:dE prog 111 1:={}
instance:qX prog 111:=⟨.of⟩
instance:oa prog 111 206 2 24 (.agg ([.str .empty,.bool false])):=.of
instance:dE prog 112 1:={}
instance:qX prog 112:=⟨.of⟩
instance:oa prog 112 207 3 40 (.agg ([.str .empty,.str .empty,.int .i64 0])):=.of
instance:dE prog 113 1:={}
instance:qX prog 113:=⟨.of⟩
instance:oa prog 113 211 3 64 (.agg ([.str .empty,.bq,.bq])):=.of
instance:dE prog 115 4:={}
instance:eZ prog 115 ([.str .empty,.bq,.bq,.bq]):={}
instance:kE prog 115 4:=⟨.of⟩
instance:bW prog 115 0 0 1 9:=.of
instance:bW prog 115 1 1 1 111:=.of
instance:bW prog 115 2 2 1 112:=.of
instance:bW prog 115 3 3 1 113:=.of
instance:tI prog 115 ([.str .empty,.bq,.bq,.bq]) [(0,1),(1,1),(2,1),(3,1)]:=.uP inferInstance (by kernel_rfl)
instance:qX prog 119:=⟨.of⟩
instance:dE prog 121 4:={}
instance:eZ prog 121 ([.int .u8 0,.int .i64 0,.int .i64 0,.int .i64 0]):={}
instance:kE prog 121 4:=⟨.of⟩
instance:bW prog 121 0 0 1 119:=.of
instance:bW prog 121 1 1 1 3:=.of
instance:bW prog 121 2 2 1 3:=.of
instance:bW prog 121 3 3 1 3:=.of
instance:tI prog 121 ([.int .u8 0,.int .i64 0,.int .i64 0,.int .i64 0]) [(0,1),(1,1),(2,1),(3,1)]:=.uP inferInstance (by kernel_rfl)
instance:dE prog 123 7:={}
instance:eZ prog 123 ([.int .u8 0,.int .i64 0,.int .i64 0,.int .i64 0,.int .i64 0,.int .i64 0,.bq]):={}
instance:kE prog 123 7:=⟨.of⟩
instance:bW prog 123 0 0 4 121:=.of
instance:bW prog 123 1 4 1 3:=.of
instance:bW prog 123 2 5 1 3:=.of
instance:bW prog 123 3 6 1 60:=.of
instance:tI prog 123 ([.int .u8 0,.int .i64 0,.int .i64 0,.int .i64 0,.int .i64 0,.int .i64 0,.bq]) [(0,4),(4,1),(5,1),(6,1)]:=.uP inferInstance (by kernel_rfl)
instance:dE prog 127 3:={}
instance:eZ prog 127 ([.int .i64 0,.int .i64 0,.int .i64 0]):={}
instance:kE prog 127 3:=⟨.of⟩
instance:bW prog 127 0 0 1 3:=.of
instance:bW prog 127 1 1 1 3:=.of
instance:bW prog 127 2 2 1 3:=.of
instance:tI prog 127 ([.int .i64 0,.int .i64 0,.int .i64 0]) [(0,1),(1,1),(2,1)]:=.uP inferInstance (by kernel_rfl)
instance:dE prog 128 1:={}
instance:qX prog 128:=⟨.of⟩
instance:oa prog 128 132 3 40 (.agg ([.int .i64 0,.int .i64 0,.bq])):=.of
instance:dE prog 130 4:={}
instance:eZ prog 130 ([.int .i64 0,.int .i64 0,.int .i64 0,.bq]):={}
instance:kE prog 130 4:=⟨.of⟩
instance:bW prog 130 0 0 3 127:=.of
instance:bW prog 130 1 3 1 128:=.of
instance:tI prog 130 ([.int .i64 0,.int .i64 0,.int .i64 0,.bq]) [(0,3),(3,1)]:=.uP inferInstance (by kernel_rfl)
instance:dE prog 132 3:={}
instance:eZ prog 132 ([.int .i64 0,.int .i64 0,.bq]):={}
instance:kE prog 132 3:=⟨.of⟩
instance:bW prog 132 0 0 1 3:=.of
instance:bW prog 132 1 1 1 3:=.of
instance:bW prog 132 2 2 1 60:=.of
instance:tI prog 132 ([.int .i64 0,.int .i64 0,.bq]) [(0,1),(1,1),(2,1)]:=.uP inferInstance (by kernel_rfl)
instance:dE prog 133 1:={}
instance:Cu prog 133:=⟨⟨234,by kernel_rfl⟩⟩
instance:qX prog 133:=⟨.of⟩
instance:Cu prog 136:=⟨⟨240,by kernel_rfl⟩⟩
instance:qX prog 136:=⟨.of⟩
instance:dE prog 138 1:={}
instance:qX prog 138:=⟨.of⟩
instance:oa prog 138 253 7 72 (.agg ([.int .i64 0,.int .i64 0,.int .i64 0,.int .i64 0,.int .i64 0,.int .i64 0,.bq])):=.of
instance:dE prog 139 1:={}
instance:qX prog 139:=⟨.of⟩
instance:oa prog 139 152 3 72 (.agg ([.bq,.bq,.bq])):=.of
instance:dE prog 140 1:={}
instance:qX prog 140:=⟨.of⟩
instance:oa prog 140 4 1 1 (.bool false):=.of
instance:dE prog 141 1:={}
instance:eZ prog 141 ([.bq]):={}
instance:qX prog 141:=⟨.of⟩
instance:oa prog 141 3 1 8 (.int .i64 0):=.of
instance:dE prog 143 3:={}
instance:eZ prog 143 ([.bq,.bq,.bq]):={}
instance:kE prog 143 3:=⟨.of⟩
instance:bW prog 143 0 0 1 139:=.of
instance:bW prog 143 1 1 1 140:=.of
instance:bW prog 143 2 2 1 141:=.of
instance:tI prog 143 ([.bq,.bq,.bq]) [(0,1),(1,1),(2,1)]:=.uP inferInstance (by kernel_rfl)
instance:eZ prog 145 ([.val (.pointer none),.bq,.bq,.int .i64 0,.bq,.bq,.val (.pointer none),.val (.pointer none),.int .i64 0,.bq,.bq,.bq,.bq,.bq]):={}
instance:bW prog 145 0 0 4 36:=.of
instance:bW prog 145 1 4 1 26:=.of
instance:bW prog 145 2 5 1 138:=.of
instance:bW prog 145 3 6 1 133:=.of
instance:bW prog 145 4 7 1 136:=.of
instance:bW prog 145 5 8 1 3:=.of
instance:bW prog 145 6 9 3 143:=.of
instance:bW prog 145 7 12 1 56:=.of
instance:bW prog 145 8 13 1 54:=.of
instance:tI prog 145 ([.val (.pointer none),.bq,.bq,.int .i64 0,.bq,.bq,.val (.pointer none),.val (.pointer none),.int .i64 0,.bq,.bq,.bq,.bq,.bq]) [(0,4),(4,1),(5,1),(6,1),(7,1),(8,1),(9,3),(12,1),(13,1)]:=.uP inferInstance (by kernel_rfl)
instance:dE prog 147 1:={}
instance:qX prog 147:=⟨.of⟩
instance:oa prog 147 150 1 24 (.agg ([.bq])):=.of
instance:qX prog 148:=⟨.of⟩
instance:oa prog 148 561 2 16 (.agg ([.int .i64 0,.int .i64 0])):=.of
instance:dE prog 150 1:={}
instance:eZ prog 150 ([.bq]):={}
instance:kE prog 150 1:=⟨.of⟩
instance:bW prog 150 0 0 1 148:=.of
instance:tI prog 150 ([.bq]) [(0,1)]:=.uP inferInstance (by kernel_rfl)
instance:dE prog 152 3:={}
instance:eZ prog 152 ([.bq,.bq,.bq]):={}
instance:kE prog 152 3:=⟨.of⟩
instance:bW prog 152 0 0 1 60:=.of
instance:bW prog 152 1 1 1 147:=.of
instance:bW prog 152 2 2 1 150:=.of
instance:tI prog 152 ([.bq,.bq,.bq]) [(0,1),(1,1),(2,1)]:=.uP inferInstance (by kernel_rfl)
instance:eZ prog 156 ([.int .i64 0,.int .i64 0,.int .i64 0,.int .i64 0,.int .i64 0,.int .i64 0,.int .i64 0,.int .i64 0]):={}
instance:uz prog 156 8 3 1:=⟨by kernel_rfl,by kernel_rfl⟩
instance:oa prog 157 160 7 72 (.agg ([.int .u8 0,.int .i64 0,.int .i64 0,.int .i64 0,.int .i64 0,.int .i64 0,.bq])):=.of
instance:dE prog 160 7:={}
instance:eZ prog 160 ([.int .u8 0,.int .i64 0,.int .i64 0,.int .i64 0,.int .i64 0,.int .i64 0,.bq]):={}
instance:kE prog 160 7:=⟨.of⟩
instance:bW prog 160 0 0 1 59:=.of
instance:bW prog 160 1 1 1 3:=.of
instance:bW prog 160 2 2 1 3:=.of
instance:bW prog 160 3 3 1 3:=.of
instance:bW prog 160 4 4 1 3:=.of
instance:bW prog 160 5 5 1 3:=.of
instance:bW prog 160 6 6 1 60:=.of
instance:tI prog 160 ([.int .u8 0,.int .i64 0,.int .i64 0,.int .i64 0,.int .i64 0,.int .i64 0,.bq]) [(0,1),(1,1),(2,1),(3,1),(4,1),(5,1),(6,1)]:=.uP inferInstance (by kernel_rfl)
instance:eZ prog 165 ([.bq,.int .i64 0]):={}
instance:bW prog 165 0 0 1 22:=.of
instance:bW prog 165 1 1 1 45:=.of
instance:tI prog 165 ([.bq,.int .i64 0]) [(0,1),(1,1)]:=.uP inferInstance (by kernel_rfl)
instance:qX prog 173:=⟨.of⟩
instance:oa prog 173 193 2 32 (.agg ([.int .u8 0,.bq])):=.of
instance:dE prog 175 4:={}
instance:eZ prog 175 ([.int .u8 0,.int .u8 0,.bq,.bq]):={}
instance:kE prog 175 4:=⟨.of⟩
instance:bW prog 175 0 0 1 5:=.of
instance:bW prog 175 1 1 1 5:=.of
instance:bW prog 175 2 2 1 173:=.of
instance:bW prog 175 3 3 1 173:=.of
instance:tI prog 175 ([.int .u8 0,.int .u8 0,.bq,.bq]) [(0,1),(1,1),(2,1),(3,1)]:=.uP inferInstance (by kernel_rfl)
instance:dE prog 176 1:={}
instance:qX prog 176:=⟨.of⟩
instance:oa prog 176 9 1 16 (.str .empty):=.of
instance:dE prog 179 2:={}
instance:eZ prog 179 ([.str .empty,.bool false]):={}
instance:kE prog 179 2:=⟨.of⟩
instance:bW prog 179 0 0 1 9:=.of
instance:bW prog 179 1 1 1 4:=.of
instance:tI prog 179 ([.str .empty,.bool false]) [(0,1),(1,1)]:=.uP inferInstance (by kernel_rfl)
instance:dE prog 181 3:={}
instance:eZ prog 181 ([.str .empty,.str .empty,.int .i64 0]):={}
instance:kE prog 181 3:=⟨.of⟩
instance:bW prog 181 0 0 1 9:=.of
instance:bW prog 181 1 1 1 9:=.of
instance:bW prog 181 2 2 1 3:=.of
instance:tI prog 181 ([.str .empty,.str .empty,.int .i64 0]) [(0,1),(1,1),(2,1)]:=.uP inferInstance (by kernel_rfl)
instance:qX prog 182:=⟨.of⟩
instance:oa prog 182 141 1 24 (.bq):=.of
instance:dE prog 184 1:={}
instance:qX prog 184:=⟨.of⟩
instance:oa prog 184 189 3 32 (.agg ([.str .empty,.int .i64 0,.int .i64 0])):=.of
instance:dE prog 185 1:={}
instance:qX prog 185:=⟨.of⟩
instance:oa prog 185 194 1 24 (.bq):=.of
instance:dE prog 187 3:={}
instance:eZ prog 187 ([.str .empty,.bq,.bq]):={}
instance:kE prog 187 3:=⟨.of⟩
instance:bW prog 187 0 0 1 9:=.of
instance:bW prog 187 1 1 1 184:=.of
instance:bW prog 187 2 2 1 185:=.of
instance:tI prog 187 ([.str .empty,.bq,.bq]) [(0,1),(1,1),(2,1)]:=.uP inferInstance (by kernel_rfl)
instance:dE prog 189 3:={}
instance:eZ prog 189 ([.str .empty,.int .i64 0,.int .i64 0]):={}
instance:kE prog 189 3:=⟨.of⟩
instance:bW prog 189 0 0 1 9:=.of
instance:bW prog 189 1 1 1 3:=.of
instance:bW prog 189 2 2 1 2:=.of
instance:tI prog 189 ([.str .empty,.int .i64 0,.int .i64 0]) [(0,1),(1,1),(2,1)]:=.uP inferInstance (by kernel_rfl)
instance:dE prog 191 8:={}
instance:eZ prog 191 ([.int .i64 0,.int .i64 0,.int .i64 0,.int .i64 0,.bq,.int .i64 0,.bq,.int .i64 0]):={}
instance:bW prog 191 0 0 1 3:=.of
instance:bW prog 191 1 1 1 3:=.of
instance:bW prog 191 2 2 1 3:=.of
instance:bW prog 191 3 3 1 3:=.of
instance:bW prog 191 4 4 1 182:=.of
instance:bW prog 191 5 5 1 3:=.of
instance:bW prog 191 6 6 1 22:=.of
instance:bW prog 191 7 7 1 3:=.of
instance:tI prog 191 ([.int .i64 0,.int .i64 0,.int .i64 0,.int .i64 0,.bq,.int .i64 0,.bq,.int .i64 0]) [(0,1),(1,1),(2,1),(3,1),(4,1),(5,1),(6,1),(7,1)]:=.uP inferInstance (by kernel_rfl)
instance:dE prog 193 2:={}
instance:eZ prog 193 ([.int .u8 0,.bq]):={}
instance:kE prog 193 2:=⟨.of⟩
instance:bW prog 193 0 0 1 5:=.of
instance:bW prog 193 1 1 1 22:=.of
instance:tI prog 193 ([.int .u8 0,.bq]) [(0,1),(1,1)]:=.uP inferInstance (by kernel_rfl)
instance:qX prog 194:=⟨.of⟩
instance:oa prog 194 220 3 64 (.agg ([.str .empty,.bq,.bq])):=.of
instance:Cu prog 196:=⟨⟨299,by kernel_rfl⟩⟩
instance:qX prog 196:=⟨.of⟩
instance:dE prog 202 32:={}
instance:eZ prog 202 (List.replicate 32 (.int .u8 0)):={}
instance:kE prog 202 32:=⟨.of⟩
instance:uz prog 202 32 5 1:=⟨by kernel_rfl,by kernel_rfl⟩
instance:eZ prog 205 ([.str .empty,.bq,.bq,.bq,.str .empty,.int .u8 0,.int .u8 0,.int .u8 0,.int .u8 0,.int .u8 0,.int .u8 0,.int .u8 0,.int .u8 0,.int .u8 0,.int .u8 0,.int .u8 0,.int .u8 0,.int .u8 0,.int .u8 0,.int .u8 0,.int .u8 0,.int .u8 0,.int .u8 0,.int .u8 0,.int .u8 0,.int .u8 0,.int .u8 0,.int .u8 0,.int .u8 0,.int .u8 0,.int .u8 0,.int .u8 0,.int .u8 0,.int .u8 0,.int .u8 0,.int .u8 0,.int .u8 0,.val (.pointer none)]):={}
instance:bW prog 205 0 0 4 115:=.of
instance:bW prog 205 3 37 1 196:=.of
instance:tI prog 205 ([.str .empty,.bq,.bq,.bq,.str .empty,.int .u8 0,.int .u8 0,.int .u8 0,.int .u8 0,.int .u8 0,.int .u8 0,.int .u8 0,.int .u8 0,.int .u8 0,.int .u8 0,.int .u8 0,.int .u8 0,.int .u8 0,.int .u8 0,.int .u8 0,.int .u8 0,.int .u8 0,.int .u8 0,.int .u8 0,.int .u8 0,.int .u8 0,.int .u8 0,.int .u8 0,.int .u8 0,.int .u8 0,.int .u8 0,.int .u8 0,.int .u8 0,.int .u8 0,.int .u8 0,.int .u8 0,.int .u8 0,.val (.pointer none)]) [(0,4),(4,1),(5,32),(37,1)]:=.uP inferInstance (by kernel_rfl)
instance:dE prog 206 2:={}
instance:eZ prog 206 ([.str .empty,.bool false]):={}
instance:kE prog 206 2:=⟨.of⟩
instance:bW prog 206 0 0 1 9:=.of
instance:bW prog 206 1 1 1 4:=.of
instance:tI prog 206 ([.str .empty,.bool false]) [(0,1),(1,1)]:=.uP inferInstance (by kernel_rfl)
instance:dE prog 207 3:={}
instance:eZ prog 207 ([.str .empty,.str .empty,.int .i64 0]):={}
instance:kE prog 207 3:=⟨.of⟩
instance:bW prog 207 0 0 1 9:=.of
instance:bW prog 207 1 1 1 9:=.of
instance:bW prog 207 2 2 1 3:=.of
instance:tI prog 207 ([.str .empty,.str .empty,.int .i64 0]) [(0,1),(1,1),(2,1)]:=.uP inferInstance (by kernel_rfl)
instance:dE prog 208 1:={}
instance:qX prog 208:=⟨.of⟩
instance:oa prog 208 214 3 32 (.agg ([.str .empty,.int .u8 0,.int .i64 0])):=.of
instance:dE prog 209 1:={}
instance:qX prog 209:=⟨.of⟩
instance:oa prog 209 217 1 24 (.agg ([.bq])):=.of
instance:dE prog 211 3:={}
instance:eZ prog 211 ([.str .empty,.bq,.bq]):={}
instance:kE prog 211 3:=⟨.of⟩
instance:bW prog 211 0 0 1 9:=.of
instance:bW prog 211 1 1 1 208:=.of
instance:bW prog 211 2 2 1 209:=.of
instance:tI prog 211 ([.str .empty,.bq,.bq]) [(0,1),(1,1),(2,1)]:=.uP inferInstance (by kernel_rfl)
instance:AD prog 212 .u8:={}
instance:qX prog 212:=⟨.of⟩
instance:dE prog 214 3:={}
instance:eZ prog 214 ([.str .empty,.int .u8 0,.int .i64 0]):={}
instance:kE prog 214 3:=⟨.of⟩
instance:bW prog 214 0 0 1 9:=.of
instance:bW prog 214 1 1 1 212:=.of
instance:bW prog 214 2 2 1 2:=.of
instance:tI prog 214 ([.str .empty,.int .u8 0,.int .i64 0]) [(0,1),(1,1),(2,1)]:=.uP inferInstance (by kernel_rfl)
instance:dE prog 215 1:={}
instance:qX prog 215:=⟨.of⟩
instance:oa prog 215 224 3 64 (.agg ([.str .empty,.bq,.bq])):=.of
instance:dE prog 217 1:={}
instance:eZ prog 217 ([.bq]):={}
instance:kE prog 217 1:=⟨.of⟩
instance:bW prog 217 0 0 1 215:=.of
instance:tI prog 217 ([.bq]) [(0,1)]:=.uP inferInstance (by kernel_rfl)
instance:qX prog 218:=⟨.of⟩
instance:oa prog 218 328 6 112 (.agg ([.int .i64 0,.str .empty,.str .empty,.bq,.bq,.bq])):=.of
instance:dE prog 220 3:={}
instance:eZ prog 220 ([.str .empty,.bq,.bq]):={}
instance:kE prog 220 3:=⟨.of⟩
instance:bW prog 220 0 0 1 9:=.of
instance:bW prog 220 1 1 1 176:=.of
instance:bW prog 220 2 2 1 218:=.of
instance:tI prog 220 ([.str .empty,.bq,.bq]) [(0,1),(1,1),(2,1)]:=.uP inferInstance (by kernel_rfl)
instance:dE prog 221 1:={}
instance:qX prog 221:=⟨.of⟩
instance:oa prog 221 332 6 112 (.agg ([.int .u8 0,.str .empty,.str .empty,.bq,.bq,.bq])):=.of
instance:dE prog 224 3:={}
instance:eZ prog 224 ([.str .empty,.bq,.bq]):={}
instance:kE prog 224 3:=⟨.of⟩
instance:bW prog 224 0 0 1 9:=.of
instance:bW prog 224 1 1 1 176:=.of
instance:bW prog 224 2 2 1 221:=.of
instance:tI prog 224 ([.str .empty,.bq,.bq]) [(0,1),(1,1),(2,1)]:=.uP inferInstance (by kernel_rfl)
instance:qX prog 231:=⟨.of⟩
instance:uz prog 232 8 156 8:=⟨by kernel_rfl,by kernel_rfl⟩
instance:eZ prog 234 ([.bq,.bq,.int .i64 0,.int .i64 0,.int .i64 0,.int .i64 0,.int .i64 0,.int .i64 0,.int .i64 0,.int .i64 0,.int .i64 0,.int .i64 0,.int .i64 0,.int .i64 0,.int .i64 0,.int .i64 0,.int .i64 0,.int .i64 0,.int .i64 0,.int .i64 0,.int .i64 0,.int .i64 0,.int .i64 0,.int .i64 0,.int .i64 0,.int .i64 0,.int .i64 0,.int .i64 0,.int .i64 0,.int .i64 0,.int .i64 0,.int .i64 0,.int .i64 0,.int .i64 0,.int .i64 0,.int .i64 0,.int .i64 0,.int .i64 0,.int .i64 0,.int .i64 0,.int .i64 0,.int .i64 0,.int .i64 0,.int .i64 0,.int .i64 0,.int .i64 0,.int .i64 0,.int .i64 0,.int .i64 0,.int .i64 0,.int .i64 0,.int .i64 0,.int .i64 0,.int .i64 0,.int .i64 0,.int .i64 0,.int .i64 0,.int .i64 0,.int .i64 0,.int .i64 0,.int .i64 0,.int .i64 0,.int .i64 0,.int .i64 0,.int .i64 0,.int .i64 0,.int .i64 0,.int .i64 0,.int .i64 0,.int .i64 0,.int .i64 0,.int .i64 0,.int .i64 0,.int .i64 0,.int .i64 0,.int .i64 0,.int .i64 0,.int .i64 0,.int .i64 0,.int .i64 0,.int .i64 0,.int .i64 0,.val (.map none)]):={}
instance:bW prog 234 0 0 1 34:=.of
instance:bW prog 234 1 1 1 27:=.of
instance:bW prog 234 2 2 64 232:=.of
instance:bW prog 234 3 66 8 156:=.of
instance:bW prog 234 4 74 8 156:=.of
instance:bW prog 234 5 82 1 231:=.of
instance:tI prog 234 ([.bq,.bq,.int .i64 0,.int .i64 0,.int .i64 0,.int .i64 0,.int .i64 0,.int .i64 0,.int .i64 0,.int .i64 0,.int .i64 0,.int .i64 0,.int .i64 0,.int .i64 0,.int .i64 0,.int .i64 0,.int .i64 0,.int .i64 0,.int .i64 0,.int .i64 0,.int .i64 0,.int .i64 0,.int .i64 0,.int .i64 0,.int .i64 0,.int .i64 0,.int .i64 0,.int .i64 0,.int .i64 0,.int .i64 0,.int .i64 0,.int .i64 0,.int .i64 0,.int .i64 0,.int .i64 0,.int .i64 0,.int .i64 0,.int .i64 0,.int .i64 0,.int .i64 0,.int .i64 0,.int .i64 0,.int .i64 0,.int .i64 0,.int .i64 0,.int .i64 0,.int .i64 0,.int .i64 0,.int .i64 0,.int .i64 0,.int .i64 0,.int .i64 0,.int .i64 0,.int .i64 0,.int .i64 0,.int .i64 0,.int .i64 0,.int .i64 0,.int .i64 0,.int .i64 0,.int .i64 0,.int .i64 0,.int .i64 0,.int .i64 0,.int .i64 0,.int .i64 0,.int .i64 0,.int .i64 0,.int .i64 0,.int .i64 0,.int .i64 0,.int .i64 0,.int .i64 0,.int .i64 0,.int .i64 0,.int .i64 0,.int .i64 0,.int .i64 0,.int .i64 0,.int .i64 0,.int .i64 0,.int .i64 0,.val (.map none)]) [(0,1),(1,1),(2,64),(66,8),(74,8),(82,1)]:=.uP inferInstance (by kernel_rfl)
instance:dE prog 238 1:={}
instance:qX prog 238:=⟨.of⟩
instance:oa prog 238 255 8 80 (.agg ([.int .i64 0,.int .u8 0,.int .i64 0,.int .i64 0,.int .i64 0,.int .i64 0,.int .i64 0,.bq])):=.of
instance:eZ prog 240 ([.bq]):={}
instance:bW prog 240 0 0 1 238:=.of
instance:tI prog 240 ([.bq]) [(0,1)]:=.uP inferInstance (by kernel_rfl)
instance:dE prog 253 7:={}
instance:eZ prog 253 ([.int .i64 0,.int .i64 0,.int .i64 0,.int .i64 0,.int .i64 0,.int .i64 0,.bq]):={}
instance:kE prog 253 7:=⟨.of⟩
instance:bW prog 253 0 0 3 127:=.of
instance:bW prog 253 1 3 1 3:=.of
instance:bW prog 253 2 4 3 132:=.of
instance:tI prog 253 ([.int .i64 0,.int .i64 0,.int .i64 0,.int .i64 0,.int .i64 0,.int .i64 0,.bq]) [(0,3),(3,1),(4,3)]:=.uP inferInstance (by kernel_rfl)
instance:dE prog 255 8:={}
instance:eZ prog 255 ([.int .i64 0,.int .u8 0,.int .i64 0,.int .i64 0,.int .i64 0,.int .i64 0,.int .i64 0,.bq]):={}
instance:kE prog 255 8:=⟨.of⟩
instance:bW prog 255 0 0 1 3:=.of
instance:bW prog 255 1 1 7 160:=.of
instance:tI prog 255 ([.int .i64 0,.int .u8 0,.int .i64 0,.int .i64 0,.int .i64 0,.int .i64 0,.int .i64 0,.bq]) [(0,1),(1,7)]:=.uP inferInstance (by kernel_rfl)
instance:dE prog 261 1:={}
instance:qX prog 261:=⟨.of⟩
instance:oa prog 261 357 4 32 (.agg ([.int .u8 0,.int .i64 0,.int .i64 0,.int .i64 0])):=.of
instance:dE prog 263 3:={}
instance:eZ prog 263 ([.int .i64 0,.int .i64 0,.bq]):={}
instance:kE prog 263 3:=⟨.of⟩
instance:bW prog 263 0 0 1 3:=.of
instance:bW prog 263 1 1 1 3:=.of
instance:bW prog 263 2 2 1 261:=.of
instance:tI prog 263 ([.int .i64 0,.int .i64 0,.bq]) [(0,1),(1,1),(2,1)]:=.uP inferInstance (by kernel_rfl)
instance:dE prog 268 1:={}
instance:qX prog 268:=⟨.of⟩
instance:oa prog 268 279 8 80 (.agg ([.int .u8 0,.int .i64 0,.int .i64 0,.int .i64 0,.int .i64 0,.int .i64 0,.bool false,.bq])):=.of
instance:dE prog 270 5:={}
instance:eZ prog 270 ([.bq,.bq,.bq,.bq,.int .i64 0]):={}
instance:kE prog 270 5:=⟨.of⟩
instance:bW prog 270 0 0 3 152:=.of
instance:bW prog 270 1 3 1 268:=.of
instance:bW prog 270 2 4 1 3:=.of
instance:tI prog 270 ([.bq,.bq,.bq,.bq,.int .i64 0]) [(0,3),(3,1),(4,1)]:=.uP inferInstance (by kernel_rfl)
instance:eZ prog 274 ([.bq,.int .i64 0,.bq,.int .i64 0,.bq]):={}
instance:kE prog 274 5:=⟨.of⟩
instance:bW prog 274 0 0 1 60:=.of
instance:bW prog 274 1 1 1 2:=.of
instance:bW prog 274 2 2 1 140:=.of
instance:bW prog 274 3 3 1 3:=.of
instance:bW prog 274 4 4 1 141:=.of
instance:tI prog 274 ([.bq,.int .i64 0,.bq,.int .i64 0,.bq]) [(0,1),(1,1),(2,1),(3,1),(4,1)]:=.uP inferInstance (by kernel_rfl)
instance:dE prog 277 1:={}
instance:qX prog 277:=⟨.of⟩
instance:dE prog 279 8:={}
instance:eZ prog 279 ([.int .u8 0,.int .i64 0,.int .i64 0,.int .i64 0,.int .i64 0,.int .i64 0,.bool false,.bq]):={}
instance:kE prog 279 8:=⟨.of⟩
instance:bW prog 279 0 0 1 277:=.of
instance:bW prog 279 1 1 1 3:=.of
instance:bW prog 279 2 2 1 3:=.of
instance:bW prog 279 3 3 1 2:=.of
instance:bW prog 279 4 4 1 2:=.of
instance:bW prog 279 5 5 1 2:=.of
instance:bW prog 279 6 6 1 4:=.of
instance:bW prog 279 7 7 1 60:=.of
instance:tI prog 279 ([.int .u8 0,.int .i64 0,.int .i64 0,.int .i64 0,.int .i64 0,.int .i64 0,.bool false,.bq]) [(0,1),(1,1),(2,1),(3,1),(4,1),(5,1),(6,1),(7,1)]:=.uP inferInstance (by kernel_rfl)
instance:AD prog 282 .u64:={}
instance:dE prog 289 3:={}
instance:eZ prog 289 ([.str .empty,.str .empty,.int .i64 0]):={}
instance:kE prog 289 3:=⟨.of⟩
instance:bW prog 289 2 2 1 45:=.of
instance:tI prog 289 ([.str .empty,.str .empty,.int .i64 0]) [(0,1),(1,1),(2,1)]:=.uP inferInstance (by kernel_rfl)
instance:dE prog 293 1:={}
instance:qX prog 293:=⟨.of⟩
instance:oa prog 293 176 1 24 (.bq):=.of
instance:eZ prog 295 ([.str .empty,.bq,.bq,.bq,.bq,.int .i64 0,.bq,.bq,.bq,.bq,.bq]):={}
instance:bW prog 295 0 0 4 115:=.of
instance:bW prog 295 1 4 1 293:=.of
instance:bW prog 295 2 5 1 3:=.of
instance:bW prog 295 3 6 1 176:=.of
instance:bW prog 295 4 7 1 176:=.of
instance:bW prog 295 5 8 1 176:=.of
instance:bW prog 295 6 9 1 176:=.of
instance:bW prog 295 7 10 1 261:=.of
instance:tI prog 295 ([.str .empty,.bq,.bq,.bq,.bq,.int .i64 0,.bq,.bq,.bq,.bq,.bq]) [(0,4),(4,1),(5,1),(6,1),(7,1),(8,1),(9,1),(10,1)]:=.uP inferInstance (by kernel_rfl)
instance:dE prog 297 1:={}
instance:qX prog 297:=⟨.of⟩
instance:oa prog 297 303 3 72 (.agg ([.bq,.bq,.bq])):=.of
instance:eZ prog 299 ([.bq]):={}
instance:bW prog 299 0 0 1 297:=.of
instance:tI prog 299 ([.bq]) [(0,1)]:=.uP inferInstance (by kernel_rfl)
instance:dE prog 300 1:={}
instance:qX prog 300:=⟨.of⟩
instance:oa prog 300 379 1 24 (.bq):=.of
instance:dE prog 301 1:={}
instance:qX prog 301:=⟨.of⟩
instance:oa prog 301 140 1 24 (.bq):=.of
instance:dE prog 303 3:={}
instance:eZ prog 303 ([.bq,.bq,.bq]):={}
instance:kE prog 303 3:=⟨.of⟩
instance:bW prog 303 0 0 1 176:=.of
instance:bW prog 303 1 1 1 300:=.of
instance:bW prog 303 2 2 1 301:=.of
instance:tI prog 303 ([.bq,.bq,.bq]) [(0,1),(1,1),(2,1)]:=.uP inferInstance (by kernel_rfl)
instance:dE prog 306 1:={}
instance:Cu prog 306:=⟨⟨308,by kernel_rfl⟩⟩
instance:qX prog 306:=⟨.of⟩
instance:bW prog 308 0 0 1 306:=.of
instance:bW prog 308 1 1 1 22:=.of
instance:eZ prog 310 ([.val (.pointer none),.bq,.int .i64 0]):={}
instance:bW prog 310 0 0 2 308:=.of
instance:bW prog 310 1 2 1 3:=.of
instance:tI prog 310 ([.val (.pointer none),.bq,.int .i64 0]) [(0,2),(2,1)]:=.uP inferInstance (by kernel_rfl)
instance:Cu prog 322:=⟨⟨398,by kernel_rfl⟩⟩
instance:qX prog 326:=⟨.of⟩
instance:oa prog 326 334 4 56 (.agg ([.int .i64 0,.str .empty,.int .i64 0,.bq])):=.of
instance:dE prog 328 6:={}
instance:eZ prog 328 ([.int .i64 0,.str .empty,.str .empty,.bq,.bq,.bq]):={}
instance:kE prog 328 6:=⟨.of⟩
instance:bW prog 328 0 0 1 3:=.of
instance:bW prog 328 1 1 1 9:=.of
instance:bW prog 328 2 2 1 9:=.of
instance:bW prog 328 3 3 1 326:=.of
instance:bW prog 328 4 4 1 218:=.of
instance:bW prog 328 5 5 1 218:=.of
instance:tI prog 328 ([.int .i64 0,.str .empty,.str .empty,.bq,.bq,.bq]) [(0,1),(1,1),(2,1),(3,1),(4,1),(5,1)]:=.uP inferInstance (by kernel_rfl)
instance:AD prog 329 .u8:={}
instance:qX prog 329:=⟨.of⟩
instance:dE prog 330 1:={}
instance:qX prog 330:=⟨.of⟩
instance:oa prog 330 337 4 56 (.agg ([.int .u8 0,.str .empty,.int .i64 0,.bq])):=.of
instance:dE prog 332 6:={}
instance:eZ prog 332 ([.int .u8 0,.str .empty,.str .empty,.bq,.bq,.bq]):={}
instance:kE prog 332 6:=⟨.of⟩
instance:bW prog 332 0 0 1 329:=.of
instance:bW prog 332 1 1 1 9:=.of
instance:bW prog 332 2 2 1 9:=.of
instance:bW prog 332 3 3 1 330:=.of
instance:bW prog 332 4 4 1 221:=.of
instance:bW prog 332 5 5 1 221:=.of
instance:tI prog 332 ([.int .u8 0,.str .empty,.str .empty,.bq,.bq,.bq]) [(0,1),(1,1),(2,1),(3,1),(4,1),(5,1)]:=.uP inferInstance (by kernel_rfl)
instance:dE prog 334 4:={}
instance:eZ prog 334 ([.int .i64 0,.str .empty,.int .i64 0,.bq]):={}
instance:kE prog 334 4:=⟨.of⟩
instance:bW prog 334 0 0 1 3:=.of
instance:bW prog 334 1 1 1 9:=.of
instance:bW prog 334 2 2 1 2:=.of
instance:bW prog 334 3 3 1 326:=.of
instance:tI prog 334 ([.int .i64 0,.str .empty,.int .i64 0,.bq]) [(0,1),(1,1),(2,1),(3,1)]:=.uP inferInstance (by kernel_rfl)
instance:AD prog 335 .u8:={}
instance:qX prog 335:=⟨.of⟩
instance:dE prog 337 4:={}
instance:eZ prog 337 ([.int .u8 0,.str .empty,.int .i64 0,.bq]):={}
instance:kE prog 337 4:=⟨.of⟩
instance:bW prog 337 0 0 1 335:=.of
instance:bW prog 337 1 1 1 9:=.of
instance:bW prog 337 2 2 1 2:=.of
instance:bW prog 337 3 3 1 330:=.of
instance:tI prog 337 ([.int .u8 0,.str .empty,.int .i64 0,.bq]) [(0,1),(1,1),(2,1),(3,1)]:=.uP inferInstance (by kernel_rfl)
instance:qX prog 355:=⟨.of⟩
instance:dE prog 357 4:={}
instance:eZ prog 357 ([.int .u8 0,.int .i64 0,.int .i64 0,.int .i64 0]):={}
instance:kE prog 357 4:=⟨.of⟩
instance:bW prog 357 0 0 1 355:=.of
instance:bW prog 357 1 1 1 3:=.of
instance:bW prog 357 2 2 1 3:=.of
instance:bW prog 357 3 3 1 2:=.of
instance:tI prog 357 ([.int .u8 0,.int .i64 0,.int .i64 0,.int .i64 0]) [(0,1),(1,1),(2,1),(3,1)]:=.uP inferInstance (by kernel_rfl)
instance:eZ prog 361 ([.bq,.bq,.bq,.bq,.int .i64 0,.bq,.bq,.int .i64 0,.bq,.int .i64 0,.bq,.bq,.int .i64 0,.int .i64 0,.int .i64 0,.bool false]):={}
instance:bW prog 361 0 0 5 270:=.of
instance:bW prog 361 1 5 1 261:=.of
instance:bW prog 361 2 6 5 274:=.of
instance:bW prog 361 3 11 1 60:=.of
instance:bW prog 361 4 12 1 3:=.of
instance:bW prog 361 5 13 1 3:=.of
instance:bW prog 361 6 14 1 3:=.of
instance:bW prog 361 7 15 1 4:=.of
instance:tI prog 361 ([.bq,.bq,.bq,.bq,.int .i64 0,.bq,.bq,.int .i64 0,.bq,.int .i64 0,.bq,.bq,.int .i64 0,.int .i64 0,.int .i64 0,.bool false]) [(0,5),(5,1),(6,5),(11,1),(12,1),(13,1),(14,1),(15,1)]:=.uP inferInstance (by kernel_rfl)
instance:qX prog 374:=⟨.of⟩
instance:eZ prog 376 ([.str .empty,.bq,.bq,.bq,.str .empty,.str .empty,.str .empty,.int .i64 0]):={}
instance:bW prog 376 0 0 4 115:=.of
instance:bW prog 376 1 4 1 9:=.of
instance:bW prog 376 2 5 3 289:=.of
instance:tI prog 376 ([.str .empty,.bq,.bq,.bq,.str .empty,.str .empty,.str .empty,.int .i64 0]) [(0,4),(4,1),(5,3)]:=.uP inferInstance (by kernel_rfl)
instance:qX prog 379:=⟨.of⟩
instance:oa prog 379 263 3 40 (.agg ([.int .i64 0,.int .i64 0,.bq])):=.of
instance:dE prog 394 1:={}
instance:AD prog 394 .u32:={}
instance:qX prog 394:=⟨.of⟩
instance:dE prog 395 8:={}
instance:eZ prog 395 ([.int .u32 0,.int .u32 0,.int .u32 0,.int .u32 0,.int .u32 0,.int .u32 0,.int .u32 0,.int .u32 0]):={}
instance:kE prog 395 8:=⟨.of⟩
instance:uz prog 395 8 394 1:=⟨by kernel_rfl,by kernel_rfl⟩
instance:tI prog 395 ([.int .u32 0,.int .u32 0,.int .u32 0,.int .u32 0,.int .u32 0,.int .u32 0,.int .u32 0,.int .u32 0]) ((List.range 8).map fun i=>(i*1,1)):=.ofA (e:=394) inferInstance (by kernel_rfl) (by kernel_rfl)
instance:uz prog 396 64 5 1:=⟨by kernel_rfl,by kernel_rfl⟩
instance:dE prog 398 73:={}
instance:eZ prog 398 ([.int .u32 0,.int .u32 0,.int .u32 0,.int .u32 0,.int .u32 0,.int .u32 0,.int .u32 0,.int .u32 0,.int .u8 0,.int .u8 0,.int .u8 0,.int .u8 0,.int .u8 0,.int .u8 0,.int .u8 0,.int .u8 0,.int .u8 0,.int .u8 0,.int .u8 0,.int .u8 0,.int .u8 0,.int .u8 0,.int .u8 0,.int .u8 0,.int .u8 0,.int .u8 0,.int .u8 0,.int .u8 0,.int .u8 0,.int .u8 0,.int .u8 0,.int .u8 0,.int .u8 0,.int .u8 0,.int .u8 0,.int .u8 0,.int .u8 0,.int .u8 0,.int .u8 0,.int .u8 0,.int .u8 0,.int .u8 0,.int .u8 0,.int .u8 0,.int .u8 0,.int .u8 0,.int .u8 0,.int .u8 0,.int .u8 0,.int .u8 0,.int .u8 0,.int .u8 0,.int .u8 0,.int .u8 0,.int .u8 0,.int .u8 0,.int .u8 0,.int .u8 0,.int .u8 0,.int .u8 0,.int .u8 0,.int .u8 0,.int .u8 0,.int .u8 0,.int .u8 0,.int .u8 0,.int .u8 0,.int .u8 0,.int .u8 0,.int .u8 0,.int .u8 0,.int .u8 0,.int .u64 0]):={}
instance:kE prog 398 73:=⟨.of⟩
instance:bW prog 398 0 0 8 395:=.of
instance:bW prog 398 1 8 64 396:=.of
instance:bW prog 398 2 72 1 48:=.of
instance:tI prog 398 ([.int .u32 0,.int .u32 0,.int .u32 0,.int .u32 0,.int .u32 0,.int .u32 0,.int .u32 0,.int .u32 0,.int .u8 0,.int .u8 0,.int .u8 0,.int .u8 0,.int .u8 0,.int .u8 0,.int .u8 0,.int .u8 0,.int .u8 0,.int .u8 0,.int .u8 0,.int .u8 0,.int .u8 0,.int .u8 0,.int .u8 0,.int .u8 0,.int .u8 0,.int .u8 0,.int .u8 0,.int .u8 0,.int .u8 0,.int .u8 0,.int .u8 0,.int .u8 0,.int .u8 0,.int .u8 0,.int .u8 0,.int .u8 0,.int .u8 0,.int .u8 0,.int .u8 0,.int .u8 0,.int .u8 0,.int .u8 0,.int .u8 0,.int .u8 0,.int .u8 0,.int .u8 0,.int .u8 0,.int .u8 0,.int .u8 0,.int .u8 0,.int .u8 0,.int .u8 0,.int .u8 0,.int .u8 0,.int .u8 0,.int .u8 0,.int .u8 0,.int .u8 0,.int .u8 0,.int .u8 0,.int .u8 0,.int .u8 0,.int .u8 0,.int .u8 0,.int .u8 0,.int .u8 0,.int .u8 0,.int .u8 0,.int .u8 0,.int .u8 0,.int .u8 0,.int .u8 0,.int .u64 0]) [(0,8),(8,64),(72,1)]:=.uP inferInstance (by kernel_rfl)
instance:eZ prog 450 (List.replicate 64 (.int .u32 0)):={}
instance:uz prog 450 64 394 1:=⟨by kernel_rfl,by kernel_rfl⟩
instance:dE prog 465 3:={}
instance:eZ prog 465 ([.int .i64 0,.int .i64 0,.int .i64 0]):={}
instance:kE prog 465 3:=⟨.of⟩
instance:uz prog 465 3 3 1:=⟨by kernel_rfl,by kernel_rfl⟩
instance:tI prog 465 ([.int .i64 0,.int .i64 0,.int .i64 0]) ((List.range 3).map fun i=>(i*1,1)):=.ofA (e:=3) inferInstance (by kernel_rfl) (by kernel_rfl)
instance:dE prog 473 4:={}
instance:eZ prog 473 ([.str .empty,.str .empty,.int .i64 0,.int .i64 0]):={}
instance:kE prog 473 4:=⟨.of⟩
instance:bW prog 473 1 1 1 9:=.of
instance:bW prog 473 2 2 1 3:=.of
instance:bW prog 473 3 3 1 3:=.of
instance:tI prog 473 ([.str .empty,.str .empty,.int .i64 0,.int .i64 0]) [(0,1),(1,1),(2,1),(3,1)]:=.uP inferInstance (by kernel_rfl)
instance:dE prog 496 6:={}
instance:eZ prog 496 ([.bool false,.bool false,.int .i64 0,.int .i64 0,.bool false,.bool false]):={}
instance:kE prog 496 6:=⟨.of⟩
instance:bW prog 496 0 0 1 4:=.of
instance:bW prog 496 1 1 1 4:=.of
instance:bW prog 496 2 2 1 3:=.of
instance:bW prog 496 3 3 1 3:=.of
instance:bW prog 496 4 4 1 4:=.of
instance:bW prog 496 5 5 1 4:=.of
instance:tI prog 496 ([.bool false,.bool false,.int .i64 0,.int .i64 0,.bool false,.bool false]) [(0,1),(1,1),(2,1),(3,1),(4,1),(5,1)]:=.uP inferInstance (by kernel_rfl)
instance:eZ prog 506 ([.bq,.bq,.bq]):={}
instance:kE prog 506 3:=⟨.of⟩
instance:bW prog 506 0 0 1 111:=.of
instance:bW prog 506 1 1 1 208:=.of
instance:bW prog 506 2 2 1 176:=.of
instance:tI prog 506 ([.bq,.bq,.bq]) [(0,1),(1,1),(2,1)]:=.uP inferInstance (by kernel_rfl)
instance:eZ prog 508 ([.val (.pointer none),.bq,.bq,.bq,.str .empty,.bq,.bq,.str .empty,.int .i64 0]):={}
instance:bW prog 508 0 0 1 374:=.of
instance:bW prog 508 1 1 3 506:=.of
instance:bW prog 508 2 4 3 211:=.of
instance:bW prog 508 3 7 1 9:=.of
instance:bW prog 508 4 8 1 3:=.of
instance:tI prog 508 ([.val (.pointer none),.bq,.bq,.bq,.str .empty,.bq,.bq,.str .empty,.int .i64 0]) [(0,1),(1,3),(4,3),(7,1),(8,1)]:=.uP inferInstance (by kernel_rfl)
instance:uz prog 523 35 473 4:=⟨by kernel_rfl,by kernel_rfl⟩
instance:kE prog 534 25:=⟨.of⟩
instance:uz prog 534 25 9 1:=⟨by kernel_rfl,by kernel_rfl⟩
instance:uz prog 536 11 496 6:=⟨by kernel_rfl,by kernel_rfl⟩
instance:dE prog 540 4:={}
instance:eZ prog 540 ([.int .i64 0,.bool false,.int .i64 0,.str .empty]):={}
instance:kE prog 540 4:=⟨.of⟩
instance:bW prog 540 0 0 1 3:=.of
instance:bW prog 540 1 1 1 4:=.of
instance:bW prog 540 2 2 1 3:=.of
instance:bW prog 540 3 3 1 9:=.of
instance:tI prog 540 ([.int .i64 0,.bool false,.int .i64 0,.str .empty]) [(0,1),(1,1),(2,1),(3,1)]:=.uP inferInstance (by kernel_rfl)
instance:eZ prog 561 ([.int .i64 0,.int .i64 0]):={}
instance:kE prog 561 2:=⟨.of⟩
instance:bW prog 561 0 0 1 2:=.of
instance:bW prog 561 1 1 1 2:=.of
instance:tI prog 561 ([.int .i64 0,.int .i64 0]) [(0,1),(1,1)]:=.uP inferInstance (by kernel_rfl)
instance:kE prog 563 39:=⟨.of⟩
instance:uz prog 563 39 9 1:=⟨by kernel_rfl,by kernel_rfl⟩
instance:uz prog 564 24 540 4:=⟨by kernel_rfl,by kernel_rfl⟩
instance:oa prog 574 148 1 24 (.bq):=.of
instance:dq prog 4:={}
instance:dq prog 5:={}
instance:dq prog 6:={}
instance:dq prog 7:={}
instance:dq prog 8:={}
instance:dq prog 9:={}
instance:dq prog 10:={}
instance:dq prog 11:={}
instance:dq prog 12:={}
instance:dq prog 13:={}
instance:dq prog 14:={}
instance:dq prog 15:={}
instance:dq prog 16:={}
instance:dq prog 17:={}
instance:dq prog 18:={}
instance:dq prog 19:={}
instance:dq prog 20:={}
instance:dq prog 21:={}
instance:dq prog 22:={}
instance:dq prog 23:={}
instance:dq prog 24:={}
instance:dq prog 25:={}
instance:dq prog 26:={}
instance:dq prog 27:={}
instance:dq prog 28:={}
instance:dq prog 29:={}
instance:dq prog 30:={}
instance:dq prog 31:={}
instance:dq prog 32:={}
instance:dq prog 33:={}
instance:dq prog 34:={}
instance:dq prog 35:={}
instance:dq prog 36:={}
instance:dq prog 37:={}
instance:dq prog 38:={}
instance:dq prog 39:={}
instance:dq prog 40:={}
instance:dq prog 41:={}
instance:dq prog 42:={}
instance:dq prog 43:={}
instance:dq prog 44:={}
instance:dq prog 45:={}
instance:dq prog 46:={}
instance:dq prog 47:={}
instance:dq prog 48:={}
instance:dq prog 49:={}
instance:dq prog 50:={}
instance:dq prog 51:={}
instance:dq prog 52:={}
instance:dq prog 53:={}
instance:dq prog 54:={}
instance:dq prog 55:={}
instance:dq prog 56:={}
instance:dq prog 57:={}
instance:dq prog 58:={}
instance:dq prog 59:={}
instance:dq prog 60:={}
instance:dq prog 61:={}
instance:dq prog 62:={}
instance:dq prog 63:={}
instance:dq prog 64:={}
instance:dq prog 65:={}
instance:dq prog 66:={}
instance:dq prog 67:={}
instance:dq prog 68:={}
instance:dq prog 69:={}
instance:dq prog 70:={}
instance:dq prog 71:={}
instance:dq prog 72:={}
instance:dq prog 73:={}
instance:dq prog 74:={}
instance:dq prog 75:={}
instance:dq prog 76:={}
instance:dq prog 77:={}
instance:dq prog 78:={}
instance:dq prog 79:={}
instance:dq prog 80:={}
instance:dq prog 81:={}
instance:dq prog 82:={}
instance:dq prog 83:={}
instance:dq prog 84:={}
instance:dq prog 85:={}
instance:dq prog 86:={}
instance:dq prog 87:={}
instance:dq prog 88:={}
instance:dq prog 89:={}
instance:dq prog 90:={}
instance:dq prog 91:={}
instance:dq prog 92:={}
instance:dq prog 93:={}
instance:dq prog 94:={}
instance:dq prog 95:={}
instance:dq prog 96:={}
instance:dq prog 97:={}
instance:dq prog 98:={}
instance:dq prog 99:={}
instance:dq prog 100:={}
instance:dq prog 101:={}
instance:dq prog 102:={}
instance:dq prog 103:={}
instance:dq prog 104:={}
instance:dq prog 105:={}
instance:dq prog 106:={}
instance:dq prog 107:={}
instance:dq prog 108:={}
instance:dq prog 109:={}
instance:dq prog 110:={}
instance:dq prog 111:={}
instance:dq prog 112:={}
instance:dq prog 113:={}
instance:dq prog 114:={}
instance:dq prog 115:={}
instance:dq prog 116:={}
instance:dq prog 117:={}
instance:dq prog 118:={}
instance:dq prog 119:={}
instance:dq prog 120:={}
instance:dq prog 121:={}
instance:dq prog 122:={}
instance:dq prog 123:={}
instance:dq prog 124:={}
instance:dq prog 125:={}
instance:dq prog 126:={}
instance:dq prog 127:={}
instance:dq prog 128:={}
instance:dq prog 129:={}
instance:dq prog 130:={}
instance:dq prog 131:={}
instance:dq prog 132:={}
instance:dq prog 133:={}
instance:dq prog 134:={}
instance:dq prog 135:={}
instance:dq prog 136:={}
instance:dq prog 137:={}
instance:dq prog 138:={}
instance:dq prog 139:={}
instance:dq prog 140:={}
instance:dq prog 141:={}
instance:dq prog 142:={}
instance:dq prog 143:={}
instance:dq prog 144:={}
instance:dq prog 145:={}
instance:dq prog 146:={}
instance:dq prog 147:={}
instance:dq prog 148:={}
instance:dq prog 149:={}
instance:dq prog 150:={}
instance:dq prog 151:={}
instance:dq prog 152:={}
instance:dq prog 153:={}
instance:dq prog 154:={}
instance:dq prog 155:={}
instance:dq prog 156:={}
instance:dq prog 157:={}
instance:dq prog 158:={}
instance:dq prog 159:={}
instance:dq prog 160:={}
instance:dq prog 161:={}
instance:dq prog 162:={}
instance:dq prog 163:={}
instance:dq prog 164:={}
instance:dq prog 165:={}
instance:dq prog 166:={}
instance:dq prog 167:={}
instance:dq prog 168:={}
instance:dq prog 169:={}
instance:dq prog 170:={}
instance:dq prog 171:={}
instance:dq prog 172:={}
instance:dq prog 173:={}
instance:dq prog 174:={}
instance:dq prog 175:={}
instance:dq prog 176:={}
instance:dq prog 177:={}
instance:dq prog 178:={}
instance:dq prog 179:={}
instance:dq prog 180:={}
instance:dq prog 181:={}
instance:dq prog 182:={}
instance:dq prog 183:={}
instance:dq prog 184:={}
instance:dq prog 185:={}
instance:dq prog 186:={}
instance:dq prog 187:={}
instance:dq prog 188:={}
instance:dq prog 189:={}
instance:dq prog 190:={}
instance:dq prog 191:={}
instance:dq prog 192:={}
instance:dq prog 193:={}
instance:dq prog 194:={}
instance:dq prog 195:={}
instance:dq prog 204:={}
instance:dq prog 205:={}
instance:dq prog 206:={}
instance:dq prog 207:={}
instance:dq prog 208:={}
instance:dq prog 209:={}
instance:dq prog 210:={}
instance:dq prog 211:={}
instance:dq prog 212:={}
instance:dq prog 213:={}
instance:dq prog 214:={}
instance:dq prog 215:={}
instance:dq prog 216:={}
instance:dq prog 217:={}
instance:dq prog 218:={}
instance:dq prog 219:={}
instance:dq prog 220:={}
instance:dq prog 221:={}
instance:dq prog 222:={}
instance:dq prog 223:={}
instance:dq prog 231:={}
instance:dq prog 232:={}
instance:dq prog 233:={}
instance:dq prog 234:={}
instance:dq prog 235:={}
instance:dq prog 236:={}
instance:dq prog 237:={}
instance:dq prog 238:={}
instance:dq prog 239:={}
instance:dq prog 240:={}
instance:dq prog 241:={}
instance:dq prog 242:={}
instance:dq prog 243:={}
instance:dq prog 244:={}
instance:dq prog 245:={}
instance:dq prog 246:={}
instance:dq prog 247:={}
instance:dq prog 248:={}
instance:dq prog 249:={}
instance:dq prog 250:={}
instance:dq prog 251:={}
instance:dq prog 252:={}
instance:dq prog 253:={}
instance:dq prog 254:={}
instance:dq prog 255:={}
instance:dq prog 256:={}
instance:dq prog 257:={}
instance:dq prog 258:={}
instance:dq prog 259:={}
instance:dq prog 260:={}
instance:dq prog 266:={}
instance:dq prog 274:={}
instance:dq prog 275:={}
instance:dq prog 276:={}
instance:dq prog 277:={}
instance:dq prog 280:={}
instance:dq prog 281:={}
instance:dq prog 282:={}
instance:dq prog 283:={}
instance:dq prog 284:={}
instance:dq prog 290:={}
instance:dq prog 293:={}
instance:dq prog 294:={}
instance:dq prog 295:={}
instance:dq prog 296:={}
instance:dq prog 297:={}
instance:dq prog 298:={}
instance:dq prog 299:={}
instance:dq prog 300:={}
instance:dq prog 304:={}
instance:dq prog 305:={}
instance:dq prog 306:={}
instance:dq prog 307:={}
instance:dq prog 308:={}
instance:dq prog 309:={}
instance:dq prog 310:={}
instance:dq prog 311:={}
instance:dq prog 312:={}
instance:dq prog 313:={}
instance:dq prog 314:={}
instance:dq prog 315:={}
instance:dq prog 316:={}
instance:dq prog 317:={}
instance:dq prog 319:={}
instance:dq prog 324:={}
instance:dq prog 325:={}
instance:dq prog 330:={}
instance:dq prog 331:={}
instance:dq prog 333:={}
instance:dq prog 337:={}
instance:dq prog 338:={}
instance:dq prog 339:={}
instance:dq prog 340:={}
instance:dq prog 341:={}
instance:dq prog 342:={}
instance:dq prog 343:={}
instance:dq prog 345:={}
instance:dq prog 346:={}
instance:dq prog 347:={}
instance:dq prog 348:={}
instance:dq prog 349:={}
instance:dq prog 350:={}
instance:dq prog 351:={}
instance:dq prog 352:={}
instance:dq prog 353:={}
instance:dq prog 354:={}
instance:dq prog 355:={}
instance:dq prog 356:={}
instance:dq prog 357:={}
instance:dq prog 358:={}
instance:dq prog 359:={}
instance:dq prog 365:={}
instance:dq prog 366:={}
instance:dq prog 368:={}
instance:dq prog 369:={}
instance:dq prog 371:={}
instance:dq prog 373:={}
instance:dq prog 374:={}
instance:dq prog 375:={}
instance:dq prog 376:={}
instance:dq prog 377:={}
instance:dq prog 378:={}
instance:dq prog 379:={}
instance:dq prog 380:={}
instance:dq prog 381:={}
instance:dq prog 385:={}
instance:dq prog 387:={}
instance:dq prog 388:={}
instance:dq prog 389:={}
instance:dq prog 390:={}
instance:dq prog 391:={}
instance:dq prog 392:={}
instance:dq prog 393:={}
instance:dq prog 394:={}
instance:dq prog 395:={}
instance:dq prog 396:={}
instance:dq prog 397:={}
instance:dq prog 398:={}
theorem mixed:prog.follows .mixedOrders=true:=by kernel_rfl
instance:xH prog 49 [.int .u64,.int .u64,.int .u64,.int .u64,.int .u64,.int .u64,.int .u64,.int .u64,.int .u64,.int .u64,.int .u64,.int .u64,.int .u64,.int .u64,.int .u64,.int .u64]:=xH.array (e:=48) (m:=16) (g:=.int .u64) (by kernel_rfl) (by kernel_rfl) (by kernel_rfl) (by kernel_rfl) (by kernel_rfl)
instance:xH prog 51 [.int .u64,.int .u64,.int .u64,.int .u64,.int .u64,.int .u64,.int .u64,.int .u64,.int .u64,.int .u64,.int .u64,.int .u64,.int .u64,.int .u64,.int .u64,.int .u64]:=xH.aa7 (a:=49) (e:=48) (m:=16) (g:=.int .u64) (by kernel_rfl) (by kernel_rfl) (by kernel_rfl) (by kernel_rfl) (by kernel_rfl) (by kernel_rfl) (by kernel_rfl) (by kernel_rfl)
instance:xH prog 101 [.int .i64,.int .i64,.int .i64,.int .i64,.int .i64,.int .i64]:=xH.array (e:=3) (m:=6) (g:=.int .i64) (by kernel_rfl) (by kernel_rfl) (by kernel_rfl) (by kernel_rfl) (by kernel_rfl)
instance:xH prog 121 [.int .u8,.int .i64,.int .i64,.int .i64]:=xH.struct (by kernel_rfl) (by kernel_rfl) (by kernel_rfl)
instance:xH prog 127 [.int .i64,.int .i64,.int .i64]:=xH.struct (by kernel_rfl) (by kernel_rfl) (by kernel_rfl)
instance:xH prog 156 [.int .i64,.int .i64,.int .i64,.int .i64,.int .i64,.int .i64,.int .i64,.int .i64]:=xH.array (e:=3) (m:=8) (g:=.int .i64) (by kernel_rfl) (by kernel_rfl) (by kernel_rfl) (by kernel_rfl) (by kernel_rfl)
instance:xH prog 179 [.str,.bool]:=xH.struct (by kernel_rfl) (by kernel_rfl) (by kernel_rfl)
instance:xH prog 181 [.str,.str,.int .i64]:=xH.struct (by kernel_rfl) (by kernel_rfl) (by kernel_rfl)
instance:xH prog 189 [.str,.int .i64,.int .i64]:=xH.struct (by kernel_rfl) (by kernel_rfl) (by kernel_rfl)
instance:xH prog 206 [.str,.bool]:=xH.struct (by kernel_rfl) (by kernel_rfl) (by kernel_rfl)
instance:xH prog 207 [.str,.str,.int .i64]:=xH.struct (by kernel_rfl) (by kernel_rfl) (by kernel_rfl)
instance:xH prog 214 [.str,.int .u8,.int .i64]:=xH.struct (by kernel_rfl) (by kernel_rfl) (by kernel_rfl)
instance:xH prog 289 [.str,.str,.int .i64]:=xH.struct (by kernel_rfl) (by kernel_rfl) (by kernel_rfl)
instance:xH prog 357 [.int .u8,.int .i64,.int .i64,.int .i64]:=xH.struct (by kernel_rfl) (by kernel_rfl) (by kernel_rfl)
instance:xH prog 395 [.int .u32,.int .u32,.int .u32,.int .u32,.int .u32,.int .u32,.int .u32,.int .u32]:=xH.array (e:=394) (m:=8) (g:=.int .u32) (by kernel_rfl) (by kernel_rfl) (by kernel_rfl) (by kernel_rfl) (by kernel_rfl)
instance:xH prog 465 [.int .i64,.int .i64,.int .i64]:=xH.array (e:=3) (m:=3) (g:=.int .i64) (by kernel_rfl) (by kernel_rfl) (by kernel_rfl) (by kernel_rfl) (by kernel_rfl)
instance:xH prog 473 [.str,.str,.int .i64,.int .i64]:=xH.struct (by kernel_rfl) (by kernel_rfl) (by kernel_rfl)
instance:xH prog 496 [.bool,.bool,.int .i64,.int .i64,.bool,.bool]:=xH.struct (by kernel_rfl) (by kernel_rfl) (by kernel_rfl)
instance:xH prog 540 [.int .i64,.bool,.int .i64,.str]:=xH.struct (by kernel_rfl) (by kernel_rfl) (by kernel_rfl)
instance:xH prog 549 [.int .u64,.int .u64,.int .u64,.int .u64,.int .u64,.int .u64,.int .u64,.int .u64,.int .u64,.int .u64,.int .u64,.int .u64,.int .u64,.int .u64,.int .u64,.int .u64,.int .u64,.int .u64,.int .u64,.int .u64]:=xH.array (e:=48) (m:=20) (g:=.int .u64) (by kernel_rfl) (by kernel_rfl) (by kernel_rfl) (by kernel_rfl) (by kernel_rfl)
instance:xH prog 561 [.int .i64,.int .i64]:=xH.struct (by kernel_rfl) (by kernel_rfl) (by kernel_rfl)
instance:Pk prog 231 121 4 [.int .u8,.int .i64,.int .i64,.int .i64] (.bool false):=⟨by kernel_rfl,by kernel_rfl,by kernel_rfl,inferInstance,by kernel_rfl,by kernel_rfl⟩
instance:Mc prog 9:={}
instance:Mc prog 10:={}
instance:Mc prog 11:={}
instance:Zq prog 231:=⟨121,4,by kernel_rfl⟩
instance:Zq prog 428:=⟨9,4,by kernel_rfl⟩
attribute [local irreducible] ik du bx iM oE dL eN iJ
structure AEv where
 vI:Int
 bo:Int
 bw:Int
 pd:Int
 gN:Int
 kV:Int
 bM:Int
 gD:Int
 bR:List Int
def AEv.cs(x:AEv):List DV:=[.int .i64 x.vI,.int .i64 x.bo,.int .u8 x.bw,.int .i64 x.pd,.int .i64 x.gN,.int .i64 x.kV,.int .i64 x.bM,.int .i64 x.gD,.sl 1 (List.map (DV.int .i64) x.bR)]
def AEv.dv(x:AEv):DV:=.agg (AEv.cs x)
structure VClk where
 lv:Nat→Int
def VClk.cs(x:VClk):List DV:=[.int .u64 (x.lv 0),.int .u64 (x.lv 1),.int .u64 (x.lv 2),.int .u64 (x.lv 3),.int .u64 (x.lv 4),.int .u64 (x.lv 5),.int .u64 (x.lv 6),.int .u64 (x.lv 7),.int .u64 (x.lv 8),.int .u64 (x.lv 9),.int .u64 (x.lv 10),.int .u64 (x.lv 11),.int .u64 (x.lv 12),.int .u64 (x.lv 13),.int .u64 (x.lv 14),.int .u64 (x.lv 15)]
structure RRec where
 bo:Int
 FR:Int
 pg:VClk
 zb:Int
 gM:AEv
 yx:Int
def RRec.cs(x:RRec):List DV:=[.int .i64 x.bo,.int .u64 x.FR,.int .u64 (x.pg.lv 0),.int .u64 (x.pg.lv 1),.int .u64 (x.pg.lv 2),.int .u64 (x.pg.lv 3),.int .u64 (x.pg.lv 4),.int .u64 (x.pg.lv 5),.int .u64 (x.pg.lv 6),.int .u64 (x.pg.lv 7),.int .u64 (x.pg.lv 8),.int .u64 (x.pg.lv 9),.int .u64 (x.pg.lv 10),.int .u64 (x.pg.lv 11),.int .u64 (x.pg.lv 12),.int .u64 (x.pg.lv 13),.int .u64 (x.pg.lv 14),.int .u64 (x.pg.lv 15),.int .u8 x.zb,.int .i64 x.gM.vI,.int .i64 x.gM.bo,.int .u8 x.gM.bw,.int .i64 x.gM.pd,.int .i64 x.gM.gN,.int .i64 x.gM.kV,.int .i64 x.gM.bM,.int .i64 x.gM.gD,.sl 1 (List.map (DV.int .i64) x.gM.bR),.int .u64 x.yx]
structure bp where
 dM:Int
 rI:List Int
def Wt(x:bp):List DV:=[.int .u8 x.dM,.sl 1 (List.map (DV.int .u8) x.rI)]
def Bk(x:bp):DV:=.agg (Wt x)
structure bL where
 zc:Int
 cX:Int
 bP:List bp
 kB:List bp
def Qk(x:bL):List DV:=[.int .u8 x.zc,.int .u8 x.cX,.sl 2 (List.map Bk x.bP),.sl 2 (List.map Bk x.kB)]
def GG(x:bL):DV:=.agg (Qk x)
structure dg where
 aR:Int
 fP:List Int
 aF:List bL
def KD(x:dg):List DV:=[.int .u8 x.aR,.sl 1 (List.map (DV.int .u8) x.fP),.sl 4 (List.map GG x.aF)]
structure cO where
 bn:ByteArray
 uT:Bool
def cO.cs(x:cO):List DV:=[.str x.bn,.bool x.uT]
def ye(x:cO):DV:=.agg (cO.cs x)
structure cA where
 gS:ByteArray
 uS:ByteArray
 qN:Int
def cA.cs(x:cA):List DV:=[.str x.gS,.str x.uS,.int .i64 x.qN]
def zj(x:cA):DV:=.agg (cA.cs x)
structure cf where
 bn:ByteArray
 tu:Int
 uT:Int
def cf.cs(x:cf):List DV:=[.str x.bn,.int .i64 x.tu,.int .i64 x.uT]
def Bl(x:cf):DV:=.agg (cf.cs x)
structure bH where
 bn:ByteArray
 dM:List ByteArray
 xc:List DV
def bH.cs(x:bH):List DV:=[.str x.bn,.sl 1 (List.map DV.str x.dM),.sl 6 (List.map mh x.xc)]
def zi(x:bH):DV:=.agg (bH.cs x)
structure bB where
 bn:ByteArray
 ez:List cf
 aX:List (List bH)
def bB.cs(x:bB):List DV:=[.str x.bn,.sl 3 (List.map Bl x.ez),.sl 1 (List.map (bA 3 zi) x.aX)]
def Bj(x:bB):DV:=.agg (bB.cs x)
structure dK where
 bn:ByteArray
 aR:List cO
 fP:List cA
 aF:List bB
def GF(x:dK):List DV:=[.str x.bn,.sl 2 (List.map ye x.aR),.sl 3 (List.map zj x.fP),.sl 3 (List.map Bj x.aF)]
structure aw where
 ny:Int
 cC:Int
 dB:Int
 lQ:Int
 eO:List (List Int)
 eH:Int
 tt:List Int
 qW:Int
def jl(x:aw):List DV:=[.int .i64 x.ny,.int .i64 x.cC,.int .i64 x.dB,.int .i64 x.lQ,.sl 1 (List.map (bA 1 (DV.int .i64)) x.eO),.int .i64 x.eH,.sl 1 (List.map (DV.int .u8) x.tt),.int .i64 x.qW]
structure av where
 cU:Int
 bn:ByteArray
 gN:Int
 bR:List DV
def xx(x:av):List DV:=[.int .i64 x.cU,.str x.bn,.int .i64 x.gN,.sl 4 (List.map mh x.bR)]
def iy(x:av):DV:=.agg (xx x)
def av.dec:DV→Option av
 |.agg [.int .i64 a0,.str a1,.int .i64 a2,.sl 4 a3]=>some ⟨a0,a1,a2,a3⟩
 |_=>none
theorem av.Dg{d:DV}{x:av}(h:av.dec d=some x):d=iy x:=by
 unfold av.dec at h
 split at h
 ·injection h with h;subst h;simp[iy,xx,xO]
 ·cases h
instance:DC av.dec iy:=⟨av.Dg⟩
theorem av.pq(x:av):av.dec (iy x)=some x:=by simp[av.dec,iy,xx,xO]
structure aY where
 bw:Int
 bn:ByteArray
 bM:ByteArray
 jV:List DV
 vW:List DV
 uU:List DV
def KC(x:aY):List DV:=[.int .i64 x.bw,.str x.bn,.str x.bM,.sl 4 (List.map mh x.jV),.sl 6 (List.map mh x.vW),.sl 6 (List.map mh x.uU)]
def zW(x:aY):DV:=.agg (KC x)
def aY.dec:DV→Option aY
 |.agg [.int .i64 a0,.str a1,.str a2,.sl 4 a3,.sl 6 a4,.sl 6 a5]=>some ⟨a0,a1,a2,a3,a4,a5⟩
 |_=>none
theorem aY.Dg{d:DV}{x:aY}(h:aY.dec d=some x):d=zW x:=by
 unfold aY.dec at h
 split at h
 ·injection h with h;subst h;simp[zW,KC,xO]
 ·cases h
instance:DC aY.dec zW:=⟨aY.Dg⟩
theorem aY.pq(x:aY):aY.dec (zW x)=some x:=by simp[aY.dec,zW,KC,xO]
def aw.b0(x:aw)(d6:DV):List DV:=[.int .i64 x.ny,.int .i64 x.cC,.int .i64 x.dB,.int .i64 x.lQ,.sl 1 (List.map (bA 1 (DV.int .i64)) x.eO),.int .i64 x.eH,d6,.int .i64 x.qW]
noncomputable def fX(x0:Int)(x1:Int):Option Int :=
 If (decide (x0<x1)) (
  some x0)<|
 some x1
instance Ll{x0 x1}:MC (fX x0 x1) fun r=>bx prog 73 [.I x0,.I x1] (.I r):=⟨fun hM=>by unfold fX at hM;exact pb func73 ntmps73⟩
noncomputable def bK(x0:Int)(x1:Int):Option (List ByteArray) :=
 wL (E:=(List ByteArray)) (([]:List ByteArray),0) [] [0,1] [] (fun s t=>(5,.row 10001)::(6,.I s.2)::t) (fun s t=>(10001,some (.R 9 1 DV.str s.1))::t) [.r 5 10002 9 1] [(10001,10002)] (fun s3=>
  If (decide (s3.2<x1)) (
   eT 17 (bA 1 (DV.int .u8)) [x0,(IntKind.wrap .u8 (IntKind.wrap .i64 (48+s3.2)))] fun v4=>
   eT 19 (bA 1 DV.str) [(strOfNums v4)] fun v5=>
   Ck (dL 16 (s3.1.length+List.length v5))<|
   nX [] [(10001,20)] (some (.next ((s3.1++v5),(IntKind.wrap .i64 (s3.2+1))))))<|
  some (.done s3.1)) fun e7=>
 wk [.z 10001]<|some e7
instance Lk{x0 x1}:MC (bK x0 x1) fun r=>bx prog 74 [.int .u8 x0,.I x1] (.L 1 DV.str r):=⟨fun hM=>by unfold bK at hM;exact pb func74 ntmps74⟩
noncomputable def mH(x0:bL):Option (List Int) :=
 wL (E:=(List Int)) (([]:List Int),0) [] [1] [1] (fun s t=>(3,.row 10001)::(4,.I s.2)::t) (fun s t=>(10001,some (.R 3 1 (DV.int .i64) s.1))::t) [.r 3 10002 3 1] [(10001,10002)] (fun s3=>
  If (decide (s3.2<3)) (
   If (decide (s3.2<(x0.bP.length:Int))) (
    Bi (idx x0.bP s3.2) fun v5=>
    Ck ((0:Int)≤v5.dM∧(0:Int)<3)<|
    eT 24 (bA 1 (DV.int .i64)) [(IntKind.wrap .i64 (v5.dM % 3))] fun v7=>
    Ck (dL 8 (s3.1.length+List.length v7))<|
    nX [] [(10001,25)] (some (.next ((s3.1++v7),(IntKind.wrap .i64 (s3.2+1))))))<|
   If (s3.2==0) (
    eT 30 (bA 1 (DV.int .i64)) [1] fun v9=>
    Ck (dL 8 (s3.1.length+List.length v9))<|
    nX [] [(10001,31)] (some (.next ((s3.1++v9),(IntKind.wrap .i64 (s3.2+1))))))<|
   If (decide (s3.2<(x0.kB.length:Int))) (
    Bi (idx x0.kB s3.2) fun v12=>
    Ck ((0:Int)≤v12.dM∧(0:Int)<3)<|
    eT 47 (bA 1 (DV.int .i64)) [(IntKind.wrap .i64 (v12.dM % 3))] fun qm=>
    Ck (dL 8 (s3.1.length+List.length qm))<|
    nX [] [(10001,48)] (some (.next ((s3.1++qm),(IntKind.wrap .i64 (s3.2+1))))))<|
   nX [] [] (some (.next (s3.1,(IntKind.wrap .i64 (s3.2+1))))))<|
  some (.done s3.1)) fun GD=>
 wk [.z 10001]<|some GD
instance Lm{x0}:MC (mH x0) fun r=>bx prog 75 [.agg (Qk x0)] (.L 1 (DV.int .i64) r):=⟨fun hM=>by unfold mH at hM;exact pb func75 ntmps75⟩
noncomputable def bN(x1:Int)(o0:aw):Option (Int×aw) :=
 If ((o0.tt.length:Int)==0) (
  rX [] (some (0,o0)))<|
 Bi (idx o0.tt 0) fun v2=>
 Ck (eN (o0.tt.length) 1 (o0.tt.length))<|
 Ck ((0:Int)≤(IntKind.wrap .i64 v2)∧(0:Int)<x1)<|
 rX [] (some (((IntKind.wrap .i64 v2) % x1),({ o0 with tt:=(List.drop (Int.toNat 1) o0.tt) }:aw)))
instance Fw{x1 o0}:MA (bN x1 o0) prog 171 (fun _=>1) fun r=>⟨[.ref 100000 0,.I x1],[(100000,some (.bC 191 (jl o0)))],.I r.1,[(100000,some (.bC 191 (jl r.2)))],[]⟩:=⟨fun hM=>by unfold bN at hM;exact ab func171 ntmps171⟩
noncomputable def dJ(o0:aw):Option (ByteArray×aw) :=
 Bi (bK 120 3) fun v2=>
 Bi (cl 9 [] (bN o0.ny o0)) fun v4=>
 Bi (idx v2 v4.1) fun v6=>
 rX [] (some (v6,v4.2))
instance DE{o0}:MA (dJ o0) prog 234 (fun _=>1) fun r=>⟨[.ref 100000 0],[(100000,some (.bC 191 (jl o0)))],.str r.1,[(100000,some (.bC 191 (jl r.2)))],[]⟩:=⟨fun hM=>by unfold dJ at hM;exact ab func234 ntmps234⟩
noncomputable def gu(sf_rootcauseref05_maker_number_a:Int→aw→Option (av×aw))(x1:Int)(o0:aw):Option (av×aw) :=
 Bi (cl 9 [] (bN 12 o0)) fun v2=>
 If ((decide (v2.1<2))||((decide (2<x1))&&(decide (5<v2.1)))) (
  Bi (cl 22 [] (bN 9 v2.2)) fun v4=>
  rX [] (some ((av.mk 1 ByteArray.empty v4.1 []),v4.2)))<|
 If ((decide (v2.1<4))||((v2.1==4)&&(v2.2.eH==0))) (
  Bi (cl 39 [] (dJ v2.2)) fun v6=>
  rX [] (some ((av.mk 5 v6.1 0 []),v6.2)))<|
 If (v2.1==4) (
  Bi (bK 112 2) fun v8=>
  Bi (cl 50 [] (bN v2.2.eH v2.2)) fun v10=>
  Bi (idx v8 v10.1) fun v12=>
  rX [] (some ((av.mk 5 v12 0 []),v10.2)))<|
 If (v2.1==5) (
  rX [] (some ((av.mk 4 ByteArray.empty 0 []),v2.2)))<|
 If ((v2.1==6)&&(decide (0<v2.2.cC))) (
  Bi (cl 71 [] (sf_rootcauseref05_maker_number_a (IntKind.wrap .i64 (x1+1)) v2.2)) fun qm=>
  eT 72 (bA 4 mh) [(iy qm.1)] fun qs=>
  wk [.z 72]<|rX [] (some ((av.mk 6 ⟨#[116,48]⟩ 0 qs),qm.2)))<|
 If ((v2.1==7)&&(decide (0<v2.2.cC))) (
  rX [] (some ((av.mk 8 ⟨#[116,48]⟩ 0 []),v2.2)))<|
 If (v2.1==8) (
  Bi (cl 91 [] (sf_rootcauseref05_maker_number_a (IntKind.wrap .i64 (x1+1)) v2.2)) fun qt=>
  eT 92 (bA 4 mh) [(iy qt.1)] fun ob=>
  wk [.z 92]<|rX [] (some ((av.mk 9 ByteArray.empty 0 ob),qt.2)))<|
 eT 94 (bA 1 (DV.int .i64)) [14,15,11,12,13,14] fun xw=>
 Bi (cl 96 [] (bN 6 v2.2)) fun v21=>
 Bi (idx xw v21.1) fun uG=>
 Bi (cl 102 [] (sf_rootcauseref05_maker_number_a (IntKind.wrap .i64 (x1+1)) v21.2)) fun vY=>
 Bi (cl 108 [] (sf_rootcauseref05_maker_number_a (IntKind.wrap .i64 (x1+1)) vY.2)) fun FZ=>
 eT 109 (bA 4 mh) [(iy vY.1),(iy FZ.1)] fun v28=>
 wk [.z 109]<|rX [] (some ((av.mk uG ByteArray.empty 0 v28),FZ.2))
theorem vQ{sf_rootcauseref05_maker_number_a:Int→aw→Option (av×aw)}[ih_rootcauseref05_maker_number_a:∀{x1 o0},MA (sf_rootcauseref05_maker_number_a x1 o0) prog 232 (fun _=>1) fun r=>⟨[.ref 100000 0,.I x1],[(100000,some (.bC 191 (jl o0)))],.agg (xx r.1),[(100000,some (.bC 191 (jl r.2)))],[]⟩]{x1 o0}:MA (gu sf_rootcauseref05_maker_number_a x1 o0) prog 232 (fun _=>1) fun r=>⟨[.ref 100000 0,.I x1],[(100000,some (.bC 191 (jl o0)))],.agg (xx r.1),[(100000,some (.bC 191 (jl r.2)))],[]⟩:=⟨fun hM=>by unfold gu at hM;exact ab func232 ntmps232⟩
noncomputable def bu:Nat→Int→aw→Option (av×aw)
 |0,_,_=>none
 |fu+1,x1,o0=>gu (bu fu) x1 o0
instance Eu(fu:Nat){x1 o0}:MA (bu fu x1 o0) prog 232 (fun _=>1) fun r=>⟨[.ref 100000 0,.I x1],[(100000,some (.bC 191 (jl o0)))],.agg (xx r.1),[(100000,some (.bC 191 (jl r.2)))],[]⟩:=by
 induction fu generalizing x1 o0 with
 |zero=>exact⟨fun h=>by cases h⟩
 |succ fu ih=>exact vQ (sf_rootcauseref05_maker_number_a:=bu fu)
noncomputable def gJ(sf_rootcauseref05_maker_truth_a:Int→aw→Option (av×aw))(x1:Int)(o0:aw):Option (av×aw) :=
 Bi (cl 10 [] (bN 10 o0)) fun v2=>
 If (v2.1==0) (
  Bi (cl 15 [] (bN 2 v2.2)) fun v4=>
  rX [] (some ((av.mk (IntKind.wrap .i64 (2+v4.1)) ByteArray.empty 0 []),v4.2)))<|
 If ((v2.1==1)||((decide (1<x1))&&(decide (4<v2.1)))) (
  rX [] (some ((av.mk 5 ⟨#[98,48]⟩ 0 []),v2.2)))<|
 If ((v2.1==2)&&(decide (0<v2.2.dB))) (
  Bi (bK 102 2) fun v6=>
  Bi (cl 46 [] (bN v2.2.dB v2.2)) fun v8=>
  Bi (idx v6 v8.1) fun v10=>
  rX [] (some ((av.mk 5 v10 0 []),v8.2)))<|
 If ((v2.1==3)&&(decide (0<v2.2.cC))) (
  Bi (cl 61 [] ((bu 64) 1 v2.2)) fun v12=>
  eT 62 (bA 4 mh) [(iy v12.1)] fun mU=>
  wk [.z 62]<|rX [] (some ((av.mk 7 ⟨#[116,48]⟩ 0 mU),v12.2)))<|
 If (v2.1==5) (
  Bi (cl 70 [] (sf_rootcauseref05_maker_truth_a (IntKind.wrap .i64 (x1+1)) v2.2)) fun qs=>
  eT 71 (bA 4 mh) [(iy qs.1)] fun pF=>
  wk [.z 71]<|rX [] (some ((av.mk 10 ByteArray.empty 0 pF),qs.2)))<|
 If ((v2.1==6)||(v2.1==7)) (
  Bi (cl 83 [] (sf_rootcauseref05_maker_truth_a (IntKind.wrap .i64 (x1+1)) v2.2)) fun ob=>
  Bi (cl 90 [] (sf_rootcauseref05_maker_truth_a (IntKind.wrap .i64 (x1+1)) ob.2)) fun v20=>
  eT 91 (bA 4 mh) [(iy ob.1),(iy v20.1)] fun v21=>
  wk [.z 91]<|rX [] (some ((av.mk (IntKind.wrap .i64 (16+v2.1)) ByteArray.empty 0 v21),v20.2)))<|
 Bi (cl 94 [] (bN 6 v2.2)) fun uG=>
 Bi (cl 97 [] ((bu 64) 1 uG.2)) fun vY=>
 Bi (cl 101 [] ((bu 64) 1 vY.2)) fun FZ=>
 eT 102 (bA 4 mh) [(iy vY.1),(iy FZ.1)] fun v28=>
 wk [.z 102]<|rX [] (some ((av.mk (IntKind.wrap .i64 (16+uG.1)) ByteArray.empty 0 v28),FZ.2))
theorem wu{sf_rootcauseref05_maker_truth_a:Int→aw→Option (av×aw)}[ih_rootcauseref05_maker_truth_a:∀{x1 o0},MA (sf_rootcauseref05_maker_truth_a x1 o0) prog 231 (fun _=>1) fun r=>⟨[.ref 100000 0,.I x1],[(100000,some (.bC 191 (jl o0)))],.agg (xx r.1),[(100000,some (.bC 191 (jl r.2)))],[]⟩]{x1 o0}:MA (gJ sf_rootcauseref05_maker_truth_a x1 o0) prog 231 (fun _=>1) fun r=>⟨[.ref 100000 0,.I x1],[(100000,some (.bC 191 (jl o0)))],.agg (xx r.1),[(100000,some (.bC 191 (jl r.2)))],[]⟩:=⟨fun hM=>by unfold gJ at hM;exact ab func231 ntmps231⟩
noncomputable def dH:Nat→Int→aw→Option (av×aw)
 |0,_,_=>none
 |fu+1,x1,o0=>gJ (dH fu) x1 o0
instance EL(fu:Nat){x1 o0}:MA (dH fu x1 o0) prog 231 (fun _=>1) fun r=>⟨[.ref 100000 0,.I x1],[(100000,some (.bC 191 (jl o0)))],.agg (xx r.1),[(100000,some (.bC 191 (jl r.2)))],[]⟩:=by
 induction fu generalizing x1 o0 with
 |zero=>exact⟨fun h=>by cases h⟩
 |succ fu ih=>exact wu (sf_rootcauseref05_maker_truth_a:=dH fu)
noncomputable def eD(x1:Int)(o0:aw):Option ((List DV)×aw) :=
 wL (E:=(List DV)×aw) (([]:List DV),0,o0) [100000] [0,1] [] (fun s t=>(5,.row 10001)::(6,.I s.2.1)::t) (fun s t=>(10001,some (.R 334 4 mh s.1))::(100000,some (.bC 191 (jl s.2.2)))::t) [.r 5 10002 334 4] [(10001,10002)] (fun s4=>
  If (decide (s4.2.1<x1)) (
   Bi (cl 14 [] ((bu 64) 1 s4.2.2)) fun v6=>
   eT 15 (bA 4 mh) [(iy v6.1)] fun v7=>
   Ck (dL 56 (s4.1.length+List.length v7))<|
   nX [] [(10001,16)] (some (.next ((s4.1++v7),(IntKind.wrap .i64 (s4.2.1+1)),v6.2))))<|
  some (.done (s4.1,s4.2.2))) fun e9=>
 wk [.z 10001]<|rX [] (some (e9.1,e9.2))
instance DD{x1 o0}:MA (eD x1 o0) prog 233 (fun _=>1) fun r=>⟨[.ref 100000 0,.I x1],[(100000,some (.bC 191 (jl o0)))],.L 4 mh r.1,[(100000,some (.bC 191 (jl r.2)))],[]⟩:=⟨fun hM=>by unfold eD at hM;exact ab func233 ntmps233⟩
noncomputable def ic(sf_rootcauseref05_maker_body_a:Int→aw→Option ((List DV)×aw))(x1:Int)(x2:Int)(o0:aw):Option (aY×aw) :=
 If (x1==2) (
  Bi (cl 22 [] ((dH 64) 0 o0)) fun v2=>
  eT 23 (bA 4 mh) [(iy v2.1)] fun v3=>
  wk [.z 23]<|rX [] (some ((aY.mk 1 ⟨#[98,48]⟩ ByteArray.empty v3 [] []),v2.2)))<|
 If ((x1==3)&&(decide (0<o0.cC))) (
  Bi (cl 36 [] ((bu 64) 0 o0)) fun v5=>
  Bi (cl 38 [] ((bu 64) 0 v5.2)) fun v7=>
  eT 39 (bA 4 mh) [(iy v5.1),(iy v7.1)] fun v8=>
  wk [.z 39]<|rX [] (some ((aY.mk 2 ⟨#[116,48]⟩ ByteArray.empty v8 [] []),v7.2)))<|
 If ((x1==4)&&(decide (0<o0.cC))) (
  Bi (cl 52 [] ((bu 64) 0 o0)) fun v10=>
  eT 53 (bA 4 mh) [(iy v10.1)] fun v11=>
  wk [.z 53]<|rX [] (some ((aY.mk 3 ⟨#[116,48]⟩ ByteArray.empty v11 [] []),v10.2)))<|
 If (((x1==5)||(x1==6))&&(decide (x2<3))) (
  Bi (cl 67 [] ((dH 64) 0 o0)) fun mU=>
  Bi (cl 71 [] (sf_rootcauseref05_maker_body_a (IntKind.wrap .i64 (x2+1)) mU.2)) fun qs=>
  eT 73 (bA 4 mh) [(iy mU.1)] fun pF=>
  Bi (cl 78 [] (sf_rootcauseref05_maker_body_a (IntKind.wrap .i64 (x2+1)) qs.2)) fun ob=>
  wk [.z 73]<|rX [] (some ((aY.mk 4 ByteArray.empty ByteArray.empty pF qs.1 ob.1),ob.2)))<|
 If ((x1==7)&&(decide (x2<2))) (
  Bi (cl 88 [] ((dH 64) 0 o0)) fun v20=>
  eT 90 (bA 4 mh) [(iy v20.1)] fun v21=>
  Bi (cl 94 [] (sf_rootcauseref05_maker_body_a (IntKind.wrap .i64 (x2+1)) v20.2)) fun uG=>
  wk [.z 90]<|rX [] (some ((aY.mk 5 ByteArray.empty ByteArray.empty v21 uG.1 []),uG.2)))<|
 If ((x1==8)||(x1==9)) (
  Bi (cl 109 [] (bN (o0.eO.length:Int) o0)) fun vY=>
  Bi (idx vY.2.eO vY.1) fun FZ=>
  Bi (cl 119 [] (bN (FZ.length:Int) vY.2)) fun GA=>
  eT 120 (bA 1 DV.str) [⟨#[97]⟩,⟨#[98]⟩,⟨#[99]⟩] fun v30=>
  Bi (idx v30 vY.1) fun Bh=>
  Bi (bK 104 3) fun Kw=>
  Bi (idx Kw GA.1) fun Mv=>
  Bi (idx GA.2.eO vY.1) fun Nn=>
  Bi (idx Nn GA.1) fun v40=>
  Bi (cl 139 [] (eD v40 GA.2)) fun En=>
  rX [] (some ((aY.mk 6 Bh Mv En.1 [] []),En.2)))<|
 If (x1==10) (
  Bi (idx o0.eO o0.lQ) fun TM=>
  Bi (cl 156 [] (bN (TM.length:Int) o0)) fun v46=>
  Bi (cl 158 [] ((bu 64) 1 v46.2)) fun Gb=>
  Bi (bK 104 3) fun Nq=>
  Bi (idx Nq v46.1) fun GB=>
  eT 164 (bA 4 mh) [(iy Gb.1)] fun v53=>
  Bi (idx Gb.2.eO Gb.2.lQ) fun VN=>
  Bi (idx VN v46.1) fun VO=>
  Bi (cl 179 [] (eD VO Gb.2)) fun v59=>
  Ck (dL 56 (v53.length+List.length v59.1))<|
  wk [.z 180]<|rX [] (some ((aY.mk 7 ByteArray.empty GB (v53++v59.1) [] []),v59.2)))<|
 If ((x1==11)&&(decide (x2<3))) (
  Bi (cl 190 [] (bN 2 o0)) fun Wq=>
  If (Wq.1==0) (
   Bi (cl 193 [] (eD 2 Wq.2)) fun TN=>
   Bi (cl 198 [] (sf_rootcauseref05_maker_body_a (IntKind.wrap .i64 (x2+1)) TN.2)) fun v66=>
   rX [] (some ((aY.mk 8 ByteArray.empty ByteArray.empty TN.1 [] v66.1),v66.2)))<|
  Bi (cl 201 [] (dJ Wq.2)) fun v68=>
  Bi (cl 203 [] ((bu 64) 0 v68.2)) fun v70=>
  eT 206 (bA 4 mh) [(iy v70.1)] fun v71=>
  Bi (cl 210 [] (sf_rootcauseref05_maker_body_a (IntKind.wrap .i64 (x2+1)) v70.2)) fun HV=>
  wk [.z 206]<|rX [] (some ((aY.mk 9 v68.1 ByteArray.empty v71 [] HV.1),HV.2)))<|
 If (x1==12) (
  Bi (cl 217 [] (bN 3 o0)) fun v75=>
  If ((x1==12)&&(v75.1==0)) (
   rX [] (some ((aY.mk 10 ByteArray.empty ByteArray.empty [] [] []),v75.2)))<|
  Bi (cl 222 [] (dJ v75.2)) fun GC=>
  Bi (cl 225 [] ((bu 64) 0 GC.2)) fun v79=>
  eT 226 (bA 4 mh) [(iy v79.1)] fun v80=>
  wk [.z 226]<|rX [] (some ((aY.mk 1 GC.1 ByteArray.empty v80 [] []),v79.2)))<|
 If ((x1==12)&&false) (
  rX [] (some ((aY.mk 10 ByteArray.empty ByteArray.empty [] [] []),o0)))<|
 Bi (cl 222 [] (dJ o0)) fun v75=>
 Bi (cl 225 [] ((bu 64) 0 v75.2)) fun GC=>
 eT 226 (bA 4 mh) [(iy GC.1)] fun v78=>
 wk [.z 226]<|rX [] (some ((aY.mk 1 v75.1 ByteArray.empty v78 [] []),GC.2))
instance EM{sf_rootcauseref05_maker_body_a:Int→aw→Option ((List DV)×aw)}[ih_rootcauseref05_maker_body_a:∀{x1 o0},MA (sf_rootcauseref05_maker_body_a x1 o0) prog 118 (fun _=>1) fun r=>⟨[.ref 100000 0,.I x1],[(100000,some (.bC 191 (jl o0)))],.L 6 mh r.1,[(100000,some (.bC 191 (jl r.2)))],[]⟩]{x1 x2 o0}:MA (ic sf_rootcauseref05_maker_body_a x1 x2 o0) prog 172 (fun _=>1) fun r=>⟨[.ref 100000 0,.I x1,.I x2],[(100000,some (.bC 191 (jl o0)))],.agg (KC r.1),[(100000,some (.bC 191 (jl r.2)))],[]⟩:=⟨fun hM=>by unfold ic at hM;exact ab func172 ntmps172⟩
noncomputable def jF(sf_rootcauseref05_maker_body_a:Int→aw→Option ((List DV)×aw))(x1:Int)(o0:aw):Option ((List DV)×aw) :=
 wL (E:=((List DV)×aw)⊕((List DV)×aw)) (([]:List DV),o0) [100000] [0,1] [] (fun _ t=>(5,.row 10001)::t) (fun s t=>(10001,some (.R 328 6 mh s.1))::(100000,some (.bC 191 (jl s.2)))::t) [.r 5 10002 328 6] [(10001,10002)] (fun s3=>
  If ((decide (0<(s3.2.tt.length:Int)))&&(decide (0<s3.2.qW))) (
   Bi (cl 21 [] (bN 14 s3.2)) fun v5=>
   If (v5.1==13) (
    wk [.z 10001]<|rX [] (some (.done (.inr (s3.1,v5.2)))))<|
   Bi (cl 36 [] ((ic sf_rootcauseref05_maker_body_a) v5.1 x1 ({ v5.2 with qW:=(IntKind.wrap .i64 (v5.2.qW-1)) }:aw))) fun v7=>
   eT 37 (bA 6 mh) [(zW v7.1)] fun v8=>
   Ck (dL 112 (s3.1.length+List.length v8))<|
   nX [] [(10001,38)] (some (.next ((s3.1++v8),v7.2))))<|
  some (.done (.inl (s3.1,s3.2)))) fun
  |.inl e10=>
   wk [.z 10001]<|rX [] (some (e10.1,e10.2))
  |.inr r=>some r
theorem wU{sf_rootcauseref05_maker_body_a:Int→aw→Option ((List DV)×aw)}[ih_rootcauseref05_maker_body_a:∀{x1 o0},MA (sf_rootcauseref05_maker_body_a x1 o0) prog 118 (fun _=>1) fun r=>⟨[.ref 100000 0,.I x1],[(100000,some (.bC 191 (jl o0)))],.L 6 mh r.1,[(100000,some (.bC 191 (jl r.2)))],[]⟩]{x1 o0}:MA (jF sf_rootcauseref05_maker_body_a x1 o0) prog 118 (fun _=>1) fun r=>⟨[.ref 100000 0,.I x1],[(100000,some (.bC 191 (jl o0)))],.L 6 mh r.1,[(100000,some (.bC 191 (jl r.2)))],[]⟩:=⟨fun hM=>by unfold jF at hM;exact ab func118 ntmps118⟩
noncomputable def eE:Nat→Int→aw→Option ((List DV)×aw)
 |0,_,_=>none
 |fu+1,x1,o0=>jF (eE fu) x1 o0
instance Fx(fu:Nat){x1 o0}:MA (eE fu x1 o0) prog 118 (fun _=>1) fun r=>⟨[.ref 100000 0,.I x1],[(100000,some (.bC 191 (jl o0)))],.L 6 mh r.1,[(100000,some (.bC 191 (jl r.2)))],[]⟩:=by
 induction fu generalizing x1 o0 with
 |zero=>exact⟨fun h=>by cases h⟩
 |succ fu ih=>exact wU (sf_rootcauseref05_maker_body_a:=eE fu)
noncomputable def gv(x1:List bp)(o0:aw):Option ((List bH)×aw) :=
 fL (([]:List bH),o0.ny,o0.cC,o0.dB,o0.lQ,o0.eO,o0.eH,([]:List Int),o0.qW) 10 [100000] [0,8,9] [] (fun _ t=>(5,.row 10001)::t) (fun s t=>(10001,some (.R 220 3 zi s.1))::(100000,some (.bC 191 [.I s.2.1,.I s.2.2.1,.I s.2.2.2.1,.I s.2.2.2.2.1,.L 1 (bA 1 (DV.int .i64)) s.2.2.2.2.2.1,.I s.2.2.2.2.2.2.1,.L 1 (DV.int .u8) s.2.2.2.2.2.2.2.1,.I s.2.2.2.2.2.2.2.2]))::t) [.r 5 10002 220 3] [(10001,10002)] m64 (x1.length:Int) (fun k1 sx=>
  Bi (idx x1 (k1:Int)) fun mU=>
  Bi (idx sx.2.2.2.2.2.1 sx.2.2.2.2.1) fun qs=>
  Bi (idx qs (k1:Int)) fun qt=>
  Bi (fX (mU.rI.length:Int) 40) fun xw=>
  Ck (eN (mU.rI.length) 0 xw)<|
  Bi (bK 104 3) fun vX=>
  Bi (idx vX (k1:Int)) fun v24=>
  Bi (bK 112 qt) fun yN=>
  Bi (cl 55 [] ((eE 64) 0 (aw.mk sx.2.1 sx.2.2.1 sx.2.2.2.1 sx.2.2.2.2.1 sx.2.2.2.2.2.1 qt (List.take (Int.toNat xw) mU.rI) 12))) fun v28=>
  eT 57 (bA 3 zi) [(bH.mk v24 yN v28.1)] fun GA=>
  Ck (dL 64 (sx.1.length+List.length GA))<|
  nX [] [(10001,58)] (some ((sx.1++GA),v28.2.ny,v28.2.cC,v28.2.dB,v28.2.lQ,v28.2.eO,v28.2.eH,v28.2.tt,v28.2.qW))) fun sx=>
 wk [.z 10001]<|rX [] (some (sx.1,(aw.mk sx.2.1 sx.2.2.1 sx.2.2.2.1 sx.2.2.2.2.1 sx.2.2.2.2.2.1 sx.2.2.2.2.2.2.1 sx.2.2.2.2.2.2.2.1 sx.2.2.2.2.2.2.2.2)))
instance Ds{x1 o0}:MA (gv x1 o0) prog 76 (fun _=>1) fun r=>⟨[.ref 100000 0,.L 2 Bk x1],[(100000,some (.bC 191 (aw.b0 o0 .bq)))],.L 3 zi r.1,[(100000,some (.bC 191 (jl r.2)))],[]⟩:=⟨fun hM=>by unfold gv at hM;exact ab func76 ntmps76⟩
noncomputable def fW(x1:List bp)(o0:aw):Option ((List bH)×aw) :=
 fL (([]:List bH),o0) 10 [100000] [0,8,9] [] (fun _ t=>(5,.row 10001)::t) (fun s t=>(10001,some (.R 220 3 zi s.1))::(100000,some (.bC 191 (jl s.2)))::t) [.r 5 10002 220 3] [(10001,10002)] m64 (x1.length:Int) (fun k1 s4=>
  Bi (idx x1 (k1:Int)) fun v6=>
  Bi (idx s4.2.eO s4.2.lQ) fun v8=>
  Bi (idx v8 (k1:Int)) fun v10=>
  Bi (fX (v6.rI.length:Int) 40) fun v12=>
  Ck (eN (v6.rI.length) 0 v12)<|
  Bi (bK 104 3) fun qs=>
  Bi (idx qs (k1:Int)) fun qt=>
  Bi (bK 112 v10) fun xw=>
  Bi (cl 55 [] ((eE 64) 0 ({ s4.2 with eH:=v10,tt:=(List.take (Int.toNat v12) v6.rI),qW:=12 }:aw))) fun v21=>
  eT 57 (bA 3 zi) [(bH.mk qt xw v21.1)] fun vX=>
  Ck (dL 64 (s4.1.length+List.length vX))<|
  nX [] [(10001,58)] (some ((s4.1++vX),v21.2))) fun s4=>
 wk [.z 10001]<|rX [] (some (s4.1,s4.2))
instance CU{x1 o0}:MA (fW x1 o0) prog 76 (fun _=>1) fun r=>⟨[.ref 100000 0,.L 2 Bk x1],[(100000,some (.bC 191 (jl o0)))],.L 3 zi r.1,[(100000,some (.bC 191 (jl r.2)))],[]⟩:=⟨fun hM=>by unfold fW at hM;exact ab func76 ntmps76⟩
@[reducible] noncomputable def qJ(s35:(List bB)):Option (List bB) :=
 nX [] [(10007,10010),(10008,10011),(10009,10012)] (some s35)
@[reducible] noncomputable def km(a32:List bB)(Fl:ByteArray)(a52:List cf)(s67:(List (List bH))):Option (List bB) :=
 wk [.z 10028,.z 10029]<|
 eT 231 (bA 3 Bj) [(bB.mk Fl a52 s67)] fun v65=>
 Ck (dL 64 (a32.length+List.length v65))<|
 nX [] [(10010,10025),(10011,10026),(10012,232)] (qJ (a32++v65))
@[reducible] noncomputable def iQ(a10:List cO)(a14:List cA)(a29:List (List Int))(k31:Nat)(a32:List bB)(v37:bL)(Fl:ByteArray)(a52:List cf)(s75:(List bp)):Option (List bB) :=
 Bi (cl 207 [(100000,20)] (gv s75 (aw.mk (IntKind.wrap .i64 (1+(IntKind.wrap .i64 (v37.zc % 3)))) (IntKind.wrap .i64 (v37.cX % 2)) (a10.length:Int) (k31:Int) a29 0 [] 0))) fun v61=>
 eT 208 (bA 1 (bA 3 zi)) [v61.1] fun Wq=>
 Ck (dL 24 (Wq.length))<|
 jn (km a32 Fl a52) 43 [] [2,5,8,10,15,120,121,122] [2] i2 (fun s t=>(5,some (.bC 41 [.str ⟨#[102,108,101,101,116,49]⟩,.row 10025,.row 10026,.row 10027]))::(15,some (.bC 187 [.str Fl,.row 10028,.row 10029]))::(10025,some (.R 179 2 ye a10))::(10026,some (.R 181 3 zj a14))::(10027,some (.R 187 3 Bj a32))::(10028,some (.R 189 3 Bl a52))::(10029,some (.R 194 1 (bA 3 zi) s))::t)<|
 If (decide (0<(v37.kB.length:Int))) (
  Bi (fX (v37.kB.length:Int) 3) fun v69=>
  Ck (eN (v37.kB.length) 0 v69)<|
  Bi (cl 224 [(100000,20)] (fW (List.take (Int.toNat v69) v37.kB) v61.2)) fun v72=>
  eT 225 (bA 1 (bA 3 zi)) [v72.1] fun HV=>
  Ck (dL 24 (Wq.length+List.length HV))<|
  nX [] [(10025,10021),(10026,10022),(10027,10023),(10028,10024),(10029,226)] (km a32 Fl a52 (Wq++HV)))<|
 nX [] [(10025,10021),(10026,10022),(10027,10023),(10028,10024),(10029,209)] (km a32 Fl a52 Wq)
@[reducible] noncomputable def ko(x0:dg)(s98:Int×(List bL)):Option dK :=
 Ck ((0:Int)≤x0.aR∧(0:Int)<3)<|
 Bi (bK 102 (IntKind.wrap .i64 (x0.aR % 3))) fun v8=>
 fL ([]:List cO) 41 [] [1,2,3,4,5,39,40] [1,2] i2 (fun s t=>(5,some (.bC 41 [.str ⟨#[102,108,101,101,116,49]⟩,.row 10001,.bq,.bq]))::(10001,some (.R 179 2 ye s))::t) [.c 5 10034 1 179 2] [(10001,10034)] m64 (v8.length:Int) (fun k9 sx=>
  Bi (idx v8 (k9:Int)) fun v93=>
  Ck ((0:Int)≤(IntKind.wrap .i64 (4+(k9:Int))))<|
  Ck ((0:Int)≤(Int.fdiv x0.aR (2^min (Int.toNat (IntKind.wrap .i64 (4+(k9:Int)))) (IntKind.bits .u8)))∧(0:Int)<2)<|
  eT 57 (bA 2 ye) [(cO.mk v93 (((Int.fdiv x0.aR (2^min (Int.toNat (IntKind.wrap .i64 (4+(k9:Int)))) (IntKind.bits .u8))) % 2)==1))] fun v96=>
  Ck (dL 24 (sx.length+List.length v96))<|
  nX [] [(10001,58)] (some (sx++v96))) fun sx=>
 eT 61 (bA 1 DV.str) [⟨#[97]⟩,⟨#[98]⟩,⟨#[99]⟩] fun v12=>
 wL (E:=(List cA)) (0,([]:List cA)) [] [1,2,3,4,5] [1,2] (fun s t=>(8,.L 1 DV.str v12)::(9,.I s.1)::t) (fun s t=>(5,some (.bC 41 [.str ⟨#[102,108,101,101,116,49]⟩,.row 10002,.row 10003,.bq]))::(10002,some (.R 179 2 ye sx))::(10003,some (.R 181 3 zj s.2))::t) [.z 61,.c 5 10033 2 181 3] [(10002,10001),(10003,10033)] (fun MF=>
  If ((decide (MF.1<(x0.fP.length:Int)))&&(decide (MF.1<(IntKind.wrap .i64 (s98.1*s98.1))))) (
   Bi (idx x0.fP MF.1) fun qt=>
   Ck ((0:Int)≤qt∧(0:Int)<4)<|
   If (decide (0<(qt % 4))) (
    Ck (ah7 .i64 MF.1 s98.1)<|
    Bi (idx v12 (MF.1 / s98.1)) fun v21=>
    Ck ((0:Int)≤MF.1∧(0:Int)<s98.1)<|
    Bi (idx v12 (MF.1 % s98.1)) fun v24=>
    Ck ((0:Int)≤qt∧(0:Int)<4)<|
    eT 105 (bA 3 zj) [(cA.mk v21 v24 (IntKind.wrap .i64 (qt % 4)))] fun yN=>
    Ck (dL 40 (MF.2.length+List.length yN))<|
    nX [] [(10003,106)] (some (.next ((IntKind.wrap .i64 (MF.1+1)),(MF.2++yN)))))<|
   nX [] [] (some (.next ((IntKind.wrap .i64 (MF.1+1)),MF.2))))<|
  some (.done MF.2)) fun e91=>
 fL ([]:List (List Int)) 110 [] [2,4,5,8,108,109] [2] (fun _ t=>(10,.row 10004)::t) (fun s t=>(5,some (.bC 41 [.str ⟨#[102,108,101,101,116,49]⟩,.row 10005,.row 10006,.bq]))::(10004,some (.R 141 1 (bA 1 (DV.int .i64)) s))::(10005,some (.R 179 2 ye sx))::(10006,some (.R 181 3 zj e91))::t) [.r 10 10032 141 1] [(10004,10032),(10005,10002),(10006,10003)] m64 (s98.2.length:Int) (fun k28 s30=>
  Bi (idx s98.2 (k28:Int)) fun v86=>
  Bi (mH v86) fun v88=>
  eT 117 (bA 1 (bA 1 (DV.int .i64))) [v88] fun v89=>
  Ck (dL 24 (s30.length+List.length v89))<|
  nX [] [(10004,118)] (some (s30++v89))) fun s30=>
 fL ([]:List bB) 122 [] [2,5,8,120,121] [2] (fun _ t=>(10,.L 1 (bA 1 (DV.int .i64)) s30)::t) (fun s t=>(5,some (.bC 41 [.str ⟨#[102,108,101,101,116,49]⟩,.row 10007,.row 10008,.row 10009]))::(10007,some (.R 179 2 ye sx))::(10008,some (.R 181 3 zj e91))::(10009,some (.R 187 3 Bj s))::t) [.z 10004,.c 5 10031 3 187 3] [(10007,10005),(10008,10006),(10009,10031)] m64 (s98.2.length:Int) (fun k31 Np=>
  jn qJ 10025 [] [2,5,8,10,120,121,122] [2] i2 (fun s t=>(5,some (.bC 41 [.str ⟨#[102,108,101,101,116,49]⟩,.row 10010,.row 10011,.row 10012]))::(10010,some (.R 179 2 ye sx))::(10011,some (.R 181 3 zj e91))::(10012,some (.R 187 3 Bj s))::t)<|
  Bi (idx s98.2 (k31:Int)) fun v37=>
  Bi (idx v12 (k31:Int)) fun Fl=>
  Ck ((0:Int)≤v37.zc∧(0:Int)<3)<|
  Bi (bK 120 (IntKind.wrap .i64 (1+(IntKind.wrap .i64 (v37.zc % 3))))) fun En=>
  fL ([]:List cf) 139 [] [2,5,8,10,13,14,15,120,121,122,137,138] [2,14] i2 (fun s t=>(5,some (.bC 41 [.str ⟨#[102,108,101,101,116,49]⟩,.row 10013,.row 10014,.row 10015]))::(15,some (.bC 187 [.str Fl,.row 10016,.bq]))::(10013,some (.R 179 2 ye sx))::(10014,some (.R 181 3 zj e91))::(10015,some (.R 187 3 Bj Np))::(10016,some (.R 189 3 Bl s))::t) [.c 15 10030 1 189 3] [(10013,10007),(10014,10008),(10015,10009),(10016,10030)] m64 (En.length:Int) (fun k43 s45=>
   Bi (idx En (k43:Int)) fun v82=>
   eT 149 (bA 3 Bl) [(cf.mk v82 1 (k43:Int))] fun v83=>
   Ck (dL 32 (s45.length+List.length v83))<|
   nX [] [(10016,150)] (some (s45++v83))) fun s45=>
  eT 156 (bA 3 Bl) [(cf.mk ⟨#[98,48]⟩ 2 0)] fun v46=>
  Ck (dL 32 (s45.length+List.length v46))<|
  Ck ((0:Int)≤v37.cX∧(0:Int)<2)<|
  Bi (bK 116 (IntKind.wrap .i64 (v37.cX % 2))) fun Nq=>
  fL (s45++v46) 165 [] [2,5,8,10,13,14,15,120,121,122,163,164] [2,14] i2 (fun s t=>(5,some (.bC 41 [.str ⟨#[102,108,101,101,116,49]⟩,.row 10017,.row 10018,.row 10019]))::(15,some (.bC 187 [.str Fl,.row 10020,.bq]))::(10017,some (.R 179 2 ye sx))::(10018,some (.R 181 3 zj e91))::(10019,some (.R 187 3 Bj Np))::(10020,some (.R 189 3 Bl s))::t) [] [(10017,10013),(10018,10014),(10019,10015),(10020,157)] m64 (Nq.length:Int) (fun k51 TH=>
   Bi (idx Nq (k51:Int)) fun v78=>
   eT 173 (bA 3 Bl) [(cf.mk v78 3 0)] fun v79=>
   Ck (dL 32 (TH.length+List.length v79))<|
   nX [] [(10020,174)] (some (TH++v79))) fun TH=>
  Ck ((0:Int)≤v37.zc∧(0:Int)<3)<|
  Ck ((0:Int)≤v37.cX∧(0:Int)<2)<|
  Bi (fX (v37.bP.length:Int) 3) fun VO=>
  Ck (eN (v37.bP.length) 0 VO)<|
  jn (iQ sx e91 s30 k31 Np v37 Fl TH) 40 [] [2,5,8,10,14,15,20,120,121,122] [2,14,20] (fun s t=>(21,.L 2 Bk s)::t) (fun _ t=>(5,some (.bC 41 [.str ⟨#[102,108,101,101,116,49]⟩,.row 10021,.row 10022,.row 10023]))::(15,some (.bC 187 [.str Fl,.row 10024,.bq]))::(10021,some (.R 179 2 ye sx))::(10022,some (.R 181 3 zj e91))::(10023,some (.R 187 3 Bj Np))::(10024,some (.R 189 3 Bl TH))::t)<|
  If ((List.length (List.take (Int.toNat VO) v37.bP):Int)==0) (
   eT 203 (bA 2 Bk) [(bp.mk 1 [])] fun v76=>
   nX [.z 203] [(10021,10017),(10022,10018),(10023,10019),(10024,10020)] (iQ sx e91 s30 k31 Np v37 Fl TH v76))<|
  nX [] [(10021,10017),(10022,10018),(10023,10019),(10024,10020)] (iQ sx e91 s30 k31 Np v37 Fl TH (List.take (Int.toNat VO) v37.bP))) fun Np=>
 wk [.z 10007,.z 10008,.z 10009]<|some (dK.mk ⟨#[102,108,101,101,116,49]⟩ sx e91 Np)
noncomputable def mI(x0:dg):Option dK :=
 Bi (fX (x0.aF.length:Int) 3) fun v2=>
 Ck (eN (x0.aF.length) 0 v2)<|
 jn (ko x0) 3 [] [1,2] [1,2] (fun s t=>(3,.I s.1)::(4,.L 4 GG s.2)::t) i2<|
 If (v2==0) (
  eT 33 (bA 4 GG) [(bL.mk 0 0 [] [])] fun v99=>
  nX [.z 33] [] (ko x0 (1,v99)))<|
 nX [] [] (ko x0 (v2,(List.take (Int.toNat v2) x0.aF)))
instance Ln{x0}:MC (mI x0) fun r=>bx prog 40 [.agg (KD x0)] (.agg (GF r)):=⟨fun hM=>by unfold mI at hM;exact pb func40 ntmps40⟩
end Go.Proofs.YtpeihknododmlaaGreatDoor
namespace Go.Proofs.YtpeihknododmlaaGreatDoor
open Go.Proofs.Tryz
theorem Qt{S E:Type}{step:S→Option (xV S E)}{s0:S}(I:S→Prop)(μ:S→Nat)(Q:E→Prop)(hI:I s0)(hb:μ s0<1180591620717411303424)
  (h:∀s,I s→(∃s',step s=some (.next s')∧I s'∧μ s'<μ s)∨(∃e,step s=some (.done e)∧Q e)):∃e,Ey step s0=some e∧Q e:=by
 unfold Ey
 have:∀n s,I s→μ s<n→∃e,Ad step n s=some e∧Q e:=by
  intro n
  induction n with
  |zero=>intro s _ h;omega
  |succ n ih=>
   intro s hs hm;rcases h s hs with⟨s',h1,h2,h3⟩|⟨e,h1,h2⟩
   ·obtain⟨e,k1,k2⟩:=ih s' h2 (by omega)
    refine⟨e,?_,k2⟩;unfold Ad;rw[h1];exact k1
   ·refine⟨e,?_,h2⟩
    unfold Ad;rw[h1];rfl
 exact this _ s0 hI hb
theorem wrap_i64{n:Int}(h1:-9223372036854775808≤n)(h2:n≤9223372036854775807):IntKind.wrap .i64 n=n:=xI (k:=.i64) ⟨h1,h2⟩
theorem wrap_u64{n:Int}(h1:0≤n)(h2:n≤18446744073709551615):IntKind.wrap .u64 n=n:=xI (k:=.u64) ⟨h1,h2⟩
theorem wrap_u8{n:Int}(h1:0≤n)(h2:n≤255):IntKind.wrap .u8 n=n:=xI (k:=.u8) ⟨h1,h2⟩
def Wp{α:Type}(o:Option α)(Q:α→Prop):Prop:=∃r,o=some r∧Q r
section
variable {α β γ S E R:Type} {Q:β→Prop} {a:Option α} {b k:Option β}
theorem ah{r:β}(h:Q r):Wp (some r) Q:=⟨r,rfl,h⟩
theorem Wp.eq{r:β}(h:b=some r)(g:Q r):Wp b Q:=⟨r,h,g⟩
theorem Wp.imp{P:β→Prop}(h:Wp b P)(g:∀x,P x→Q x):Wp b Q:=by obtain⟨r,e,p⟩:=h;exact⟨r,e,g r p⟩
theorem od{f:α→Option β}(h:Wp a fun x=>Wp (f x) Q):Wp (Bi a f) Q:=by
 rw[Ks];obtain⟨x,e,h⟩:=h;rw[e];exact h
theorem au{P:α→Prop}{f:α→Option β}(h:Wp a P)(g:∀x,P x→Wp (f x) Q):Wp (Bi a f) Q:=od (h.imp g)
theorem aA{f:α→Option β}{x:α}(h:a=some x)(g:Wp (f x) Q):Wp (Bi a f) Q:=od ⟨x,h,g⟩
theorem ak{c:Bool}{x y:Option β}(h1:c=true→Wp x Q)(h2:c=false→Wp y Q):Wp (If c x y) Q:=by
 rw[TB];cases c with
 |true=>exact h1 rfl
 |false=>exact h2 rfl
theorem aK{p:Prop}[Decidable p](h:p)(g:Wp k Q):Wp (Ck p k) Q:=by rw[TC];unfold Ih;rw[if_pos h];exact g
theorem aQ{t:Nat}{l:Rn}(h:Wp b Q):Wp (cl t l b) Q:=by unfold Go.Proofs.YtpeihknododmlaaGreatDoor.cl;exact h
theorem cR{w:List Wk}(h:Wp b Q):Wp (wk w b) Q:=by unfold Go.Proofs.YtpeihknododmlaaGreatDoor.wk;exact h
theorem ax{w:List Wk}{l:Rn}(h:Wp b Q):Wp (nX w l b) Q:=by unfold Go.Proofs.YtpeihknododmlaaGreatDoor.nX;exact h
theorem aI{l:Rn}(h:Wp b Q):Wp (rX l b) Q:=by unfold Go.Proofs.YtpeihknododmlaaGreatDoor.rX;exact h
theorem WK{l:Rn}{ke kh:List Nat}(h:Wp b Q):Wp (rC ke kh l b) Q:=by unfold Go.Proofs.YtpeihknododmlaaGreatDoor.rC;exact h
theorem KM(h:Wp b Q):Wp (o1 b) Q:=by unfold Go.Proofs.YtpeihknododmlaaGreatDoor.o1;exact h
theorem WN{f:α→γ}{x:α}(h:Wp k Q):Wp (mv f x k) Q:=by unfold Go.Proofs.YtpeihknododmlaaGreatDoor.mv;exact h
theorem aV{t:Nat}{f:α→DV}{y:α}{k:α→Option β}(h:Wp (k y) Q):Wp (eT t f y k) Q:=by unfold eT;exact h
theorem iz{γ:Type}{t:Nat}{f:γ→List DV}{F:Nat→γ}(h:Wp k Q):Wp (ea t f F k) Q:=by unfold Go.Proofs.YtpeihknododmlaaGreatDoor.ea;exact h
theorem qj{γ:Type}{t:Nat}{v:γ}(h:Wp k Q):Wp (eb t v k) Q:=by unfold Go.Proofs.YtpeihknododmlaaGreatDoor.eb;exact h
theorem Wp.dX{r i m:Nat}(h:Wp k Q):Wp (dX r i m k) Q:=by unfold Go.Proofs.YtpeihknododmlaaGreatDoor.dX;exact h
theorem cS{K:S→Option β}{sN:Nat}{u ke kh:List Nat}{ne:S→Ev→Ev}{nh:S→eY→eY}(h:Wp b Q):Wp (jn K sN u ke kh ne nh b) Q:=by unfold Go.Proofs.YtpeihknododmlaaGreatDoor.jn;exact h
theorem CP{v:α⊕γ}{f:α→Option β}{g:γ→Option β}(h1:∀x,v = .inl x→Wp (f x) Q)(h2:∀x,v = .inr x→Wp (g x) Q):Wp (sm v f g) Q:=by
 unfold Go.Proofs.YtpeihknododmlaaGreatDoor.sm;cases v with
 |inl x=>exact h1 x rfl
 |inr x=>exact h2 x rfl
theorem ia{c:Bool}{z:β}(h1:c=true→Wp b Q)(h2:c=false→Q z):Wp (gb c z b) Q:=by
 unfold gb;cases c with
 |true=>exact h1 rfl
 |false=>exact⟨z,rfl,h2 rfl⟩
theorem GK{xs:List β}{j:Nat}(h:j<xs.length)(g:∀x,xs[j]? = some x→x∈xs→Q x):Wp (idx xs (j:Int)) Q :=
 ⟨xs[j],by rw[gR];exact List.getElem?_eq_getElem h,g _ (List.getElem?_eq_getElem h) (List.getElem_mem h)⟩
theorem Bt{xs:List β}{i:Int}(h0:0≤i)(h:i<xs.length)(g:∀x,xs[i.toNat]? = some x→x∈xs→Q x):Wp (idx xs i) Q:=by
 have:=GK (xs:=xs) (j:=i.toNat) (Q:=Q) (by omega) g
 rwa [Int.toNat_of_nonneg h0]at this
def Rdn(N:S→Prop)(D:E→Prop):xV S E→Prop
 |.next s=>N s
 |.done e=>D e
theorem JO{body:Nat→S→Option S}(I:Nat→S→Prop):∀(m k:Nat) (s:S),I k s→(∀j s,k≤j→j<k+m→I j s→Wp (body j s) (I (j+1)))→Wp (Hs body m k s) (I (k+m))
 |0,k,s,h0,_=>⟨s,rfl,h0⟩
 |m+1,k,s,h0,h=>by
  obtain⟨s',e,h1⟩:=h k s (Nat.le_refl _) (by omega) h0;unfold Hs;rw[e,Option.bind_some];have:=JO I m (k+1) s' h1 (fun j s a b c=>h j s (by omega) (by omega) c)
  rwa [show k+1+m=k+(m+1) by omega]at this
theorem WO{mx n:Int}{body:Nat→S→Option S}{s0:S}{P:S→Prop}(I:Nat→S→Prop)(hx:n≤mx)(h0:I 0 s0)(hb:∀(j:Nat) (s:S),(j:Int)<n→I j s→Wp (body j s) (I (j+1)))(hP:∀s:S,I n.toNat s→P s):Wp (EY mx n body s0) P:=by
 unfold EY;rw[tT hx];have:=JO I n.toNat 0 s0 h0 (fun j s _ b c=>hb j s (by omega) c);rw[Nat.zero_add]at this;exact this.imp hP
theorem cw{ct:Nat}{u ke kh:List Nat}{ne:S→Ev→Ev}{nh:S→eY→eY}{w:List Wk}{l:Rn}{mx n:Int}{body:Nat→S→Option S}{s0:S}{k:S→Option β}(I:Nat→S→Prop)(hx:n≤mx)(h0:I 0 s0)(hb:∀(j:Nat) (s:S),(j:Int)<n→I j s→Wp (body j s) (I (j+1)))(hk:∀s:S,I n.toNat s→Wp (k s) Q):Wp (fL s0 ct u ke kh ne nh w l mx n body k) Q:=by
 unfold Go.Proofs.YtpeihknododmlaaGreatDoor.fL;obtain⟨s,e,h⟩:=WO (P:=fun s=>Wp (k s) Q) I hx h0 hb hk;rw[e];exact h
theorem Wp.fLu{ct:Nat}{u ke kh:List Nat}{ne:S→Ev→Ev}{nh:S→eY→eY}{w:List Wk}{l:Rn}{mx n:Int}{body:Nat→S→Option S}{s0:S}{k:S→Option β}(I:Nat→S→Prop)(hx:n≤mx)(h0:I 0 s0)(hb:∀(j:Nat) (s:S),(j:Int)<n→I j s→Wp (body j s) (I (j+1)))(hk:∀s:S,I n.toNat s→Wp (k s) Q):Wp (fLu s0 ct u ke kh ne nh w l mx n body k) Q:=by
 unfold Go.Proofs.YtpeihknododmlaaGreatDoor.fLu;obtain⟨s,e,h⟩:=WO (P:=fun s=>Wp (k s) Q) I hx h0 hb hk;rw[e];exact h
theorem OD{body:Nat→S→Option (xV S E)}(I:Nat→S→Prop)(D:E→Prop):∀(m k:Nat) (s:S),I k s→(∀j s,k≤j→j<k+m→I j s→Wp (body j s) (Rdn (I (j+1)) D))→Wp (OE body m k s) (Rdn (I (k+m)) D)
 |0,k,s,h0,_=>⟨.next s,rfl,h0⟩
 |m+1,k,s,h0,h=>by
  obtain⟨t,e,h1⟩:=h k s (Nat.le_refl _) (by omega) h0;unfold OE;rw[e,Option.bind_some];cases t with
  |done e'=>exact⟨_,rfl,h1⟩
  |next s'=>
   have:=OD I D m (k+1) s' h1 (fun j s a b c=>h j s (by omega) (by omega) c)
   rwa [show k+1+m=k+(m+1) by omega]at this
theorem eI{ct:Nat}{u ke kh:List Nat}{ne:S→Ev→Ev}{nh:S→eY→eY}{w:List Wk}{l:Rn}{mx n:Int}{body:Nat→S→Option (xV S E)}{s0:S}{k:xV S E→Option β}(I:Nat→S→Prop)(hx:n≤mx)(h0:I 0 s0)(hb:∀(j:Nat) (s:S),(j:Int)<n→I j s→Wp (body j s) (Rdn (I (j+1)) fun e=>Wp (k (.done e)) Q))(hk:∀s:S,I n.toNat s→Wp (k (.next s)) Q):Wp (fO s0 ct u ke kh ne nh w l mx n body k) Q:=by
 unfold Go.Proofs.YtpeihknododmlaaGreatDoor.fO SS;rw[tT hx];obtain⟨t,e,h⟩:=OD I (fun e=>Wp (k (.done e)) Q) n.toNat 0 s0 h0 (fun j s _ b c=>hb j s (by omega) c);rw[e];cases t with
 |next s=>rw[Nat.zero_add]at h;exact hk s h
 |done e'=>exact h
theorem ly{u ke kh:List Nat}{ne:S→Ev→Ev}{nh:S→eY→eY}{w:List Wk}{l:Rn}{step:S→Option (xV S E)}{s0:S}{k:E→Option β}(I:S→Prop)(μ:S→Nat)(h0:I s0)(hm:μ s0<1180591620717411303424)(hb:∀s,I s→Wp (step s) (Rdn (fun s'=>I s'∧μ s'<μ s) fun e=>Wp (k e) Q)):Wp (wL s0 u ke kh ne nh w l step k) Q:=by
 unfold Go.Proofs.YtpeihknododmlaaGreatDoor.wL
 obtain⟨e,h1,h2⟩:=Qt I μ (fun e=>Wp (k e) Q) h0 hm (fun s hs=>by
  obtain⟨t,e,h⟩:=hb s hs;cases t with
  |next s'=>exact .inl ⟨s',e,h⟩
  |done e'=>exact .inr ⟨e',e,h⟩)
 rw[h1];exact h2
end
abbrev E5:=av
abbrev Mk:=aw
def nm(c k:Nat):ByteArray:=⟨#[c.toUInt8,(48+k).toUInt8]⟩
theorem ahR:bK 120 3=some [nm 120 0,nm 120 1,nm 120 2]:=by kernel_rfl
theorem aeN:bK 112 2=some [nm 112 0,nm 112 1]:=by kernel_rfl
theorem aeO:bK 102 2=some [nm 102 0,nm 102 1]:=by kernel_rfl
theorem abF:bK 104 3=some [nm 104 0,nm 104 1,nm 104 2]:=by kernel_rfl
abbrev Nd:=Int→ByteArray→Int→List DV→DV
def UJ:Nd:=fun op s n a=>iy ⟨op,s,n,a⟩
inductive rL(mk:Nd)(I T Pn:Int):Nat→DV→Prop
 |lit {d:Nat} {n:Int}:0≤n→n<9→rL mk I T Pn (d+1) (mk 1 ByteArray.empty n [])
 |var {d i:Nat}:(i:Int)<I→rL mk I T Pn (d+1) (mk 5 (nm 120 i) 0 [])
 |par {d i:Nat}:(i:Int)<Pn→rL mk I T Pn (d+1) (mk 5 (nm 112 i) 0 [])
 |now {d:Nat}:rL mk I T Pn (d+1) (mk 4 ByteArray.empty 0 [])
 |get {d:Nat} {a:DV}:0<T→rL mk I T Pn d a→rL mk I T Pn (d+1) (mk 6 (nm 116 0) 0 [a])
 |size {d:Nat}:0<T→rL mk I T Pn (d+1) (mk 8 (nm 116 0) 0 [])
 |neg {d:Nat} {a:DV}:rL mk I T Pn d a→rL mk I T Pn (d+1) (mk 9 ByteArray.empty 0 [a])
 |bin {d:Nat} {op:Int} {a b:DV}:11≤op→op≤15→rL mk I T Pn d a→rL mk I T Pn d b→rL mk I T Pn (d+1) (mk op ByteArray.empty 0 ([a,b]))
inductive xn(mk:Nd)(I T F Pn:Int):Nat→DV→Prop
 |lit {d:Nat} {op:Int}:2≤op→op≤3→xn mk I T F Pn (d+1) (mk op ByteArray.empty 0 [])
 |b0 {d:Nat}:xn mk I T F Pn (d+1) (mk 5 (nm 98 0) 0 [])
 |flag {d i:Nat}:(i:Int)<F→xn mk I T F Pn (d+1) (mk 5 (nm 102 i) 0 [])
 |has {d:Nat} {a:DV}:0<T→rL mk I T Pn d a→xn mk I T F Pn (d+1) (mk 7 (nm 116 0) 0 [a])
 |not {d:Nat} {a:DV}:xn mk I T F Pn d a→xn mk I T F Pn (d+1) (mk 10 ByteArray.empty 0 [a])
 |con {d:Nat} {op:Int} {a b:DV}:22≤op→op≤23→xn mk I T F Pn d a→xn mk I T F Pn d b→xn mk I T F Pn (d+1) (mk op ByteArray.empty 0 ([a,b]))
 |cmp {d:Nat} {op:Int} {a b:DV}:16≤op→op≤21→rL mk I T Pn d a→rL mk I T Pn d b→xn mk I T F Pn (d+1) (mk op ByteArray.empty 0 ([a,b]))
structure HK(m:Mk):Prop where
 i1:1≤m.ny
 i3:m.ny≤3
 t0:0≤m.cC
 f0:0≤m.dB
 f2:m.dB≤2
 p0:0≤m.eH
 p2:m.eH≤2
 by8:∀b∈m.tt,0≤b∧b<256
 bl:m.tt.length≤40
structure Sm(m n:Mk):Prop where
 ints:n.ny=m.ny
 tables:n.cC=m.cC
 flags:n.dB=m.dB
 own:n.lQ=m.lQ
 ar:n.eO=m.eO
 params:n.eH=m.eH
 left:n.qW=m.qW
 bytes:n.tt.length≤m.tt.length
 sub:∀b∈n.tt,b∈m.tt
theorem Sm.refl(m:Mk):Sm m m:=⟨rfl,rfl,rfl,rfl,rfl,rfl,rfl,Nat.le_refl _,fun _ h=>h⟩
theorem Sm.trans{a b c:Mk}(h:Sm a b)(k:Sm b c):Sm a c:=⟨k.ints.trans h.ints,k.tables.trans h.tables,k.flags.trans h.flags,k.own.trans h.own,k.ar.trans h.ar,k.params.trans h.params,k.left.trans h.left,Nat.le_trans k.bytes h.bytes,fun x hx=>h.sub x (k.sub x hx)⟩
theorem HK.of{m n:Mk}(h:HK m)(k:Sm m n):HK n:=⟨k.ints ▸ h.i1,k.ints ▸ h.i3,k.tables ▸ h.t0,k.flags ▸ h.f0,k.flags ▸ h.f2,k.params ▸ h.p0,k.params ▸ h.p2,fun b hb=>h.by8 b (k.sub b hb),Nat.le_trans k.bytes h.bl⟩
theorem pZ{m:Mk}{n:Int}(h:HK m)(hn:0<n):Wp (bN n m) fun r=>0≤r.1∧r.1<n∧Sm m r.2:=by
 unfold bN;refine ak (fun hb=>?_) (fun hb=>?_)
 ·exact aI (ah ⟨Int.le_refl _,hn,Sm.refl _⟩)
 ·have hl:0<m.tt.length:=by
   simp at hb;exact List.length_pos_iff.2 hb
  refine od (GK (j:=0) hl (fun v hv hm=>?_));have hv8:=h.by8 v hm;have hw:IntKind.wrap .i64 v=v:=by rw[IntKind.wrap_i64];omega
  refine aK (by unfold eN;omega) (aK (by rw[hw];exact⟨hv8.1,hn⟩) (aI (ah ?_)));rw[hw];refine⟨Int.emod_nonneg _ (by omega),Int.emod_lt_of_pos _ hn,⟨rfl,rfl,rfl,rfl,rfl,rfl,rfl,?_,?_⟩⟩
  ·simp
  ·intro b hb;exact List.mem_of_mem_drop hb
theorem Da{m:Mk}(h:HK m):Wp (dJ m) fun r=>(∃i:Nat,(i:Int)<m.ny∧r.1=nm 120 i)∧Sm m r.2:=by
 unfold dJ;refine aA ahR ?_;refine au (aQ (pZ h (by have:=h.i1;omega))) ?_;rintro⟨v,n⟩ ⟨h0,h1,hs⟩;dsimp only at h0 h1 hs ⊢;have h3:=h.i3;obtain⟨j,rfl⟩:=Int.eq_ofNat_of_zero_le h0;have hj:j<3:=by omega
 have e:idx [nm 120 0,nm 120 1,nm 120 2] (j:Int)=some (nm 120 j):=by
  rw[gR]
  match j,hj with
  |0,_=>rfl
  |1,_=>rfl
  |2,_=>rfl
 refine aA e (aI (ah ⟨⟨j,h1,rfl⟩,hs⟩))
theorem JE:∀(k fu:Nat) (x1:Int) (m:Mk),k<fu→k≤3→x1=3-(k:Int)→HK m→Wp (bu fu x1 m) fun r=>rL UJ m.ny m.cC m.eH (k+1) (iy r.1)∧Sm m r.2:=by
 intro k
 induction k with
 |zero=>
  intro fu x1 m hf _ hx h;obtain⟨fu,rfl⟩:∃g,fu=g+1:=⟨fu-1,by omega⟩;unfold bu gu;refine au (aQ (pZ h (by omega))) ?_;rintro⟨v,n⟩ ⟨v0,v1,hs⟩;dsimp only at v0 v1 hs ⊢;have hn:=h.of hs;refine ak (fun hb=>?_) (fun hb=>?_)
  ·refine au (aQ (pZ hn (by omega))) ?_
   rintro⟨w,n'⟩ ⟨w0,w1,mm⟩;exact aI (ah ⟨.lit w0 w1,hs.trans mm⟩)
  refine ak (fun Co=>?_) (fun Co=>?_)
  ·refine au (aQ (Da hn)) ?_
   rintro⟨w,n'⟩ ⟨⟨i,hi,rfl⟩,mm⟩;exact aI (ah ⟨.var (by rw[←hs.ints];exact hi),hs.trans mm⟩)
  have hv:v=4∨v=5:=by
   simp at hb Co;omega
  refine ak (fun Gc=>?_) (fun Gc=>?_)
  ·have hp:n.eH≠0:=by
    intro e;simp at Co Gc;omega
   have hp0:=hn.p0;have hp2:=hn.p2;refine aA aeN ?_;refine au (aQ (pZ hn (by omega))) ?_;rintro⟨w,n'⟩ ⟨w0,w1,mm⟩;dsimp only at w0 w1 mm ⊢;obtain⟨j,rfl⟩:=Int.eq_ofNat_of_zero_le w0;have hj:j<2:=by omega
   have e:idx [nm 112 0,nm 112 1] (j:Int)=some (nm 112 j):=by
    rw[gR]
    match j,hj with
    |0,_=>rfl
    |1,_=>rfl
   exact aA e (aI (ah ⟨.par (by rw[←hs.params];exact w1),hs.trans mm⟩))
  refine ak (fun Il=>?_) (fun Il=>?_)
  ·exact aI (ah ⟨.now,hs⟩)
  ·exfalso;simp at Gc Il;omega
 |succ k ih=>
  intro fu x1 m hf hk hx h;obtain⟨fu,rfl⟩:∃g,fu=g+1:=⟨fu-1,by omega⟩;have hw:IntKind.wrap .i64 (x1+1)=3-(k:Int):=by rw[IntKind.wrap_i64];omega
  unfold bu gu;rw[hw]
  have rc:∀{n:Mk},Sm m n→Wp (bu fu (3-(k:Int)) n) fun r=>rL UJ m.ny m.cC m.eH (k+1) (iy r.1)∧Sm m r.2:=by
   intro n hs;refine(ih fu _ n (by omega) (by omega) rfl (h.of hs)).imp ?_;rintro r ⟨h1,h2⟩;rw[hs.ints,hs.tables,hs.params]at h1;exact⟨h1,hs.trans h2⟩
  refine au (aQ (pZ h (by omega))) ?_;rintro⟨v,n⟩ ⟨v0,v1,hs⟩;dsimp only at v0 v1 hs ⊢;have hn:=h.of hs;refine ak (fun hb=>?_) (fun hb=>?_)
  ·refine au (aQ (pZ hn (by omega))) ?_
   rintro⟨w,n'⟩ ⟨w0,w1,mm⟩;exact aI (ah ⟨.lit w0 w1,hs.trans mm⟩)
  refine ak (fun Co=>?_) (fun Co=>?_)
  ·refine au (aQ (Da hn)) ?_
   rintro⟨w,n'⟩ ⟨⟨i,hi,rfl⟩,mm⟩;exact aI (ah ⟨.var (by rw[←hs.ints];exact hi),hs.trans mm⟩)
  refine ak (fun Gc=>?_) (fun Gc=>?_)
  ·have hp:n.eH≠0:=by
    intro e;simp at Co Gc;omega
   have hp0:=hn.p0;have hp2:=hn.p2;refine aA aeN ?_;refine au (aQ (pZ hn (by omega))) ?_;rintro⟨w,n'⟩ ⟨w0,w1,mm⟩;dsimp only at w0 w1 mm ⊢;obtain⟨j,rfl⟩:=Int.eq_ofNat_of_zero_le w0;have hj:j<2:=by omega
   have e:idx [nm 112 0,nm 112 1] (j:Int)=some (nm 112 j):=by
    rw[gR]
    match j,hj with
    |0,_=>rfl
    |1,_=>rfl
   exact aA e (aI (ah ⟨.par (by rw[←hs.params];exact w1),hs.trans mm⟩))
  refine ak (fun Il=>?_) (fun Il=>?_)
  ·exact aI (ah ⟨.now,hs⟩)
  refine ak (fun Wr=>?_) (fun Wr=>?_)
  ·have ht:0<m.cC:=by rw[←hs.tables];simp at Wr;exact Wr.2
   refine au (aQ (rc hs)) ?_;rintro⟨e,n'⟩ ⟨h1,h2⟩;exact aV (cR (aI (ah ⟨.get ht h1,h2⟩)))
  refine ak (fun Ws=>?_) (fun Ws=>?_)
  ·have ht:0<m.cC:=by rw[←hs.tables];simp at Ws;exact Ws.2
   exact aI (ah ⟨.size ht,hs⟩)
  refine ak (fun hb7=>?_) (fun hb7=>?_)
  ·refine au (aQ (rc hs)) ?_
   rintro⟨e,n'⟩ ⟨h1,h2⟩;exact aV (cR (aI (ah ⟨.neg h1,h2⟩)))
  refine aV ?_;refine au (aQ (pZ hn (by omega))) ?_;rintro⟨w,n'⟩ ⟨w0,w1,mm⟩;dsimp only at w0 w1 mm ⊢
  obtain⟨op,ho,o1,o2⟩:∃op,idx ([14,15,11,12,13,14]:List Int) w=some op∧11≤op∧op≤15:=by
   obtain⟨j,rfl⟩:=Int.eq_ofNat_of_zero_le w0;have hj:j<6:=by omega
   rw[gR]
   match j,hj with
   |0,_=>exact⟨14,rfl,by decide,by decide⟩
   |1,_=>exact⟨15,rfl,by decide,by decide⟩
   |2,_=>exact⟨11,rfl,by decide,by decide⟩
   |3,_=>exact⟨12,rfl,by decide,by decide⟩
   |4,_=>exact⟨13,rfl,by decide,by decide⟩
   |5,_=>exact⟨14,rfl,by decide,by decide⟩
  refine aA ho ?_;refine au (aQ (rc (hs.trans mm))) ?_;rintro⟨e,n1⟩ ⟨h1,h2⟩;refine au (aQ (rc h2)) ?_;rintro⟨e2,n2⟩ ⟨h3,h4⟩;exact aV (cR (aI (ah ⟨.bin o1 o2 h1 h3,h4⟩)))
theorem rL.mono{mk:Nd}{I T Pn:Int}{d:Nat}{x:DV}(h:rL mk I T Pn d x):∀{d':Nat},d≤d'→rL mk I T Pn d' x:=by
 induction h with
 |lit a b=>intro d' hd;obtain⟨e,rfl⟩:∃e,d'=e+1:=⟨d'-1,by omega⟩;exact .lit a b
 |var a=>intro d' hd;obtain⟨e,rfl⟩:∃e,d'=e+1:=⟨d'-1,by omega⟩;exact .var a
 |par a=>intro d' hd;obtain⟨e,rfl⟩:∃e,d'=e+1:=⟨d'-1,by omega⟩;exact .par a
 |now=>intro d' hd;obtain⟨e,rfl⟩:∃e,d'=e+1:=⟨d'-1,by omega⟩;exact .now
 |get a b ih=>intro d' hd;obtain⟨e,rfl⟩:∃e,d'=e+1:=⟨d'-1,by omega⟩;exact .get a (ih (by omega))
 |size a=>intro d' hd;obtain⟨e,rfl⟩:∃e,d'=e+1:=⟨d'-1,by omega⟩;exact .size a
 |neg b ih=>intro d' hd;obtain⟨e,rfl⟩:∃e,d'=e+1:=⟨d'-1,by omega⟩;exact .neg (ih (by omega))
 |bin a b c d ih1 ih2=>intro d' hd;obtain⟨e,rfl⟩:∃e,d'=e+1:=⟨d'-1,by omega⟩;exact .bin a b (ih1 (by omega)) (ih2 (by omega))
theorem yZ{m n:Mk}(h:HK m)(hs:Sm m n):Wp (bu 64 1 n) fun r=>rL UJ m.ny m.cC m.eH 3 (iy r.1)∧Sm m r.2:=by
 refine(JE 2 64 1 n (by omega) (by omega) (by omega) (h.of hs)).imp ?_;rintro r ⟨h1,h2⟩;rw[hs.ints,hs.tables,hs.params]at h1;exact⟨h1,hs.trans h2⟩
theorem abD{m n:Mk}(h:HK m)(hs:Sm m n):Wp (bu 64 0 n) fun r=>rL UJ m.ny m.cC m.eH 4 (iy r.1)∧Sm m r.2:=by
 refine(JE 3 64 0 n (by omega) (by omega) (by omega) (h.of hs)).imp ?_;rintro r ⟨h1,h2⟩;rw[hs.ints,hs.tables,hs.params]at h1;exact⟨h1,hs.trans h2⟩
theorem WX:∀(k fu:Nat) (x1:Int) (m:Mk),k<fu→k≤2→x1=2-(k:Int)→HK m→Wp (dH fu x1 m) fun r=>xn UJ m.ny m.cC m.dB m.eH (k+4) (iy r.1)∧Sm m r.2:=by
 intro k
 induction k with
 |zero=>
  intro fu x1 m hf hk hx h;obtain⟨fu,rfl⟩:∃g,fu=g+1:=⟨fu-1,by omega⟩;unfold dH gJ;refine au (aQ (pZ h (by omega))) ?_;rintro⟨v,n⟩ ⟨v0,v1,hs⟩;dsimp only at v0 v1 hs ⊢;have hn:=h.of hs;refine ak (fun hb=>?_) (fun hb=>?_)
  ·refine au (aQ (pZ hn (by omega))) ?_
   rintro⟨w,n'⟩ ⟨w0,w1,mm⟩;dsimp only at w0 w1 mm ⊢;have hw:IntKind.wrap .i64 (2+w)=2+w:=by rw[IntKind.wrap_i64];omega
   rw[hw];exact aI (ah ⟨.lit (by omega) (by omega),hs.trans mm⟩)
  refine ak (fun Co=>?_) (fun Co=>?_)
  ·exact aI (ah ⟨.b0,hs⟩)
  refine ak (fun Gc=>?_) (fun Gc=>?_)
  ·have hp:0<n.dB:=by simp at Gc;exact Gc.2
   have hp2:=hn.f2;refine aA aeO ?_;refine au (aQ (pZ hn hp)) ?_;rintro⟨w,n'⟩ ⟨w0,w1,mm⟩;dsimp only at w0 w1 mm ⊢;obtain⟨j,rfl⟩:=Int.eq_ofNat_of_zero_le w0;have hj:j<2:=by omega
   have e:idx [nm 102 0,nm 102 1] (j:Int)=some (nm 102 j):=by
    rw[gR]
    match j,hj with
    |0,_=>rfl
    |1,_=>rfl
   exact aA e (aI (ah ⟨.flag (by rw[←hs.flags];exact w1),hs.trans mm⟩))
  refine ak (fun Il=>?_) (fun Il=>?_)
  ·have ht:0<m.cC:=by rw[←hs.tables];simp at Il;exact Il.2
   refine au (aQ (yZ h hs)) ?_;rintro⟨e,n'⟩ ⟨h1,h2⟩;exact aV (cR (aI (ah ⟨.has ht h1,h2⟩)))
  refine ak (fun Wr=>?_) (fun Wr=>?_)
  ·exfalso;simp at Wr Co;omega
  refine ak (fun Ws=>?_) (fun Ws=>?_)
  ·exfalso;simp at Ws Co;omega
  refine au (aQ (pZ hn (by omega))) ?_;rintro⟨w,n'⟩ ⟨w0,w1,mm⟩;dsimp only at w0 w1 mm ⊢;refine au (aQ (yZ h (hs.trans mm))) ?_;rintro⟨e,n1⟩ ⟨h1,h2⟩;refine au (aQ (yZ h h2)) ?_;rintro⟨e2,n2⟩ ⟨h3,h4⟩;have hw:IntKind.wrap .i64 (16+w)=16+w:=by rw[IntKind.wrap_i64];omega
  rw[hw];exact aV (cR (aI (ah ⟨.cmp (by omega) (by omega) h1 h3,h4⟩)))
 |succ k ih=>
  intro fu x1 m hf hk hx h;obtain⟨fu,rfl⟩:∃g,fu=g+1:=⟨fu-1,by omega⟩;have hw:IntKind.wrap .i64 (x1+1)=2-(k:Int):=by rw[IntKind.wrap_i64];omega
  unfold dH gJ;rw[hw]
  have rc:∀{n:Mk},Sm m n→Wp (dH fu (2-(k:Int)) n) fun r=>xn UJ m.ny m.cC m.dB m.eH (k+4) (iy r.1)∧Sm m r.2:=by
   intro n hs;refine(ih fu _ n (by omega) (by omega) rfl (h.of hs)).imp ?_;rintro r ⟨h1,h2⟩;rw[hs.ints,hs.tables,hs.flags,hs.params]at h1;exact⟨h1,hs.trans h2⟩
  refine au (aQ (pZ h (by omega))) ?_;rintro⟨v,n⟩ ⟨v0,v1,hs⟩;dsimp only at v0 v1 hs ⊢;have hn:=h.of hs;refine ak (fun hb=>?_) (fun hb=>?_)
  ·refine au (aQ (pZ hn (by omega))) ?_
   rintro⟨w,n'⟩ ⟨w0,w1,mm⟩;dsimp only at w0 w1 mm ⊢;have hw:IntKind.wrap .i64 (2+w)=2+w:=by rw[IntKind.wrap_i64];omega
   rw[hw];exact aI (ah ⟨.lit (by omega) (by omega),hs.trans mm⟩)
  refine ak (fun Co=>?_) (fun Co=>?_)
  ·exact aI (ah ⟨.b0,hs⟩)
  refine ak (fun Gc=>?_) (fun Gc=>?_)
  ·have hp:0<n.dB:=by simp at Gc;exact Gc.2
   have hp2:=hn.f2;refine aA aeO ?_;refine au (aQ (pZ hn hp)) ?_;rintro⟨w,n'⟩ ⟨w0,w1,mm⟩;dsimp only at w0 w1 mm ⊢;obtain⟨j,rfl⟩:=Int.eq_ofNat_of_zero_le w0;have hj:j<2:=by omega
   have e:idx [nm 102 0,nm 102 1] (j:Int)=some (nm 102 j):=by
    rw[gR]
    match j,hj with
    |0,_=>rfl
    |1,_=>rfl
   exact aA e (aI (ah ⟨.flag (by rw[←hs.flags];exact w1),hs.trans mm⟩))
  refine ak (fun Il=>?_) (fun Il=>?_)
  ·have ht:0<m.cC:=by rw[←hs.tables];simp at Il;exact Il.2
   refine au (aQ (yZ h hs)) ?_;rintro⟨e,n'⟩ ⟨h1,h2⟩;exact aV (cR (aI (ah ⟨.has ht (h1.mono (by omega)),h2⟩)))
  refine ak (fun Wr=>?_) (fun Wr=>?_)
  ·refine au (aQ (rc hs)) ?_
   rintro⟨e,n'⟩ ⟨h1,h2⟩;exact aV (cR (aI (ah ⟨.not h1,h2⟩)))
  refine ak (fun Ws=>?_) (fun Ws=>?_)
  ·have hv:v=6∨v=7:=by simp at Ws;exact Ws
   refine au (aQ (rc hs)) ?_;rintro⟨e,n1⟩ ⟨h1,h2⟩;refine au (aQ (rc h2)) ?_;rintro⟨e2,n2⟩ ⟨h3,h4⟩;have hw:IntKind.wrap .i64 (16+v)=16+v:=by rw[IntKind.wrap_i64];omega
   rw[hw];exact aV (cR (aI (ah ⟨.con (by omega) (by omega) h1 h3,h4⟩)))
  refine au (aQ (pZ hn (by omega))) ?_;rintro⟨w,n'⟩ ⟨w0,w1,mm⟩;dsimp only at w0 w1 mm ⊢;refine au (aQ (yZ h (hs.trans mm))) ?_;rintro⟨e,n1⟩ ⟨h1,h2⟩;refine au (aQ (yZ h h2)) ?_;rintro⟨e2,n2⟩ ⟨h3,h4⟩;have hw:IntKind.wrap .i64 (16+w)=16+w:=by rw[IntKind.wrap_i64];omega
  rw[hw];exact aV (cR (aI (ah ⟨.cmp (by omega) (by omega) (h1.mono (by omega)) (h3.mono (by omega)),h4⟩)))
abbrev Ns:=Int→ByteArray→ByteArray→List DV→List DV→List DV→DV
def ns5:Ns:=fun k n h e s t=>zW ⟨k,n,h,e,s,t⟩
structure SC where
 me:Nd
 ms:Ns
 I:Int
 T:Int
 F:Int
 Pn:Int
 gP:List (List Int)
 own:Int
abbrev SC.N(C:SC)(d:Nat)(x:DV):Prop:=rL C.me C.I C.T C.Pn d x
abbrev SC.B(C:SC)(d:Nat)(x:DV):Prop:=xn C.me C.I C.T C.F C.Pn d x
def cn(k:Nat):ByteArray:=⟨#[(97+k).toUInt8]⟩
inductive qp(C:SC)(B:Nat→List DV→Prop):Nat→DV→Prop
 |set {i:Nat} {e:DV}:(i:Int)<C.I→C.N 4 e→qp C B 1 (C.ms 1 (nm 120 i) ByteArray.empty [e] [] [])
 |Ul {e:DV}:C.B 6 e→qp C B 1 (C.ms 1 (nm 98 0) ByteArray.empty [e] [] [])
 |put {a b:DV}:0<C.T→C.N 4 a→C.N 4 b→qp C B 1 (C.ms 2 (nm 116 0) ByteArray.empty [a,b] [] [])
 |del {a:DV}:0<C.T→C.N 4 a→qp C B 1 (C.ms 3 (nm 116 0) ByteArray.empty [a] [] [])
 |iff {e:DV} {a b:Nat} {s t:List DV}:C.B 6 e→B a s→B b t→qp C B (1+a+b) (C.ms 4 ByteArray.empty ByteArray.empty [e] s t)
 |whl {e:DV} {a:Nat} {s:List DV}:C.B 6 e→B a s→qp C B (1+a) (C.ms 5 ByteArray.empty ByteArray.empty [e] s [])
 |send {i h:Nat} {r:List Int} {k:Int} {l:List DV}:C.gP[i]? = some r→r[h]? = some k→(l.length:Int)=k→(∀e∈l,C.N 3 e)→qp C B 1 (C.ms 6 (cn i) (nm 104 h) l [] [])
 |aft {h:Nat} {r:List Int} {k:Int} {e:DV} {l:List DV}:C.gP[C.own.toNat]? = some r→r[h]? = some k→(l.length:Int)=k→C.N 3 e→(∀e∈l,C.N 3 e)→qp C B 1 (C.ms 7 ByteArray.empty (nm 104 h) (e::l) [] [])
 |store {x y:DV} {a:Nat} {s:List DV}:C.N 3 x→C.N 3 y→B a s→qp C B (1+a) (C.ms 8 ByteArray.empty ByteArray.empty [x,y] [] s)
 |JV {i:Nat} {x:DV} {a:Nat} {s:List DV}:(i:Int)<C.I→C.N 4 x→B a s→qp C B (1+a) (C.ms 9 (nm 120 i) ByteArray.empty [x] [] s)
 |stop:qp C B 1 (C.ms 10 ByteArray.empty ByteArray.empty [] [] [])
inductive BS(S:Nat→DV→Prop):Nat→List DV→Prop
 |nil:BS S 0 []
 |snoc {a b:Nat} {l:List DV} {s:DV}:BS S a l→S b s→BS S (a+b) (l++[s])
def xp(C:SC):Nat→Nat→List DV→Prop
 |0=>BS (qp C fun _ _=>False)
 |d+1=>BS (qp C (xp C d))
def BO(C:SC):Nat→Nat→DV→Prop
 |0=>qp C fun _ _=>False
 |d+1=>qp C (xp C d)
theorem xp.eq(C:SC)(d:Nat):xp C d=BS (BO C d):=by cases d <;> rfl
theorem QY{m n:Mk}{x1:Int}(h:HK m)(hs:Sm m n)(h0:0≤x1)(h3:x1≤3):Wp (eD x1 n) fun r=>(r.1.length:Int)=x1∧(∀e∈r.1,rL UJ m.ny m.cC m.eH 3 e)∧Sm m r.2:=by
 unfold eD;refine ly (fun s=>0≤s.2.1∧s.2.1≤x1∧(s.1.length:Int)=s.2.1∧(∀e∈s.1,rL UJ m.ny m.cC m.eH 3 e)∧Sm m s.2.2) (fun s=>(x1-s.2.1).toNat) ⟨Int.le_refl _,h0,rfl,by simp,hs⟩ (by dsimp only;omega) ?_;rintro⟨l,k,n'⟩ ⟨k0,k1,hl,hN,mm⟩;dsimp only at k0 k1 hl hN mm ⊢;refine ak (fun hb=>?_) (fun hb=>?_)
 ·have hk:k<x1:=by simpa using hb
  refine au (aQ (yZ h mm)) ?_;rintro⟨e,n2⟩ ⟨h1,h2⟩;dsimp only at h1 h2 ⊢;have hw:IntKind.wrap .i64 (k+1)=k+1:=by rw[IntKind.wrap_i64];omega
  refine aV (aK (by unfold dL;simp only[List.length_singleton];omega) (ax (ah ?_)));rw[hw];refine⟨⟨by dsimp only;omega,by dsimp only;omega,by simp only[List.length_append,List.length_singleton];omega,fun x hx=>?_,h2⟩,by dsimp only;omega⟩;rcases List.mem_append.1 hx with hx|hx
  ·exact hN x hx
  ·simp at hx;subst hx;exact h1
 ·have hk:k=x1:=by simp at hb;omega
  exact ah (cR (aI (ah ⟨by dsimp only;omega,hN,mm⟩)))
def Ff(m:Mk):SC:=⟨UJ,ns5,m.ny,m.cC,m.dB,m.eH,m.eO,m.lQ⟩
structure ZE(m:Mk):Prop where
 o0:0≤m.lQ
 o1:m.lQ<m.eO.length
 a3:m.eO.length≤3
 r1:∀r∈m.eO,1≤r.length∧r.length≤3∧∀k∈r,0≤k∧k≤2
 l0:0≤m.qW
 l1:m.qW≤12
structure zx(m n:Mk)(c:Nat):Prop where
 s:Sm m { n with qW:=m.qW }
 left:n.qW=m.qW-(c:Int)
 l0:0≤n.qW
theorem zx.refl{m:Mk}(h:0≤m.qW):zx m m 0:=⟨Sm.refl _,by simp,h⟩
theorem zx.mk'{m n:Mk}{c:Nat}(h:zx m n c)(hm:HK m):HK n:=by
 have:=hm.of h.s;exact⟨this.i1,this.i3,this.t0,this.f0,this.f2,this.p0,this.p2,this.by8,this.bl⟩
theorem zx.then{m n p:Mk}{c:Nat}(h:zx m n c)(k:Sm n p):zx m p c:=by
 obtain⟨s,l,z⟩:=h;exact⟨⟨k.ints.trans s.ints,k.tables.trans s.tables,k.flags.trans s.flags,k.own.trans s.own,k.ar.trans s.ar,k.params.trans s.params,rfl,Nat.le_trans k.bytes s.bytes,fun x hx=>s.sub x (k.sub x hx)⟩,by rw[k.left];exact l,by rw[k.left];exact z⟩
theorem BS.len{S:Nat→DV→Prop}(hS:∀n s,S n s→1≤n){n:Nat}{l:List DV}(h:BS S n l):l.length≤n:=by
 induction h with
 |nil=>exact Nat.le_refl _
 |snoc _ hs ih=>have:=hS _ _ hs;simp only[List.length_append,List.length_singleton];omega
theorem qp.pos{C:SC}{B:Nat→List DV→Prop}{n:Nat}{s:DV}(h:qp C B n s):1≤n:=by cases h <;> omega
theorem BO.pos{C:SC}{d n:Nat}{s:DV}(h:BO C d n s):1≤n:=by cases d <;> exact qp.pos h
theorem BO.flat{C:SC}{d n:Nat}{s:DV}(h:∀B,qp C B n s):BO C d n s:=by cases d <;> exact h _
theorem Oo{m n:Mk}{c:Nat}(h:HK m)(hs:zx m n c):Wp (bu 64 0 n) fun r=>(Ff m).N 4 (iy r.1)∧zx m r.2 c:=by
 refine(abD (hs.mk' h) (Sm.refl n)).imp ?_;rintro r ⟨h1,h2⟩;have e:=hs.s;have e1:=e.ints;have e2:=e.tables;have e3:=e.params;dsimp only at e1 e2 e3;rw[e1,e2,e3]at h1;exact⟨h1,hs.then h2⟩
theorem ahL{m n:Mk}{c:Nat}(h:HK m)(hs:zx m n c):Wp (bu 64 1 n) fun r=>(Ff m).N 3 (iy r.1)∧zx m r.2 c:=by
 refine(yZ (hs.mk' h) (Sm.refl n)).imp ?_;rintro r ⟨h1,h2⟩;have e:=hs.s;have e1:=e.ints;have e2:=e.tables;have e3:=e.params;dsimp only at e1 e2 e3;rw[e1,e2,e3]at h1;exact⟨h1,hs.then h2⟩
theorem aee{m n:Mk}{c:Nat}(h:HK m)(hs:zx m n c):Wp (dH 64 0 n) fun r=>(Ff m).B 6 (iy r.1)∧zx m r.2 c:=by
 refine(WX 2 64 0 n (by omega) (by omega) (by omega) (hs.mk' h)).imp ?_;rintro r ⟨h1,h2⟩;have e:=hs.s;have e1:=e.ints;have e2:=e.tables;have e3:=e.params;have e4:=e.flags;dsimp only at e1 e2 e3 e4;rw[e1,e2,e3,e4]at h1;exact⟨h1,hs.then h2⟩
theorem ah2{m n:Mk}{c:Nat}(h:HK m)(hs:zx m n c):Wp (dJ n) fun r=>(∃i:Nat,(i:Int)<(Ff m).I∧r.1=nm 120 i)∧zx m r.2 c:=by
 refine(Da (hs.mk' h)).imp ?_;rintro r ⟨⟨i,h1,h3⟩,h2⟩;have e1:=hs.s.ints;dsimp only at e1;exact⟨⟨i,by unfold Ff;dsimp only;rw[←e1];exact h1,h3⟩,hs.then h2⟩
theorem UH{m n:Mk}{c:Nat}{k:Int}(h:HK m)(hs:zx m n c)(hk:0<k):Wp (bN k n) fun r=>0≤r.1∧r.1<k∧zx m r.2 c:=by
 refine(pZ (hs.mk' h) hk).imp ?_;rintro r ⟨h1,h2,h3⟩;exact⟨h1,h2,hs.then h3⟩
theorem aeM{m n:Mk}{c:Nat}{k:Int}(h:HK m)(hs:zx m n c)(h0:0≤k)(h3:k≤3):Wp (eD k n) fun r=>(r.1.length:Int)=k∧(∀e∈r.1,(Ff m).N 3 e)∧zx m r.2 c:=by
 refine(QY (hs.mk' h) (Sm.refl n) h0 h3).imp ?_;rintro r ⟨h1,h2,h3⟩;have e:=hs.s;have e1:=e.ints;have e2:=e.tables;have e3:=e.params;dsimp only at e1 e2 e3;rw[e1,e2,e3]at h2;exact⟨h1,h2,hs.then h3⟩
theorem zx.tab{m n:Mk}{c:Nat}(hs:zx m n c):n.cC=m.cC:=hs.s.tables
theorem zx.arr{m n:Mk}{c:Nat}(hs:zx m n c):n.eO=m.eO:=hs.s.ar
theorem zx.ow{m n:Mk}{c:Nat}(hs:zx m n c):n.lQ=m.lQ:=hs.s.own
theorem mc{α:Type}{xs:List α}{i:Int}(h0:0≤i)(h:i<xs.length):∃x,idx xs i=some x∧xs[i.toNat]? = some x∧x∈xs:=by
 obtain⟨j,rfl⟩:=Int.eq_ofNat_of_zero_le h0;have hj:j<xs.length:=by omega
 exact⟨xs[j],by rw[gR];exact List.getElem?_eq_getElem hj,by simp[hj],List.getElem_mem hj⟩
theorem LB{i:Int}(h0:0≤i)(h:i<3):idx [nm 104 0,nm 104 1,nm 104 2] i=some (nm 104 i.toNat):=by
 obtain⟨j,rfl⟩:=Int.eq_ofNat_of_zero_le h0;have hj:j<3:=by omega
 rw[gR]
 match j,hj with
 |0,_=>rfl
 |1,_=>rfl
 |2,_=>rfl
theorem Td{i:Int}(h0:0≤i)(h:i<3):idx [⟨#[97]⟩,⟨#[98]⟩,⟨#[99]⟩] i=some (cn i.toNat):=by
 obtain⟨j,rfl⟩:=Int.eq_ofNat_of_zero_le h0;have hj:j<3:=by omega
 rw[gR]
 match j,hj with
 |0,_=>rfl
 |1,_=>rfl
 |2,_=>rfl
def Zv(m:Mk)(d:Nat)(sf:Int→Mk→Option (List DV×Mk)):Prop:=∀(e:Nat),d=e+1→∀(n:Mk) (c:Nat),zx m n c→Wp (sf (3-(e:Int)) n) fun r=>∃a,xp (Ff m) e a r.1∧zx m r.2 (c+a)
theorem abb{m n:Mk}{c d:Nat}{x1:Int}{sf:Int→Mk→Option (List DV×Mk)}(h:HK m)(ha:ZE m)(hB:Zv m d sf)(hd3:d≤3)(hs:zx m n c) :
  Wp (ic sf x1 (3-(d:Int)) n) fun r=>∃a,BO (Ff m) d (a+1) (zW r.1)∧zx m r.2 (c+a):=by
 unfold ic
 have nest:∀{n:Mk} {c:Nat},decide (3-(d:Int)<3)=true→zx m n c→∃e,d=e+1∧Wp (sf (IntKind.wrap .i64 (3-(d:Int)+1)) n) fun r=>∃a,xp (Ff m) e a r.1∧zx m r.2 (c+a):=by
  intro n c hd hs;have:0<d:=by simp at hd;omega
  obtain⟨e,rfl⟩:∃e,d=e+1:=⟨d-1,by omega⟩;have hw:IntKind.wrap .i64 (3-((e+1:Nat):Int)+1)=3-(e:Int):=by rw[IntKind.wrap_i64];omega
  rw[hw];exact⟨e,rfl,hB e rfl n c hs⟩
 have fl:∀{s:DV} {r:Mk} {c:Nat},(∀B,qp (Ff m) B 1 s)→zx m r c→∃a,BO (Ff m) d (a+1) s∧zx m r (c+a):=fun hf hs=>⟨0,BO.flat hf,hs⟩
 have o0:=ha.o0;have o1:=ha.o1;have a3:=ha.a3;refine ak (fun hb=>?_) (fun hb=>?_)
 ·refine au (aQ (aee h hs)) ?_
  rintro⟨e,n1⟩ ⟨h1,h2⟩;exact aV (cR (aI (ah (fl (fun B=>.Ul h1) h2))))
 refine ak (fun Co=>?_) (fun Co=>?_)
 ·have ht:0<(Ff m).T:=by simp at Co;unfold Ff;rw[←hs.tab];exact Co.2
  refine au (aQ (Oo h hs)) ?_;rintro⟨e,n1⟩ ⟨h1,h2⟩;refine au (aQ (Oo h h2)) ?_;rintro⟨e2,n2⟩ ⟨h3,h4⟩;exact aV (cR (aI (ah (fl (fun B=>.put ht h1 h3) h4))))
 refine ak (fun Gc=>?_) (fun Gc=>?_)
 ·have ht:0<(Ff m).T:=by simp at Gc;unfold Ff;rw[←hs.tab];exact Gc.2
  refine au (aQ (Oo h hs)) ?_;rintro⟨e,n1⟩ ⟨h1,h2⟩;exact aV (cR (aI (ah (fl (fun B=>.del ht h1) h2))))
 refine ak (fun Il=>?_) (fun Il=>?_)
 ·have hd:decide (3-(d:Int)<3)=true:=by
   cases hq:decide (3-(d:Int)<3)with
   |true=>rfl
   |false=>rw[hq]at Il;simp at Il
  refine au (aQ (aee h hs)) ?_;rintro⟨e,n1⟩ ⟨h1,h2⟩;obtain⟨e0,rfl,hw⟩:=nest hd h2;refine au (aQ hw) ?_;rintro⟨b1,n2⟩ ⟨a,h3,h4⟩;refine aV ?_;obtain⟨e1,he,hw2⟩:=nest hd h4;obtain rfl:e0=e1:=by omega
  refine au (aQ hw2) ?_;rintro⟨b2,n3⟩ ⟨b,h5,h6⟩;refine cR (aI (ah ⟨a+b,?_,by rw[←Nat.add_assoc];exact h6⟩));have:=qp.iff (C:=Ff m) (B:=xp (Ff m) e0) h1 h3 h5;rw[show 1+a+b=a+b+1 by omega]at this;exact this
 refine ak (fun Wr=>?_) (fun Wr=>?_)
 ·have hd:decide (3-(d:Int)<3)=true:=by simp at Wr ⊢;omega
  refine au (aQ (aee h hs)) ?_;rintro⟨e,n1⟩ ⟨h1,h2⟩;refine aV ?_;obtain⟨e0,rfl,hw⟩:=nest hd h2;refine au (aQ hw) ?_;rintro⟨b1,n2⟩ ⟨a,h3,h4⟩;refine cR (aI (ah ⟨a,?_,h4⟩));have:=qp.whl (C:=Ff m) (B:=xp (Ff m) e0) h1 h3;rw[Nat.add_comm 1 a]at this;exact this
 refine ak (fun Ws=>?_) (fun Ws=>?_)
 ·refine au (aQ (UH h hs (by rw[hs.arr];omega))) ?_
  rintro⟨i,n1⟩ ⟨i0,i1,h1⟩;dsimp only at i0 i1 h1 ⊢;rw[hs.arr]at i1;rw[h1.arr];obtain⟨r,r1,r2,r3⟩:=mc i0 i1;have hr:=ha.r1 r r3;refine aA r1 ?_;refine au (aQ (UH h h1 (by omega))) ?_;rintro⟨j,n2⟩ ⟨j0,j1,h2⟩;dsimp only at j0 j1 h2 ⊢;refine aV ?_;refine aA (Td i0 (by omega)) ?_;refine aA abF ?_;refine aA (LB j0 (by omega)) ?_;rw[h2.arr];refine aA r1 ?_;obtain⟨k,k1,k2,k3⟩:=mc j0 j1;have hk:=hr.2.2 k k3;refine aA k1 ?_;refine au (aQ (aeM h h2 hk.1 (by omega))) ?_;rintro⟨l,n3⟩ ⟨l1,l2,h3⟩;exact aI (ah (fl (fun B=>.send r2 k2 l1 l2) h3))
 refine ak (fun hb7=>?_) (fun hb7=>?_)
 ·rw[hs.arr,hs.ow]
  obtain⟨r,r1,r2,r3⟩:=mc o0 o1;have hr:=ha.r1 r r3;refine aA r1 ?_;refine au (aQ (UH h hs (by omega))) ?_;rintro⟨j,n2⟩ ⟨j0,j1,h2⟩;dsimp only at j0 j1 h2 ⊢;refine au (aQ (ahL h h2)) ?_;rintro⟨e,n3⟩ ⟨h3,h4⟩;refine aA abF ?_;refine aA (LB j0 (by omega)) ?_;refine aV ?_;dsimp only;rw[h4.arr,h4.ow];refine aA r1 ?_;obtain⟨k,k1,k2,k3⟩:=mc j0 j1;have hk:=hr.2.2 k k3;refine aA k1 ?_;refine au (aQ (aeM h h4 hk.1 (by omega))) ?_;rintro⟨l,n5⟩ ⟨l1,l2,h5⟩;dsimp only at l1 l2 h5 ⊢;refine aK (by unfold dL;simp only[List.length_singleton];omega) (cR (aI (ah (fl (fun B=>.aft r2 k2 l1 h3 l2) h5))))
 refine ak (fun hb8=>?_) (fun hb8=>?_)
 ·have hd:decide (3-(d:Int)<3)=true:=by
   cases hq:decide (3-(d:Int)<3)with
   |true=>rfl
   |false=>rw[hq]at hb8;simp at hb8
  refine au (aQ (UH h hs (by omega))) ?_;rintro⟨j,n2⟩ ⟨j0,j1,h2⟩;dsimp only at j0 j1 h2 ⊢;refine ak (fun hb9=>?_) (fun hb9=>?_)
  ·refine au (aQ (aeM h h2 (by omega) (by omega))) ?_
   rintro⟨l,n3⟩ ⟨l1,l2,h3⟩;dsimp only at l1 l2 h3 ⊢;obtain⟨e0,rfl,hw⟩:=nest hd h3;refine au (aQ hw) ?_;rintro⟨b1,n4⟩ ⟨a,h4,h5⟩
   obtain⟨x,y,rfl⟩:∃x y,l = [x,y]:=by
    match l,l1 with
    |[x,y],_=>exact⟨x,y,rfl⟩
   refine aI (ah ⟨a,?_,h5⟩);have:=qp.store (C:=Ff m) (B:=xp (Ff m) e0) (l2 x (by simp)) (l2 y (by simp)) h4;rw[Nat.add_comm 1 a]at this;exact this
  ·refine au (aQ (ah2 h h2)) ?_
   rintro⟨s,n3⟩ ⟨⟨i,hi,rfl⟩,h3⟩;refine au (aQ (Oo h h3)) ?_;rintro⟨e,n4⟩ ⟨h4,h5⟩;refine aV ?_;obtain⟨e0,rfl,hw⟩:=nest hd h5;refine au (aQ hw) ?_;rintro⟨b1,n5⟩ ⟨a,h6,h7⟩;refine cR (aI (ah ⟨a,?_,h7⟩));have:=qp.JV (C:=Ff m) (B:=xp (Ff m) e0) hi h4 h6;rw[Nat.add_comm 1 a]at this;exact this
 have asg:∀{n:Mk} {c:Nat},zx m n c→∀{t:Nat},Wp (Bi (cl 222 [] (dJ n)) fun v75=>Bi (cl 225 [] ((bu 64) 0 v75.2)) fun GC=>eT 226 (bA 4 mh) [(iy GC.1)] fun v78=>wk [.z 226]<|rX [] (some ((aY.mk 1 v75.1 ByteArray.empty v78 [] []),GC.2))) fun r=>∃a,BO (Ff m) d (a+1) (zW r.1)∧zx m r.2 (c+a):=by
  intro n c hs t;refine au (aQ (ah2 h hs)) ?_;rintro⟨s,n3⟩ ⟨⟨i,hi,rfl⟩,h3⟩;refine au (aQ (Oo h h3)) ?_;rintro⟨e,n4⟩ ⟨h4,h5⟩;exact aV (cR (aI (ah (fl (fun B=>.set hi h4) h5))))
 refine ak (fun hb9=>?_) (fun hb9=>?_)
 ·refine au (aQ (UH h hs (by omega))) ?_
  rintro⟨j,n2⟩ ⟨j0,j1,h2⟩;dsimp only at j0 j1 h2 ⊢;refine ak (fun afX=>?_) (fun afX=>?_)
  ·exact aI (ah (fl (fun B=>.stop) h2))
  ·exact asg h2 (t:=0)
 refine ak (fun afX=>?_) (fun afX=>?_)
 ·exact aI (ah (fl (fun B=>.stop) hs))
 ·exact asg hs (t:=0)
theorem Tt{m:Mk}(h:HK m)(ha:ZE m)(d fu:Nat)(hB:Zv m d (eE fu))(hd:d≤3)(n:Mk)(c:Nat)(hs:zx m n c):Wp (eE (fu+1) (3-(d:Int)) n) fun r=>∃a,xp (Ff m) d a r.1∧zx m r.2 (c+a):=by
 rw[xp.eq];unfold eE jF;have l1:=ha.l1;have hl:=hs.left;refine ly (fun s=>∃a,BS (BO (Ff m) d) a s.1∧zx m s.2 (c+a)) (fun s=>s.2.qW.toNat) ⟨0,.nil,hs⟩ (by dsimp only;omega) ?_;rintro⟨l,n'⟩ ⟨a,hl,mm⟩;dsimp only at hl mm ⊢;have e1:=mm.left;have e2:=mm.l0;refine ak (fun hb=>?_) (fun hb=>?_)
 ·have aAT:0<n'.qW:=by simp at hb;exact hb.2
  refine au (aQ (UH h mm (by omega))) ?_;rintro⟨v,n2⟩ ⟨v0,v1,h2⟩;dsimp only at v0 v1 h2 ⊢;refine ak (fun Co=>?_) (fun Co=>?_)
  ·exact cR (aI (ah (ah ⟨a,hl,h2⟩)))
  ·have e3:=h2.left
   have hw:IntKind.wrap .i64 (n2.qW-1)=n2.qW-1:=by rw[IntKind.wrap_i64];omega
   have h3:zx m ({ n2 with qW:=(IntKind.wrap .i64 (n2.qW-1)) }:Mk) (c+a+1):=by
    rw[hw];exact⟨h2.s,by dsimp only;omega,by dsimp only;omega⟩
   refine au (aQ (abb h ha hB hd h3)) ?_;rintro⟨s,n4⟩ ⟨b,h4,h5⟩;dsimp only at h4 h5 ⊢;have hlen:=hl.len (fun _ _=>BO.pos);have e5:=h5.left;have e6:=h5.l0;refine aV (aK (by unfold dL;simp only[List.length_singleton];omega) (ax (ah ⟨⟨a+(b+1),.snoc hl h4,?_⟩,by dsimp only;omega⟩)));rw[show c+(a+(b+1))=c+a+1+b by omega];exact h5
 ·exact ah (cR (aI (ah ⟨a,hl,mm⟩)))
theorem Ts{m:Mk}(h:HK m)(ha:ZE m):∀(d fu:Nat),d<fu→d≤3→∀(n:Mk) (c:Nat),zx m n c→Wp (eE fu (3-(d:Int)) n) fun r=>∃a,xp (Ff m) d a r.1∧zx m r.2 (c+a):=by
 intro d
 induction d with
 |zero=>
  intro fu hf hd n c hs;obtain⟨fu,rfl⟩:∃g,fu=g+1:=⟨fu-1,by omega⟩;exact Tt h ha 0 fu (fun e he=>by omega) hd n c hs
 |succ d ih=>
  intro fu hf hd n c hs;obtain⟨fu,rfl⟩:∃g,fu=g+1:=⟨fu-1,by omega⟩
  exact Tt h ha (d+1) fu (fun e he n c hs=>by
   obtain rfl:e=d:=by omega
   exact ih fu (by omega) (by omega) n c hs) hd n c hs
def zy(x:bp):Prop:=0≤x.dM∧x.dM<256∧x.rI.length≤9223372036854775807∧∀b∈x.rI,0≤b∧b<256
def HOk(I T F:Int)(gP:List (List Int))(own:Int)(r:List Int)(k:Nat)(x:bH):Prop :=
 ∃p:Nat,p≤2∧r[k]? = some (p:Int)∧k<3∧x.bn=nm 104 k∧x.dM=(List.range p).map (nm 112)∧∃a,a≤12∧xp ⟨UJ,ns5,I,T,F,p,gP,own⟩ 3 a x.xc
theorem BG(a b:Int):fX a b=some (if a<b then a else b):=by
 unfold fX;rw[TB]
 by_cases h:a<b <;> simp[h]
theorem ahW:bK 112 0=some []:=by kernel_rfl
theorem ahV:bK 112 1=some [nm 112 0]:=by kernel_rfl
theorem adz{p:Nat}(h:p≤2):bK 112 (p:Int)=some ((List.range p).map (nm 112)):=by
 match p,h with
 |0,_=>exact ahW
 |1,_=>exact ahV
 |2,_=>exact aeN
theorem Zb{x:bL}(hH:∀c∈x.bP,zy c)(hS:∀c∈x.kB,zy c):Wp (mH x) fun r=>r.length=min 3 (max (max x.bP.length x.kB.length) 1)∧∀k∈r,0≤k∧k≤2:=by
 unfold mH;refine ly (fun s=>0≤s.2∧s.2≤3∧s.1.length=min s.2.toNat (max (max x.bP.length x.kB.length) 1)∧∀k∈s.1,0≤k∧k≤2) (fun s=>(3-s.2).toNat) ⟨Int.le_refl _,by decide,by simp,by simp⟩ (by dsimp only;omega) ?_;rintro⟨l,k⟩ ⟨k0,k3,hl,hk⟩;dsimp only at k0 k3 hl hk ⊢;have hw:IntKind.wrap .i64 (k+1)=k+1:=by rw[IntKind.wrap_i64];omega
 have ai6:∀{c:bp},zy c→IntKind.wrap .i64 (c.dM % 3)=c.dM % 3∧0≤c.dM % 3∧c.dM % 3≤2:=by
  intro c hc;have:=hc.1;refine⟨by rw[IntKind.wrap_i64];omega,by omega,by omega⟩
 refine ak (fun hb=>?_) (fun hb=>?_)
 ·have hk3:k<3:=by simpa using hb
  refine ak (fun Co=>?_) (fun Co=>?_)
  ·have hkl:k<x.bP.length:=by simpa using Co
   obtain⟨c,c1,_,c3⟩:=mc k0 hkl;have hc:=ai6 (hH c c3);refine aA c1 (aK ⟨(hH c c3).1,by decide⟩ (aV (aK (by unfold dL;simp only[List.length_singleton];omega) (ax (ah ?_)))));rw[hw,hc.1];refine⟨⟨by dsimp only;omega,by dsimp only;omega,by simp only[List.length_append,List.length_singleton];omega,fun y hy=>?_⟩,by dsimp only;omega⟩;rcases List.mem_append.1 hy with hy|hy
   ·exact hk y hy
   ·simp at hy;subst hy;exact hc.2
  refine ak (fun Gc=>?_) (fun Gc=>?_)
  ·have hkz:k=0:=by simpa using Gc
   refine aV (aK (by unfold dL;simp only[List.length_singleton];omega) (ax (ah ?_)));rw[hw];refine⟨⟨by dsimp only;omega,by dsimp only;omega,by simp only[List.length_append,List.length_singleton];omega,fun y hy=>?_⟩,by dsimp only;omega⟩;rcases List.mem_append.1 hy with hy|hy
   ·exact hk y hy
   ·simp at hy;subst hy;exact⟨by decide,by decide⟩
  have hkn:¬k<x.bP.length:=by simpa using Co
  have hkz:¬k=0:=by simpa using Gc
  refine ak (fun Il=>?_) (fun Il=>?_)
  ·have hkl:k<x.kB.length:=by simpa using Il
   obtain⟨c,c1,_,c3⟩:=mc k0 hkl;have hc:=ai6 (hS c c3);refine aA c1 (aK ⟨(hS c c3).1,by decide⟩ (aV (aK (by unfold dL;simp only[List.length_singleton];omega) (ax (ah ?_)))));rw[hw,hc.1];refine⟨⟨by dsimp only;omega,by dsimp only;omega,by simp only[List.length_append,List.length_singleton];omega,fun y hy=>?_⟩,by dsimp only;omega⟩;rcases List.mem_append.1 hy with hy|hy
   ·exact hk y hy
   ·simp at hy;subst hy;exact hc.2
  ·have hkl:¬k<x.kB.length:=by simpa using Il
   refine ax (ah ?_);rw[hw];exact⟨⟨by dsimp only;omega,by dsimp only;omega,by dsimp only;omega,hk⟩,by dsimp only;omega⟩
 ·have apR:k=3:=by simp at hb;omega
  subst apR;exact ah (cR (ah ⟨by simpa using hl,hk⟩))
theorem OB{m:Mk}{l:List bp}{r:List Int}(i1:1≤m.ny)(i3:m.ny≤3)(t0:0≤m.cC)(f0:0≤m.dB)(f2:m.dB≤2)(o0:0≤m.lQ)(o1:m.lQ<m.eO.length)(a3:m.eO.length≤3)
  (hr:∀r∈m.eO,1≤r.length∧r.length≤3∧∀k∈r,0≤k∧k≤2) (hm:m.eO[m.lQ.toNat]? = some r) (hl:l.length≤r.length) (hc:∀c∈l,zy c) :
  Wp (gv l m) fun q=>q.1.length=l.length∧(∀k x,q.1[k]? = some x→HOk m.ny m.cC m.dB m.eO m.lQ r k x)∧q.2.ny=m.ny∧q.2.cC=m.cC∧q.2.dB=m.dB∧q.2.lQ=m.lQ∧q.2.eO=m.eO:=by
 unfold gv;have hrm:=hr r (List.mem_of_getElem? hm);refine cw (fun j s=>s.1.length=j∧(∀k x,s.1[k]? = some x→HOk m.ny m.cC m.dB m.eO m.lQ r k x)∧s.2.1=m.ny∧s.2.2.1=m.cC∧s.2.2.2.1=m.dB∧s.2.2.2.2.1=m.lQ∧s.2.2.2.2.2.1=m.eO) (by unfold m64;omega) ⟨rfl,by simp,rfl,rfl,rfl,rfl,rfl⟩ ?_ ?_
 ·rintro j ⟨hs,ints,tables,flags,own,gP,params,bytes,left⟩ hj ⟨h1,h2,h3,h4,h5,h6,h7⟩
  dsimp only at h1 h2 h3 h4 h5 h6 h7 ⊢;subst h3 h4 h5 h6 h7;have Dt:j<l.length:=by omega
  obtain⟨c,c1,c2,c3⟩:=mc (xs:=l) (i:=(j:Int)) (by omega) (by omega);have hcc:=hc c c3;refine aA c1 ?_;obtain⟨r',r1,r2,r3⟩:=mc o0 o1;obtain rfl:r=r':=by rw[hm]at r2;exact Option.some.inj r2
  refine aA r1 ?_;obtain⟨p,p1,p2,p3⟩:=mc (xs:=r) (i:=(j:Int)) (by omega) (by omega);have hp:=hrm.2.2 p p3;obtain⟨q,rfl⟩:=Int.eq_ofNat_of_zero_le hp.1;refine aA p1 ?_;refine aA (BG _ _) ?_;refine aK (by unfold eN;split <;> omega) ?_;refine aA abF ?_;refine aA (LB (by omega) (by omega)) ?_;refine aA (adz (by omega)) ?_
  let m':Mk:=aw.mk m.ny m.cC m.dB m.lQ m.eO (q:Int) (List.take (Int.toNat (if (c.rI.length:Int)<40 then(c.rI.length:Int)else 40)) c.rI) 12
  have hM:HK m':=⟨i1,i3,t0,f0,f2,by show(0:Int)≤(q:Int);omega,by show(q:Int)≤2;omega,fun b hb=>hcc.2.2.2 b (List.mem_of_mem_take hb),by
   show(List.take _ c.rI).length≤40;rw[List.length_take]
   split <;> omega⟩
  have hA:ZE m':=⟨o0,o1,a3,hr,by show(0:Int)≤12;decide,by show(12:Int)≤12;decide⟩;refine au (aQ (Ts hM hA 3 64 (by omega) (by omega) m' 0 (zx.refl hA.l0))) ?_;rintro⟨b,n⟩ ⟨a,hb,FG⟩;dsimp only at hb FG ⊢;have e1:=FG.left;have e2:=FG.l0;have e3:=FG.s;refine aV (aK (by unfold dL;simp only[List.length_singleton];omega) (ax (ah ⟨by simp only[List.length_append,List.length_singleton];omega,fun k x hx=>?_,e3.ints,e3.tables,e3.flags,e3.own,e3.ar⟩)));rw[List.getElem?_append]at hx
  split at hx
  ·exact h2 k x hx
  ·rename_i hk
   have ZT:k=j:=by
    have:=(List.getElem?_eq_some_iff.1 hx).1;simp only[List.length_singleton]at this;omega
   subst ZT;rw[h1,Nat.sub_self]at hx;simp at hx;subst hx;refine⟨q,by omega,by simpa using p2,by omega,by simp,rfl,a,?_,hb⟩;have:m'.qW=12:=rfl;omega
 ·rintro⟨hs,ints,tables,flags,own,gP,params,bytes,left⟩ ⟨h1,h2,h3,h4,h5,h6,h7⟩
  exact cR (aI (ah ⟨by dsimp only at h1 ⊢;omega,h2,h3,h4,h5,h6,h7⟩))
theorem LG{m:Mk}{l:List bp}{r:List Int}(i1:1≤m.ny)(i3:m.ny≤3)(t0:0≤m.cC)(f0:0≤m.dB)(f2:m.dB≤2)(o0:0≤m.lQ)(o1:m.lQ<m.eO.length)(a3:m.eO.length≤3)
  (hr:∀r∈m.eO,1≤r.length∧r.length≤3∧∀k∈r,0≤k∧k≤2) (hm:m.eO[m.lQ.toNat]? = some r) (hl:l.length≤r.length) (hc:∀c∈l,zy c) :
  Wp (fW l m) fun q=>q.1.length=l.length∧(∀k x,q.1[k]? = some x→HOk m.ny m.cC m.dB m.eO m.lQ r k x):=by
 unfold fW;have hrm:=hr r (List.mem_of_getElem? hm);refine cw (fun j s=>s.1.length=j∧(∀k x,s.1[k]? = some x→HOk m.ny m.cC m.dB m.eO m.lQ r k x)∧s.2.ny=m.ny∧s.2.cC=m.cC∧s.2.dB=m.dB∧s.2.lQ=m.lQ∧s.2.eO=m.eO) (by unfold m64;omega) ⟨rfl,by simp,rfl,rfl,rfl,rfl,rfl⟩ ?_ ?_
 ·rintro j ⟨hs,ints,tables,flags,own,gP,params,bytes,left⟩ hj ⟨h1,h2,h3,h4,h5,h6,h7⟩
  dsimp only at h1 h2 h3 h4 h5 h6 h7 ⊢;subst h3 h4 h5 h6 h7;have Dt:j<l.length:=by omega
  obtain⟨c,c1,c2,c3⟩:=mc (xs:=l) (i:=(j:Int)) (by omega) (by omega);have hcc:=hc c c3;refine aA c1 ?_;obtain⟨r',r1,r2,r3⟩:=mc o0 o1;obtain rfl:r=r':=by rw[hm]at r2;exact Option.some.inj r2
  refine aA r1 ?_;obtain⟨p,p1,p2,p3⟩:=mc (xs:=r) (i:=(j:Int)) (by omega) (by omega);have hp:=hrm.2.2 p p3;obtain⟨q,rfl⟩:=Int.eq_ofNat_of_zero_le hp.1;refine aA p1 ?_;refine aA (BG _ _) ?_;refine aK (by unfold eN;split <;> omega) ?_;refine aA abF ?_;refine aA (LB (by omega) (by omega)) ?_;refine aA (adz (by omega)) ?_
  let m':Mk:=aw.mk m.ny m.cC m.dB m.lQ m.eO (q:Int) (List.take (Int.toNat (if (c.rI.length:Int)<40 then(c.rI.length:Int)else 40)) c.rI) 12
  have hM:HK m':=⟨i1,i3,t0,f0,f2,by show(0:Int)≤(q:Int);omega,by show(q:Int)≤2;omega,fun b hb=>hcc.2.2.2 b (List.mem_of_mem_take hb),by
   show(List.take _ c.rI).length≤40;rw[List.length_take]
   split <;> omega⟩
  have hA:ZE m':=⟨o0,o1,a3,hr,by show(0:Int)≤12;decide,by show(12:Int)≤12;decide⟩;refine au (aQ (Ts hM hA 3 64 (by omega) (by omega) m' 0 (zx.refl hA.l0))) ?_;rintro⟨b,n⟩ ⟨a,hb,FG⟩;dsimp only at hb FG ⊢;have e1:=FG.left;have e2:=FG.l0;have e3:=FG.s;refine aV (aK (by unfold dL;simp only[List.length_singleton];omega) (ax (ah ⟨by simp only[List.length_append,List.length_singleton];omega,fun k x hx=>?_,e3.ints,e3.tables,e3.flags,e3.own,e3.ar⟩)));rw[List.getElem?_append]at hx
  split at hx
  ·exact h2 k x hx
  ·rename_i hk
   have ZT:k=j:=by
    have:=(List.getElem?_eq_some_iff.1 hx).1;simp only[List.length_singleton]at this;omega
   subst ZT;rw[h1,Nat.sub_self]at hx;simp at hx;subst hx;refine⟨q,by omega,by simpa using p2,by omega,by simp,rfl,a,?_,hb⟩;have:m'.qW=12:=rfl;omega
 ·rintro⟨hs,m2⟩ ⟨h1,h2,h3,h4,h5,h6,h7⟩
  exact cR (aI (ah ⟨by dsimp only at h1 ⊢;omega,h2⟩))
def RE(F:Int)(gP:List (List Int))(i:Nat)(x:bB):Prop :=
 ∃(I T:Nat) (r:List Int) (v:List bH) (vs:List (List bH)),1≤I∧I≤3∧T≤1∧gP[i]? = some r∧x.bn=cn i ∧
  x.ez=(List.range I).map (fun(k:Nat)=>(⟨nm 120 k,1,(k:Int)⟩:cf))++[⟨nm 98 0,2,0⟩]++(List.range T).map (fun k=>(⟨nm 116 k,3,0⟩:cf)) ∧
  x.aX=v::vs∧vs.length≤1∧1≤v.length∧v.length≤r.length∧(∀u∈vs,1≤u.length∧u.length≤r.length)∧(v.length=r.length∨∃u∈vs,u.length=r.length) ∧
  ∀u∈v::vs,∀k y,u[k]? = some y→HOk I T F gP i r k y
structure Mi(x:bL):Prop where
 i0:0≤x.zc
 i1:x.zc<256
 t0:0≤x.cX
 t1:x.cX<256
 h:∀c∈x.bP,zy c
 s:∀c∈x.kB,zy c
theorem bK4{a:List bB}{n:ByteArray}{vs:List cf}{hs:List (List bH)}(h:a.length≤2):Wp (km a n vs hs) fun q=>q=a++[⟨n,vs,hs⟩]:=by
 unfold km;refine cR (aV (aK (by unfold dL;simp only[List.length_singleton];omega) (ax ?_)));unfold qJ;exact ax (ah rfl)
theorem bK3{fl:List cO}{lk:List cA}{gP:List (List Int)}{i:Nat}{a:List bB}{x:bL}{n:ByteArray}{vs:List cf}{cs:List bp}{r:List Int}
  (hx:Mi x) (hF:fl.length≤2) (h3:gP.length≤3) (hr:∀r∈gP,1≤r.length∧r.length≤3∧∀k∈r,0≤k∧k≤2) (hri:gP[i]? = some r) (ha:a.length≤2) (hc1:1≤cs.length) (hc2:cs.length≤r.length) (hc:∀c∈cs,zy c) (apU:min 3 x.kB.length≤r.length) (ad6:cs.length=r.length∨min 3 x.kB.length=r.length) :
  Wp (iQ fl lk gP i a x n vs cs) fun q=>∃v us,q=a++[⟨n,vs,v::us⟩]∧us.length≤1∧1≤v.length∧v.length≤r.length∧(∀u∈us,1≤u.length∧u.length≤r.length)∧(v.length=r.length∨∃u∈us,u.length=r.length) ∧
   ∀u∈v::us,∀k y,u[k]? = some y→HOk (1+x.zc % 3) (x.cX % 2) fl.length gP i r k y:=by
 unfold iQ;have i0:=hx.i0;have i1:=hx.i1;have t0:=hx.t0;have t1:=hx.t1;have hil:i<gP.length:=(List.getElem?_eq_some_iff.1 hri).1;have w1:IntKind.wrap .i64 (1+(IntKind.wrap .i64 (x.zc % 3)))=1+x.zc % 3:=by rw[IntKind.wrap_i64,IntKind.wrap_i64];omega
 have w2:IntKind.wrap .i64 (x.cX % 2)=x.cX % 2:=by rw[IntKind.wrap_i64];omega
 have ai7:gP[(i:Int).toNat]? = some r:=by simpa using hri
 rw[w1,w2];refine au (aQ (OB (r:=r) (by dsimp only;omega) (by dsimp only;omega) (by dsimp only;omega) (by dsimp only;omega) (by dsimp only;omega) (by dsimp only;omega) (by dsimp only;omega) h3 hr ai7 hc2 hc)) ?_;rintro⟨v,m⟩ ⟨v1,v2,v3,v4,v5,v6,v7⟩;dsimp only at v1 v2 v3 v4 v5 v6 v7 ⊢;refine aV (aK (by unfold dL;simp only[List.length_singleton];omega) (cS ?_));refine ak (fun hb=>?_) (fun hb=>?_)
 ·have Ba:0<x.kB.length:=by simpa using hb
  refine aA (BG _ _) ?_;refine aK (by unfold eN;split <;> omega) ?_
  have Nr:(List.take (Int.toNat (if (x.kB.length:Int)<3 then(x.kB.length:Int)else 3)) x.kB).length=min 3 x.kB.length:=by
   rw[List.length_take];split <;> omega
  refine au (aQ (LG (m:=m) (r:=r) (by rw[v3];omega) (by rw[v3];omega) (by rw[v4];omega) (by rw[v5];omega) (by rw[v5];omega) (by rw[v6];omega) (by rw[v6,v7];omega) (by rw[v7];exact h3) (by rw[v7];exact hr) (by rw[v6,v7];exact ai7) (by rw[Nr];exact apU) (fun c hc=>hx.s c (List.mem_of_mem_take hc)))) ?_;rintro⟨u,m2⟩ ⟨u1,u2⟩;dsimp only at u1 u2 ⊢;rw[Nr]at u1;rw[v3,v4,v5,v6,v7]at u2;refine aV (aK (by unfold dL;simp only[List.length_singleton];omega) (ax ((bK4 ha).imp ?_)));rintro q rfl;refine⟨v,[u],rfl,by simp,by omega,by omega,fun w hw=>by simp at hw;subst hw;omega,?_,fun w hw=>?_⟩
  ·rcases ad6 with h|h
   ·exact .inl (by omega)
   ·exact .inr ⟨u,by simp,by omega⟩
  ·rcases List.mem_cons.1 hw with rfl|hw
   ·exact v2
   ·simp at hw;subst hw;exact u2
 ·have Ba:x.kB.length=0:=by simp at hb;simp[hb]
  refine ax ((bK4 ha).imp ?_);rintro q rfl;refine⟨v,[],rfl,by simp,by omega,by omega,by simp,?_,fun w hw=>?_⟩
  ·rcases ad6 with h|h
   ·exact .inl (by omega)
   ·left;omega
  ·simp at hw;subst hw;exact v2
structure Mh(x:dg):Prop where
 f0:0≤x.aR
 f1:x.aR<256
 l:∀b∈x.fP,0≤b∧b<256
 c:∀p∈x.aF,Mi p
def TA(n:Nat)(l:List cA):Prop:=∃ks:List (Nat×Int),(ks.map (·.1)).Pairwise (· < ·)∧(∀p∈ks,p.1<n*n∧1≤p.2∧p.2≤3)∧l=ks.map fun p=>⟨cn (p.1 / n),cn (p.1 % n),p.2⟩
structure Mm(f:dK):Prop where
 name:f.bn=⟨#[102,108,101,101,116,49]⟩
 f2:f.aR.length≤2
 fn:∀k x,f.aR[k]? = some x→x.bn=nm 102 k
 n1:1≤f.aF.length
 n3:f.aF.length≤3
 lk:TA f.aF.length f.fP
 cs:∃gP:List (List Int),gP.length=f.aF.length∧(∀r∈gP,1≤r.length∧r.length≤3∧∀k∈r,0≤k∧k≤2)∧∀i x,f.aF[i]? = some x→RE f.aR.length gP i x
theorem ahZ:bK 102 0=some []:=by kernel_rfl
theorem ahY:bK 102 1=some [nm 102 0]:=by kernel_rfl
theorem ahX{p:Nat}(h:p≤2):bK 102 (p:Int)=some ((List.range p).map (nm 102)):=by
 match p,h with
 |0,_=>exact ahZ
 |1,_=>exact ahY
 |2,_=>exact aeO
theorem ahQ:bK 120 1=some [nm 120 0]:=by kernel_rfl
theorem ahP:bK 120 2=some [nm 120 0,nm 120 1]:=by kernel_rfl
theorem ahO{p:Nat}(h1:1≤p)(h:p≤3):bK 120 (p:Int)=some ((List.range p).map (nm 120)):=by
 match p,h1,h with
 |1,_,_=>exact ahQ
 |2,_,_=>exact ahP
 |3,_,_=>exact ahR
theorem ahU:bK 116 0=some []:=by kernel_rfl
theorem ahT:bK 116 1=some [nm 116 0]:=by kernel_rfl
theorem ahS{p:Nat}(h:p≤1):bK 116 (p:Int)=some ((List.range p).map (nm 116)):=by
 match p,h with
 |0,_=>exact ahU
 |1,_=>exact ahT
theorem DU{α:Type}{l:List α}{y:α}{k:Nat}{x:α}(h:(l++[y])[k]? = some x):l[k]? = some x∨k=l.length∧x=y:=by
 rw[List.getElem?_append]at h
 split at h
 ·exact .inl h
 ·rename_i hk
  have:=(List.getElem?_eq_some_iff.1 h).1;simp only[List.length_singleton]at this;have ZT:k=l.length:=by omega
  subst ZT;rw[Nat.sub_self]at h;simp at h;exact .inr ⟨rfl,h.symm⟩
theorem adM{x:dg}{ps:List bL}(hx:Mh x)(h1:1≤ps.length)(h3:ps.length≤3)(hp:∀p∈ps,Mi p):Wp (ko x ((ps.length:Int),ps)) Mm:=by
 unfold ko;have f0:=hx.f0;have f1:=hx.f1;dsimp only;obtain⟨q,hq,hq2⟩:∃q:Nat,x.aR % 3=(q:Int)∧q≤2:=⟨(x.aR % 3).toNat,by omega,by omega⟩;have w1:IntKind.wrap .i64 (x.aR % 3)=(q:Int):=by rw[IntKind.wrap_i64];omega
 refine aK ⟨f0,by decide⟩ ?_;rw[w1];refine aA (ahX hq2) ?_;refine cw (fun j s=>s.length=j∧∀k y,s[k]? = some y→y.bn=nm 102 k) (by unfold m64;simp;omega) ⟨rfl,by simp⟩ ?_ ?_
 ·rintro j s hj ⟨s1,s2⟩
  have hj2:j<q:=by simpa using hj
  refine aA (x:=nm 102 j) (by rw[gR];simp[hj2]) ?_;have w2:IntKind.wrap .i64 (4+(j:Int))=4+(j:Int):=by rw[IntKind.wrap_i64];omega
  rw[w2];refine aK (by omega) (aK ⟨Int.fdiv_nonneg f0 (Int.le_of_lt (Int.pow_pos (by decide))),by decide⟩ (aV (aK (by unfold dL;simp only[List.length_singleton];omega) (ax (ah ⟨by simp only[List.length_append,List.length_singleton];omega,fun k y hy=>?_⟩)))));rcases DU hy with hy|⟨rfl,rfl⟩
  ·exact s2 k y hy
  ·rw[s1]
 rintro fl ⟨g1,g2⟩;have g3:fl.length≤2:=by rw[g1];simp;omega
 refine aV ?_
 have wn:IntKind.wrap .i64 ((ps.length:Int)*(ps.length:Int))=((ps.length*ps.length:Nat):Int):=by
  have:ps.length*ps.length≤3*3:=Nat.mul_le_mul h3 h3;rw[←Int.natCast_mul,IntKind.wrap_i64];omega
 have hnn:ps.length*ps.length≤9:=Nat.mul_le_mul h3 h3;refine ly (fun s=>0≤s.1∧s.1≤9∧s.2.length≤s.1.toNat∧∃ks:List (Nat×Int),(ks.map (·.1)).Pairwise (· < ·)∧(∀p∈ks,p.1<ps.length*ps.length∧(p.1:Int)<s.1∧1≤p.2∧p.2≤3)∧s.2=ks.map fun p=>⟨cn (p.1 / ps.length),cn (p.1 % ps.length),p.2⟩) (fun s=>(9-s.1).toNat) ⟨Int.le_refl _,by decide,by simp,[],by simp,by simp,rfl⟩ (by dsimp only;omega) ?_
 ·rintro⟨k,l⟩ ⟨k0,k9,hl,ks,p1,p2,rfl⟩
  dsimp only at k0 k9 hl p2 ⊢;rw[wn];have wk:IntKind.wrap .i64 (k+1)=k+1:=by rw[IntKind.wrap_i64];omega
  refine ak (fun hb=>?_) (fun hb=>?_)
  ·obtain⟨Ky,Co⟩:k<(x.fP.length:Int)∧k<((ps.length*ps.length:Nat):Int):=by simpa using hb
   obtain⟨b,b1,_,b3⟩:=mc k0 Ky;have hb8:=hx.l b b3;obtain⟨kk,rfl⟩:=Int.eq_ofNat_of_zero_le k0;refine aA b1 (aK ⟨hb8.1,by decide⟩ ?_);refine ak (fun hc=>?_) (fun hc=>?_)
   ·have hc2:0<b % 4:=by simpa using hc
    have hd:kk / ps.length<ps.length:=Nat.div_lt_of_lt_mul (by omega);have hm:kk % ps.length<ps.length:=Nat.mod_lt _ (by omega);have e1:((kk:Int) / (ps.length:Int))=((kk / ps.length:Nat):Int):=by simp
    have e2:((kk:Int) % (ps.length:Int))=((kk % ps.length:Nat):Int):=by simp
    have w4:IntKind.wrap .i64 (b % 4)=b % 4:=by rw[IntKind.wrap_i64];omega
    have z1:(0:Int)≤((kk / ps.length:Nat):Int):=Int.natCast_nonneg _;have z2:(0:Int)≤((kk % ps.length:Nat):Int):=Int.natCast_nonneg _;have y1:((kk / ps.length:Nat):Int)<3:=Int.ofNat_lt.2 (Nat.lt_of_lt_of_le hd h3);have y2:((kk % ps.length:Nat):Int)<3:=Int.ofNat_lt.2 (Nat.lt_of_lt_of_le hm h3);refine aK ⟨by omega,by omega,by rw[e1];simp only[xU];omega⟩ ?_;rw[e1,e2,w4,wk];refine aA (Td z1 y1) ?_;refine aK (by omega) ?_;refine aA (Td z2 y2) ?_;refine aK (by omega) (aV (aK (by unfold dL;simp only[List.length_singleton];omega) (ax (ah ⟨⟨by dsimp only;omega,by dsimp only;omega,by simp only[List.length_append,List.length_singleton];omega,ks++[(kk,b % 4)],?_,?_,?_⟩,by dsimp only;omega⟩))))
    ·rw[List.map_append,List.pairwise_append]
     refine⟨p1,by simp,fun a ha c hc=>?_⟩;obtain⟨p,hp,rfl⟩:=List.mem_map.1 ha;simp at hc;subst hc;have:=p2 p hp;omega
    ·intro p hp
     rcases List.mem_append.1 hp with hp|hp
     ·have:=p2 p hp;omega
     ·simp at hp;subst hp;dsimp only;omega
    ·simp only[List.map_append,List.map_cons,List.map_nil,Int.toNat_natCast]
   ·rw[wk]
    exact ax (ah ⟨⟨by dsimp only;omega,by dsimp only;omega,by dsimp only;omega,ks,p1,fun p hp=>by have:=p2 p hp;dsimp only;omega,rfl⟩,by dsimp only;omega⟩)
  ·refine ah ?_
   generalize hlk:(ks.map fun p=>(⟨cn (p.1 / ps.length),cn (p.1 % ps.length),p.2⟩:cA))=lk;have hLk:TA ps.length lk:=⟨ks,p1,fun p hp=>⟨(p2 p hp).1,(p2 p hp).2.2⟩,hlk.symm⟩;clear hlk hl p1 p2 hb wk;refine cw (fun(j:Nat) (s:List (List Int))=>s.length=j∧∀(k:Nat) (r:List Int),s[k]? = some r→∃p:bL,ps[k]? = some p∧r.length=min 3 (max (max p.bP.length p.kB.length) 1)∧∀k∈r,0≤k∧k≤2) (by unfold m64;omega) ⟨rfl,by simp⟩ ?_ ?_
   ·rintro j s hj ⟨s1,s2⟩
    obtain⟨p,q1,q2,q3⟩:=mc (xs:=ps) (i:=(j:Int)) (by omega) hj;refine aA q1 ?_;refine au (Zb (hp p q3).h (hp p q3).s) ?_;rintro r ⟨r1,r2⟩;refine aV (aK (by unfold dL;simp only[List.length_singleton];omega) (ax (ah ⟨by simp only[List.length_append,List.length_singleton];omega,fun k y hy=>?_⟩)));rcases DU hy with hy|⟨rfl,rfl⟩
    ·exact s2 k y hy
    ·rw[s1];exact⟨p,by simpa using q2,r1,r2⟩
   rintro gP ⟨a1,a2⟩;have a1':gP.length=ps.length:=by rw[a1];simp
   have Wo:∀r∈gP,1≤r.length∧r.length≤3∧∀k∈r,0≤k∧k≤2:=by
    intro r hr;obtain⟨k,hk,rfl⟩:=List.getElem_of_mem hr;obtain⟨p,_,r1,r2⟩:=a2 k _ (List.getElem?_eq_getElem hk);exact⟨by omega,by omega,r2⟩
   refine cw (fun(j:Nat) (s:List bB)=>s.length=j∧∀(i:Nat) (c:bB),s[i]? = some c→RE fl.length gP i c) (by unfold m64;omega) ⟨rfl,by simp⟩ ?_ ?_
   ·rintro j s hj ⟨s1,s2⟩
    refine cS ?_;obtain⟨p,q1,q2,q3⟩:=mc (xs:=ps) (i:=(j:Int)) (by omega) hj;have hpp:=hp p q3;have i0:=hpp.i0;have i1:=hpp.i1;have t0:=hpp.t0;have t1:=hpp.t1;refine aA q1 ?_;refine aA (Td (by omega) (by omega)) ?_;obtain⟨I,hI,I1,I3⟩:∃I:Nat,1+p.zc % 3=(I:Int)∧1≤I∧I≤3:=⟨(1+p.zc % 3).toNat,by omega,by omega,by omega⟩;obtain⟨T,hT,T1⟩:∃T:Nat,p.cX % 2=(T:Int)∧T≤1:=⟨(p.cX % 2).toNat,by omega,by omega⟩;have w5:IntKind.wrap .i64 (1+IntKind.wrap .i64 (p.zc % 3))=(I:Int):=by rw[IntKind.wrap_i64,IntKind.wrap_i64];omega
    have w6:IntKind.wrap .i64 (p.cX % 2)=(T:Int):=by rw[IntKind.wrap_i64];omega
    rw[w5,w6];refine aK ⟨i0,by decide⟩ ?_;refine aA (ahO I1 I3) ?_;refine cw (fun j s=>s=(List.range j).map (fun(k:Nat)=>(⟨nm 120 k,1,(k:Int)⟩:cf))) (by unfold m64;simp;omega) rfl ?_ ?_
    ·rintro j' s' Nl rfl
     have hj2:j'<I:=by simpa using Nl
     refine aA (x:=nm 120 j') (by rw[gR];simp[hj2]) ?_;refine aV (aK (by unfold dL;simp;omega) (ax (ah ?_)));rw[List.range_succ,List.map_append];rfl
    rintro s45 hs45;have aac:s45=(List.range I).map (fun(k:Nat)=>(⟨nm 120 k,1,(k:Int)⟩:cf)):=by rw[hs45];simp
    refine aV (aK (by rw[aac];unfold dL;simp;omega) ?_);refine aK ⟨t0,by decide⟩ ?_;refine aA (ahS T1) ?_;refine cw (fun j s=>s=s45++[⟨nm 98 0,2,0⟩]++(List.range j).map (fun(k:Nat)=>(⟨nm 116 k,3,0⟩:cf))) (by unfold m64;simp;omega) (by simp;rfl) ?_ ?_
    ·rintro j' s' Nl rfl
     have hj2:j'<T:=by simpa using Nl
     refine aA (x:=nm 116 j') (by rw[gR];simp[hj2]) ?_;refine aV (aK (by rw[aac];unfold dL;simp;omega) (ax (ah ?_)));rw[List.range_succ,List.map_append,←List.append_assoc];rfl
    rintro TH hs53;have ai9:TH=s45++[⟨nm 98 0,2,0⟩]++(List.range T).map (fun(k:Nat)=>(⟨nm 116 k,3,0⟩:cf)):=by rw[hs53];simp
    refine aK ⟨i0,by decide⟩ (aK ⟨t0,by decide⟩ ?_);refine aA (BG _ _) ?_;refine aK (by unfold eN;split <;> omega) (cS ?_);have Dt:j<gP.length:=by omega
    obtain⟨p',hp',r1,r2⟩:=a2 j _ (List.getElem?_eq_getElem Dt)
    obtain rfl:p'=p:=by
     have:ps[j]? = some p:=by simpa using q2
     rw[this]at hp';exact(Option.some.inj hp').symm
    have Nr:(List.take (Int.toNat (if (p'.bP.length:Int)<3 then(p'.bP.length:Int)else 3)) p'.bP).length=min 3 p'.bP.length:=by
     rw[List.length_take];split <;> omega
    have fin:∀(cs:List bp),cs.length=max 1 (min 3 p'.bP.length)→(∀c∈cs,zy c)→Wp (iQ fl lk gP j s p' (cn (j:Int).toNat) TH cs) fun q=>q.length=j+1∧∀i c,q[i]? = some c→RE fl.length gP i c:=by
     intro cs hc1 hc2;refine(bK3 hpp g3 (by omega) Wo (List.getElem?_eq_getElem Dt) (by omega) (by omega) (by omega) hc2 (by omega) (by omega)).imp ?_;rintro q ⟨v,us,rfl,u1,u2,u3,u4,u5,u6⟩;refine⟨by simp only[List.length_append,List.length_singleton];omega,fun i c hc=>?_⟩;rcases DU hc with hc|⟨rfl,rfl⟩
     ·exact s2 i c hc
     ·rw[s1]
      rw[hI,hT]at u6;exact⟨I,T,_,v,us,I1,I3,T1,List.getElem?_eq_getElem Dt,by simp,by dsimp only;rw[ai9,aac],rfl,u1,u2,u3,u4,u5,u6⟩
    refine ak (fun hz=>?_) (fun hz=>?_)
    ·refine aV (ax (fin _ ?_ ?_))
     ·have:min 3 p'.bP.length=0:=by rw[←Nr];simpa using hz
      rw[this];rfl
     ·intro c hc;simp at hc;subst hc
      exact⟨by decide,by decide,by simp,by simp⟩
    ·refine ax (fin _ ?_ (fun c hc=>hpp.h c (List.mem_of_mem_take hc)))
     have:min 3 p'.bP.length≠0:=by
      rw[←Nr];intro e;rw[e]at hz;simp at hz
     rw[Nr];omega
   ·rintro cs ⟨c1,c2⟩
    have c3:cs.length=ps.length:=by rw[c1];simp
    exact cR (ah ⟨rfl,g3,g2,by dsimp only;omega,by dsimp only;omega,by dsimp only;rw[c3];exact hLk,gP,by dsimp only;omega,Wo,c2⟩)
theorem ZC{x:dg}(hx:Mh x):Wp (mI x) Mm:=by
 unfold mI;refine aA (BG _ _) ?_;refine aK (by unfold eN;split <;> omega) (cS ?_)
 have Nr:(List.take (Int.toNat (if (x.aF.length:Int)<3 then(x.aF.length:Int)else 3)) x.aF).length=min 3 x.aF.length:=by
  rw[List.length_take];split <;> omega
 have hn:(if (x.aF.length:Int)<3 then(x.aF.length:Int)else 3)=((min 3 x.aF.length:Nat):Int):=by split <;> omega
 refine ak (fun hb=>?_) (fun hb=>?_)
 ·refine aV (ax ?_)
  exact adM (ps:=[⟨0,0,[],[]⟩]) hx (by simp) (by simp) (fun p hp=>by simp at hp;subst hp;exact⟨by decide,by decide,by decide,by decide,by simp,by simp⟩)
 ·have h0:min 3 x.aF.length≠0:=by
   intro e;rw[hn,e]at hb;simp at hb
  have:=adM (ps:=List.take (Int.toNat (if (x.aF.length:Int)<3 then(x.aF.length:Int)else 3)) x.aF) hx (by rw[Nr];omega) (by rw[Nr];omega) (fun p hp=>hx.c p (List.mem_of_mem_take hp));rw[Nr]at this;rw[←hn]at this;exact ax this
structure SN where
 I:Int
 T:Int
 F:Int
 Pn:Int
 gP:List (List Int)
 own:Int
abbrev SC.sn(C:SC):SN:=⟨C.I,C.T,C.F,C.Pn,C.gP,C.own⟩
inductive Sh(C:SN):Bool→Int→ByteArray→Int→Bool→Nat→Prop
 |lit {n:Int}:0≤n→n<9→Sh C false 1 ByteArray.empty n false 0
 |now:Sh C false 4 ByteArray.empty 0 false 0
 |var {i:Nat}:(i:Int)<C.I→Sh C false 5 (nm 120 i) 0 false 0
 |par {i:Nat}:(i:Int)<C.Pn→Sh C false 5 (nm 112 i) 0 false 0
 |get:0<C.T→Sh C false 6 (nm 116 0) 0 false 1
 |size:0<C.T→Sh C false 8 (nm 116 0) 0 false 0
 |neg:Sh C false 9 ByteArray.empty 0 false 1
 |bin {op:Int}:11≤op→op≤15→Sh C false op ByteArray.empty 0 false 2
 |tf {op:Int}:2≤op→op≤3→Sh C true op ByteArray.empty 0 false 0
 |b0:Sh C true 5 (nm 98 0) 0 false 0
 |flag {i:Nat}:(i:Int)<C.F→Sh C true 5 (nm 102 i) 0 false 0
 |has:0<C.T→Sh C true 7 (nm 116 0) 0 false 1
 |not:Sh C true 10 ByteArray.empty 0 true 1
 |con {op:Int}:22≤op→op≤23→Sh C true op ByteArray.empty 0 true 2
 |cmp {op:Int}:16≤op→op≤21→Sh C true op ByteArray.empty 0 false 2
inductive WE(C:SN)(mk:Nd):Nat→Bool→DV→Prop
 |node {d:Nat} {t u:Bool} {op n:Int} {s:ByteArray} {c:Nat} {l:List DV}:Sh C t op s n u c→l.length=c→(∀a∈l,WE C mk d u a)→WE C mk (d+1) t (mk op s n l)
theorem WE.le{C:SN}{mk:Nd}{d:Nat}{t:Bool}{x:DV}(h:WE C mk d t x):∀{e:Nat},d≤e→WE C mk e t x:=by
 induction h with
 |node a b _ ih=>
  intro e he;obtain⟨f,rfl⟩:∃f,e=f+1:=⟨e-1,by omega⟩;exact .node a b (fun x hx=>ih x hx (by omega))
theorem wj{C:SC}{d:Nat}{x:DV}(h:C.N d x):WE C.sn C.me d false x:=by
 unfold SC.N at h
 induction h with
 |lit a b=>exact .node (.lit a b) rfl (by simp)
 |var a=>exact .node (.var a) rfl (by simp)
 |par a=>exact .node (.par a) rfl (by simp)
 |now=>exact .node .now rfl (by simp)
 |get a _ ih=>exact .node (.get a) rfl (by simpa using ih)
 |size a=>exact .node (.size a) rfl (by simp)
 |neg _ ih=>exact .node .neg rfl (by simpa using ih)
 |bin a b _ _ i j=>exact .node (.bin a b) rfl (by simpa using⟨i,j⟩)
theorem Qr{C:SC}{d:Nat}{x:DV}(h:C.B d x):WE C.sn C.me d true x:=by
 unfold SC.B at h
 induction h with
 |lit a b=>exact .node (.tf a b) rfl (by simp)
 |b0=>exact .node .b0 rfl (by simp)
 |flag a=>exact .node (.flag a) rfl (by simp)
 |has a b=>exact .node (.has a) rfl (by simpa using wj (C:=C) b)
 |not _ ih=>exact .node .not rfl (by simpa using ih)
 |con a b _ _ i j=>exact .node (.con a b) rfl (by simpa using⟨i,j⟩)
 |cmp a b i j=>exact .node (.cmp a b) rfl (by simpa using⟨wj (C:=C) i,wj (C:=C) j⟩)
inductive Ss(C:SN):Int→ByteArray→ByteArray→Bool→Nat→Bool→Bool→Prop
 |set {i:Nat}:(i:Int)<C.I→Ss C 1 (nm 120 i) ByteArray.empty false 1 false false
 |Ul:Ss C 1 (nm 98 0) ByteArray.empty true 1 false false
 |put:0<C.T→Ss C 2 (nm 116 0) ByteArray.empty false 2 false false
 |del:0<C.T→Ss C 3 (nm 116 0) ByteArray.empty false 1 false false
 |iff:Ss C 4 ByteArray.empty ByteArray.empty true 1 true true
 |whl:Ss C 5 ByteArray.empty ByteArray.empty true 1 true false
 |send {i h c:Nat} {r:List Int}:C.gP[i]? = some r→r[h]? = some (c:Int)→c≤2→Ss C 6 (cn i) (nm 104 h) false c false false
 |aft {h c:Nat} {r:List Int}:C.gP[C.own.toNat]? = some r→r[h]? = some (c:Int)→c≤2→Ss C 7 ByteArray.empty (nm 104 h) false (c+1) false false
 |store:Ss C 8 ByteArray.empty ByteArray.empty false 2 false true
 |JV {i:Nat}:(i:Int)<C.I→Ss C 9 (nm 120 i) ByteArray.empty false 1 false true
 |stop:Ss C 10 ByteArray.empty ByteArray.empty false 0 false false
inductive WF(C:SN)(me:Nd)(ms:Ns)(B:Nat→List DV→Prop):Nat→DV→Prop
 |node {k:Int} {n h:ByteArray} {t:Bool} {c a b:Nat} {p q:Bool} {l s z:List DV}:Ss C k n h t c p q→l.length=c→(∀e∈l,WE C me 6 t e)→B a s→B b z→(p=false→s = [])→(q=false→z = [])→WF C me ms B (1+a+b) (ms k n h l s z)
inductive WL(S:Nat→DV→Prop):Nat→List DV→Prop
 |nil:WL S 0 []
 |cons {a b:Nat} {l:List DV} {s:DV}:S a s→WL S b l→WL S (a+b) (s::l)
def WB(C:SN)(me:Nd)(ms:Ns):Nat→Nat→List DV→Prop
 |0=>fun n l=>n=0∧l = []
 |d+1=>WL (WF C me ms (WB C me ms d))
theorem WB.nil{C:SN}{me:Nd}{ms:Ns}:∀{d:Nat},WB C me ms d 0 []
 |0=>⟨rfl,rfl⟩
 |_+1=>WL.nil
theorem WL.snoc{S:Nat→DV→Prop}{a b:Nat}{l:List DV}{s:DV}(h:WL S a l)(k:S b s):WL S (a+b) (l++[s]):=by
 induction h with
 |nil=>rw[Nat.add_comm];exact .cons k .nil
 |cons x _ ih=>rw[Nat.add_assoc];exact .cons x ih
theorem WL.get{S:Nat→DV→Prop}{n:Nat}{l:List DV}(h:WL S n l):∀{x:DV},x∈l→∃a,a≤n∧S a x:=by
 induction h with
 |nil=>intro x hx;simp at hx
 |cons y _ ih=>
  intro x hx;rcases List.mem_cons.1 hx with rfl|hx
  ·exact⟨_,by omega,y⟩
  ·obtain⟨a,b,c⟩:=ih hx;exact⟨a,by omega,c⟩
theorem BS.wl{S R:Nat→DV→Prop}(f:∀a x,S a x→R a x){n:Nat}{l:List DV}(h:BS S n l):WL R n l:=by
 induction h with
 |nil=>exact .nil
 |snoc _ x ih=>exact ih.snoc (f _ _ x)
theorem qp.wf{C:SC}(Wo:∀r∈C.gP,∀k∈r,k≤2){P B:Nat→List DV→Prop}(f:∀a x,P a x→B a x)(hn:B 0 []){n:Nat}{x:DV}(h:qp C P n x):WF C.sn C.me C.ms B n x:=by
 have o:∀{t:Bool} {e:DV},WE C.sn C.me 6 t e→∀x∈[e],WE C.sn C.me 6 t x:=by intro t e h x hx;simp at hx;subst hx;exact h
 have h2:∀{i h c:Nat} {r:List Int},C.gP[i]? = some r→r[h]? = some (c:Int)→c≤2:=by
  intro i h c r h1 h2;have:=Wo r (List.mem_of_getElem? h1) _ (List.mem_of_getElem? h2);omega
 cases h with
 |set a b=>exact .node (a:=0) (b:=0) (.set a) rfl (o (wj b |>.le (by decide))) hn hn (fun _=>rfl) (fun _=>rfl)
 |Ul b=>exact .node (a:=0) (b:=0) .Ul rfl (o (Qr b)) hn hn (fun _=>rfl) (fun _=>rfl)
 |put a b c=>exact .node (a:=0) (b:=0) (.put a) rfl (by simpa using⟨(wj b).le (by decide),(wj c).le (by decide)⟩) hn hn (fun _=>rfl) (fun _=>rfl)
 |del a b=>exact .node (a:=0) (b:=0) (.del a) rfl (o (wj b |>.le (by decide))) hn hn (fun _=>rfl) (fun _=>rfl)
 |iff a b c=>exact .node .iff rfl (o (Qr a)) (f _ _ b) (f _ _ c) (by simp) (by simp)
 |whl a b=>exact .node (b:=0) .whl rfl (o (Qr a)) (f _ _ b) hn (by simp) (fun _=>rfl)
 |send a b c e=>subst c;exact .node (a:=0) (b:=0) (.send a b (h2 a b)) rfl (fun x hx=>(wj (e x hx)).le (by decide)) hn hn (fun _=>rfl) (fun _=>rfl)
 |aft a b c e g=>
  subst c;refine .node (a:=0) (b:=0) (.aft a b (h2 a b)) rfl (fun x hx=>?_) hn hn (fun _=>rfl) (fun _=>rfl);rcases List.mem_cons.1 hx with rfl|hx
  ·exact(wj e).le (by decide)
  ·exact(wj (g x hx)).le (by decide)
 | @store x y m _ a b c=>
  have:=WF.node (C:=C.sn) (me:=C.me) (ms:=C.ms) (B:=B) (a:=0) (b:=m) (l:=[x,y]) .store rfl (by simpa using⟨(wj a).le (by decide),(wj b).le (by decide)⟩) hn (f _ _ c) (fun _=>rfl) (by simp)
  rwa [Nat.add_zero]at this
 | @JV _ _ m _ a b c=>
  have:=WF.node (C:=C.sn) (me:=C.me) (ms:=C.ms) (B:=B) (a:=0) (b:=m) (.JV a) rfl (o (wj b |>.le (by decide))) hn (f _ _ c) (fun _=>rfl) (by simp)
  rwa [Nat.add_zero]at this
 |stop=>exact .node (a:=0) (b:=0) .stop rfl (by simp) hn hn (fun _=>rfl) (fun _=>rfl)
theorem xp.wb{C:SC}(Wo:∀r∈C.gP,∀k∈r,k≤2):∀{d n:Nat} {l:List DV},xp C d n l→WB C.sn C.me C.ms (d+1) n l
 |0,_,_,h=>h.wl fun _ _=>qp.wf Wo (fun _ _ h=>h.elim) WB.nil
 |d+1,_,_,h=>h.wl fun _ _=>qp.wf Wo (fun _ _ h=>h.wb Wo) WB.nil
theorem Ed{k n:Nat}(h:n≤1000000000)(hk:k≤1000):dL k n:=by
 have:=Nat.mul_le_mul h hk;unfold dL;omega
theorem xt{α:Type}{a:α}{k n:Nat}(h:n≤100000000)(hk:k≤1000):dL k (n + [a].length):=Ed (by simp only[List.length_singleton];omega) hk
theorem abR{α:Type}{xs:List α}{j:Nat}(h:j<xs.length):∃x,idx xs (j:Int)=some x∧xs[j]? = some x∧x∈xs:=⟨xs[j],by rw[gR];exact List.getElem?_eq_getElem h,List.getElem?_eq_getElem h,List.getElem_mem h⟩
section
variable {α β γ:Type} {Q:β→Prop} {xs:List α} {j:Nat} {R:α→γ→Prop} {s:List γ}
theorem bJ{f:α→Option β}(hj:(j:Int)<(xs.length:Int))(g:∀x,xs[j]? = some x→x∈xs→Wp (f x) Q):Wp (Bi (idx xs (j:Int)) f) Q:=od (GK (by omega) g)
theorem fI{i:Int}{f:α→Option β}(h0:0≤i)(hj:i<(xs.length:Int))(g:∀x,xs[i.toNat]? = some x→x∈xs→Wp (f x) Q):Wp (Bi (idx xs i) f) Q:=od (Bt h0 hj g)
def MI(R:α→γ→Prop)(xs:List α)(j:Nat)(s:List γ):Prop:=s.length=j∧∀(k:Nat) (a:α),k<j→xs[k]? = some a→∃b,s[k]? = some b∧R a b
theorem MI.zero:MI R xs 0 ([]:List γ):=⟨rfl,fun k a h=>absurd h (Nat.not_lt_zero k)⟩
theorem MI.snoc{a:α}{b:γ}(h:MI R xs j s)(hx:xs[j]? = some a)(hr:R a b):MI R xs (j+1) (s++[b]):=by
 refine⟨by rw[List.length_append,h.1];rfl,fun k c hk hc=>?_⟩;rcases Nat.lt_or_ge k j with pE|hge
 ·obtain⟨d,d1,d2⟩:=h.2 k c pE hc
  exact⟨d,by rw[List.getElem?_append_left (by have:=h.1;omega)];exact d1,d2⟩
 ·obtain rfl:k=j:=by omega
  rw[hx]at hc;obtain rfl:=Option.some.inj hc;exact⟨b,by rw[List.getElem?_append_right (by have:=h.1;omega),h.1,Nat.sub_self];rfl,hr⟩
theorem MI.at(h:MI R xs xs.length s){k:Nat}{a:α}(ha:xs[k]? = some a):∃b,s[k]? = some b∧R a b:=h.2 k a (List.getElem?_eq_some_iff.1 ha).1 ha
theorem MI.back(h:MI R xs xs.length s){k:Nat}{b:γ}(hb:s[k]? = some b):∃a,xs[k]? = some a∧R a b:=by
 have hk:=(List.getElem?_eq_some_iff.1 hb).1;rw[h.1]at hk;obtain⟨c,c1,c2⟩:=h.2 k _ hk (List.getElem?_eq_getElem hk);rw[hb]at c1;obtain rfl:=Option.some.inj c1;exact⟨_,List.getElem?_eq_getElem hk,c2⟩
theorem MI.mem(h:MI R xs xs.length s){b:γ}(hb:b∈s):∃a,a∈xs∧R a b:=by
 obtain⟨k,hk,rfl⟩:=List.getElem_of_mem hb;obtain⟨a,a1,a2⟩:=h.back (List.getElem?_eq_getElem hk);exact⟨a,List.mem_of_getElem? a1,a2⟩
end
def LI{γ:Type}(P:Nat→γ→Prop)(j:Nat)(s:List γ):Prop:=s.length=j∧∀(k:Nat) (b:γ),s[k]? = some b→P k b
theorem LI.zero{γ:Type}{P:Nat→γ→Prop}:LI P 0 ([]:List γ):=⟨rfl,by simp⟩
theorem LI.snoc{γ:Type}{P:Nat→γ→Prop}{j:Nat}{s:List γ}{b:γ}(h:LI P j s)(hb:P j b):LI P (j+1) (s++[b]):=by
 refine⟨by rw[List.length_append,h.1];rfl,fun k c hc=>?_⟩;rcases DU hc with hc|⟨rfl,rfl⟩
 ·exact h.2 k c hc
 ·rw[h.1];exact hb
theorem WL.len{S:Nat→DV→Prop}(hS:∀n s,S n s→1≤n){n:Nat}{l:List DV}(h:WL S n l):l.length≤n:=by
 induction h with
 |nil=>exact Nat.le_refl _
 |cons hs _ ih=>have:=hS _ _ hs;simp only[List.length_cons];omega
theorem WF.pos{C:SN}{me:Nd}{ms:Ns}{B:Nat→List DV→Prop}{n:Nat}{s:DV}(h:WF C me ms B n s):1≤n:=by cases h;omega
theorem WB.len{C:SN}{me:Nd}{ms:Ns}:∀{d n:Nat} {l:List DV},WB C me ms d n l→l.length≤n
 |0,n,l,h=>by rw[h.2];exact Nat.zero_le _
 |d+1,n,l,h=>WL.len (fun _ _=>WF.pos) h
theorem WB.anM{C:SN}{me:Nd}{ms:Ns}{d n:Nat}(h:WB C me ms d n []):n=0:=by
 cases d with
 |zero=>exact h.1
 |succ d=>cases h;rfl
theorem WB.emp{C D:SN}{me me':Nd}{ms ms':Ns}{d e n:Nat}{s s':List DV}(h:WB C me ms d n s)(h':WB D me' ms' e n s')(hs:s = []):s' = []:=by
 subst hs;have:=h'.len;rw[h.anM]at this;exact List.eq_nil_of_length_eq_zero (by omega)
theorem Sh.op{C:SN}{t u:Bool}{op n:Int}{s:ByteArray}{c:Nat}(h:Sh C t op s n u c):1≤op∧op≤23:=by cases h <;> omega
theorem Sh.c2{C:SN}{t u:Bool}{op n:Int}{s:ByteArray}{c:Nat}(h:Sh C t op s n u c):c≤2:=by cases h <;> omega
theorem Ss.c3{C:SN}{k:Int}{n h:ByteArray}{t:Bool}{c:Nat}{p q:Bool}(x:Ss C k n h t c p q):c≤3:=by cases x <;> omega
theorem Ss.op{C:SN}{k:Int}{n h:ByteArray}{t:Bool}{c:Nat}{p q:Bool}(x:Ss C k n h t c p q):1≤k∧k≤10:=by cases x <;> omega
end Go.Proofs.YtpeihknododmlaaGreatDoor

/- Part 1 of what the claim leans on. -/
import Derived.WalkKit
import Derived.WalkSpells
import Derived.WalkLawsBesides
import Derived.Lib.Hide
import Derived.Maps.AppendAt
import Derived.Deep.AppendLies
import Derived.Deep.MidRow
import Derived.Deep.Draws
import Derived.Deep.DeepMust
import Derived.Deep.DeepFit
import Derived.Deep.LoopGhost
import Derived.Deep.QuietTactic
import Derived.BigQuiet
import Derived.Outline
import Derived.OrdersIn
import Derived.Sort.LoopGhostIn
import Derived.RangeFuncIn
import Derived.ProofKit
import Derived.OpenShut
import Derived.JoinedCond
import Derived.Deep.Slices
import Derived.Lib.LaidTab
import Derived.SevenTiedAt
import Derived.LaidLaws
import Derived.Laws.StructEq
import Derived.ChangeKeysEq
import Derived.Lib.AppendZerosOnto
import Derived.MapKept
import Derived.WideKeyRuns
import Derived.Laws.BytesArg
import Derived.Lib.ConvBytes
import Derived.Laws.CopyRow
import Derived.Lib.AppendStr
import Derived.Laws.Externs
import Derived.Lib.Builder
import Derived.Lib.UnsafeStr
import Derived.Shelf.Strings.OnBuilder
import Derived.Lib.Overlaps
import Derived.Lib.Walk
import Derived.BigCall
import Derived.BigGuard
import Derived.Shelf.RegionOpenPlain
import Derived.Lib.Zigzag
set_option linter.unusedVariables false
set_option linter.unusedSimpArgs false
set_option maxHeartbeats 1000000
set_option maxRecDepth 100000
namespace Go.Proofs.YtpeihknododmlaaGreatDoor
open Go.RowKit
def Ext(w w':World):Prop:=Below w.heap.size w w'
theorem Ext.below{a b:World}(h:Ext a b):Below a.heap.size a b:=h
def At(w:World)(A:Option Addr)(vs:List Value):Prop:=vs≠[]→∃b o,A=some ⟨b,o,none⟩∧w.rangeAt b o vs
theorem At.elim{w:World}{A:Option Addr}{vs:List Value}(h:At w A vs)(hn:vs≠[]):∃b o,A=some ⟨b,o,none⟩∧w.rangeAt b o vs:=h hn
theorem At.mk{w:World}{A:Option Addr}{vs:List Value}(h:vs≠[]→∃b o,A=some ⟨b,o,none⟩∧w.rangeAt b o vs):At w A vs:=h
theorem At.nil(w:World)(A:Option Addr):At w A []:=fun h=>absurd rfl h
theorem rangeAt.take{w:World}{b o:Nat}{vs:List Value}(h:w.rangeAt b o vs)(k:Nat):w.rangeAt b o (vs.take k):=fun j v hv=>by
 rw[List.getElem?_take]at hv
 split at hv
 ·exact h _ v hv
 ·cases hv
theorem At.take{w:World}{A:Option Addr}{vs:List Value}(h:At w A vs)(k:Nat):At w A (vs.take k):=fun hn=>by
 have h0:vs≠[]:=by rintro rfl;simp at hn
 obtain⟨b,o,rfl,hr⟩:=h h0;exact⟨b,o,rfl,rangeAt.take hr k⟩
theorem At.cell{w:World}{A:Option Addr}{vs:List Value}(h:At w A vs){j:Nat}{v:Value}(hv:vs[j]? = some v):∃b o,A=some ⟨b,o,none⟩∧w.cell? ⟨b,o+j,none⟩=some v:=by
 have hn:vs≠[]:=by rintro rfl;simp at hv
 obtain⟨b,o,rfl,hr⟩:=h hn;exact⟨b,o,rfl,hr j v hv⟩
theorem At.add{w:World}{ad:Addr}{vs:List Value}(h:At w (some ad) vs):∀j u,vs[j]? = some u→w.cell? (ad.add j)=some u:=fun j u hu=>by
 obtain⟨b,o,e,hc⟩:=h.cell hu;injection e with e
 subst e;rw[Addr.add_mid];exact hc
theorem WG{w:World}{base:Nat}{e:TypeId}{size:Nat}{A:Option Addr}{n c:Nat}{vs:List Value}(h:w.ownsRow base e size (.slice A n c) n vs):At w A vs:=fun hn=>by
 have h0:0<n:=by
  rcases Nat.eq_zero_or_pos n with h0|h0
  ·subst h0
   have:=h.1;simp at this;exact absurd this hn
  ·exact h0
 obtain⟨g,cap,hv,_,_⟩:=h.form h0;have hA:A=some ⟨g,0,none⟩:=by injection hv
 subst hA;refine⟨g,0,rfl,fun j v hv=>?_⟩;have:=h.cells (g:=g) rfl j v hv;rw[Addr.add_mid]at this;exact this
theorem DH{w:World}{base:Nat}{e:TypeId}{size:Nat}{v:Value}{n:Nat}{vs:List Value}(h:w.ownsRow base e size v n vs):∃A c,v = .slice A n c:=by
 rcases h.2 with⟨rfl,rfl⟩|⟨g,cap,cur,rfl,_⟩
 ·exact⟨_,_,rfl⟩
 ·exact⟨_,_,rfl⟩
structure El(P:Program)(t e:TypeId)(z:Value)(size bytes:Nat):Prop where
 under:P.underlying t=some (.slice e)
 info:∃i,P.info? e=some i∧i.zero=some z∧i.size=size∧i.bytes=bytes
 Dv:z.cells.size=size
 pos:0<size
section
variable {P:Program} (w:World)
theorem Sk{t e:TypeId}{z:Value}{size bytes:Nat}(E:El P t e z size bytes)(ty:TypeId)(base:Nat)
  (v:Value) (n:Nat) (xs:List Value) (BT:w.ownsRow base e size v n xs)
  (A:Option Addr) (m c:Nat) (news:List Value) (hl:news.length=m*size) (Jc:At w A news) (h1:∀u∈news,u.oneCell'=true)
  (afs:(n+m)*bytes≤140737488355328) (h63:n+m≤140737488355328) (ain:base≤w.heap.size) :
  ∃A' c' w',(Builtin.append_ #[t,t] ty #[v,.slice A m c]).run P w = .ok (.slice A' (n+m) c') w'∧w'.ownsRow base e size (.slice A' (n+m) c') (n+m) (xs++news)∧w.grownBy w' v.ownBlock ∧
   ((Value.slice A' (n+m) c').ownBlock=v.ownBlock∨(Value.slice A' (n+m) c').ownBlock=some w.heap.size):=by
 obtain⟨i,hi,hz,yQ,hby⟩:=E.info;rcases A with _|ad
 ·have hn:news = []:=by
   rcases List.eq_nil_or_concat news with h|⟨l,x,h⟩
   ·exact h
   ·obtain⟨b,o,h2,_⟩:=Jc (by rw[h];simp)
    cases h2
  subst hn
  have hm:m=0:=by
   have:=E.pos;rcases Nat.eq_zero_or_pos m with h|h
   ·exact h
   ·have h3:=Nat.mul_pos h E.pos
    simp at hl;omega
  subst hm;obtain⟨A',c',rfl⟩:=DH BT;refine⟨A',c',w,?_,by simpa using BT,World.grownBy.refl w _,.inl rfl⟩;rcases BT.2 with⟨h,rfl⟩|⟨g,cap,cur,h,_,_,hnc,_⟩
  ·injection h with hA _ hc
   subst hA hc;simp[Builtin.append_,run_underlying E.under,sizeOf,typeInfo,hi,Builtin.lenOf,Builtin.firstCells]
  ·injection h with hA _ hc
   subst hA hc;simp[Builtin.append_,run_underlying E.under,sizeOf,typeInfo,hi,Builtin.lenOf,Builtin.firstCells,hnc,storeCells]
 ·obtain⟨v',w',mw,h2,h3,_,h5⟩:=run_append_own_at (P:=P) w base t ty e i z size bytes E.under hi hz yQ hby E.Dv E.pos v n xs BT ad m c news hl Jc.add h1 (by unfold maxLen;omega) afs ain
  obtain⟨A',c',rfl⟩:=DH h2;exact⟨A',c',w',mw,h2,h3,h5⟩
end
section
variable {P:Program}
end
section
variable {P:Program}
end
theorem Ls(w:World)(base:Nat)(e:TypeId)(size:Nat):w.ownsRow base e size (.slice none 0 0) 0 []:=World.ownsRow_nil w base e size
attribute [irreducible] At
def lay(cur:Array Value)(o:Nat)(cs:List Value):Array Value:=(cur.toList.take o++cs++cur.toList.drop (o+cs.length)).toArray
theorem Yd{cur:Array Value}{o:Nat}{cs:List Value}(h:o+cs.length≤cur.size):(lay cur o cs).size=cur.size:=by
 simp[lay];omega
section
variable {P:Program}
end
attribute [irreducible] lay
end Go.Proofs.YtpeihknododmlaaGreatDoor
namespace Go.Proofs.YtpeihknododmlaaGreatDoor
def DR:List (Nat×Array Value):=[(7,#[.int .u8 0,.int .u8 1,.int .u8 28,.int .u8 2,.int .u8 29,.int .u8 14,.int .u8 24,.int .u8 3,.int .u8 30,.int .u8 22,.int .u8 20,.int .u8 15,.int .u8 25,.int .u8 17,.int .u8 4,.int .u8 8,.int .u8 31,.int .u8 27,.int .u8 13,.int .u8 23,.int .u8 21,.int .u8 19,.int .u8 16,.int .u8 7,.int .u8 26,.int .u8 12,.int .u8 18,.int .u8 6,.int .u8 11,.int .u8 5,.int .u8 10,.int .u8 9]),
 (8,#[.int .u8 0,.int .u8 1,.int .u8 56,.int .u8 2,.int .u8 57,.int .u8 49,.int .u8 28,.int .u8 3,.int .u8 61,.int .u8 58,.int .u8 42,.int .u8 50,.int .u8 38,.int .u8 29,.int .u8 17,.int .u8 4,.int .u8 62,.int .u8 47,.int .u8 59,.int .u8 36,.int .u8 45,.int .u8 43,.int .u8 51,.int .u8 22,.int .u8 53,.int .u8 39,.int .u8 33,.int .u8 30,.int .u8 24,.int .u8 18,.int .u8 12,.int .u8 5,.int .u8 63,.int .u8 55,.int .u8 48,.int .u8 27,.int .u8 60,.int .u8 41,.int .u8 37,.int .u8 16,.int .u8 46,.int .u8 35,.int .u8 44,.int .u8 21,.int .u8 52,.int .u8 32,.int .u8 23,.int .u8 11,.int .u8 54,.int .u8 26,.int .u8 40,.int .u8 15,.int .u8 34,.int .u8 20,.int .u8 31,.int .u8 10,.int .u8 25,.int .u8 14,.int .u8 19,.int .u8 9,.int .u8 13,.int .u8 8,.int .u8 7,.int .u8 6]),
 (4,#[.int .u64 1,.int .u64 10,.int .u64 100,.int .u64 1000,.int .u64 10000,.int .u64 100000,.int .u64 1000000,.int .u64 10000000,.int .u64 100000000,.int .u64 1000000000,.int .u64 10000000000,.int .u64 100000000000,.int .u64 1000000000000,.int .u64 10000000000000,.int .u64 100000000000000,.int .u64 1000000000000000,.int .u64 10000000000000000,.int .u64 100000000000000000,.int .u64 1000000000000000000,.int .u64 10000000000000000000]),
 (0,#[.int .u32 1116352408,.int .u32 1899447441,.int .u32 3049323471,.int .u32 3921009573,.int .u32 961987163,.int .u32 1508970993,.int .u32 2453635748,.int .u32 2870763221,.int .u32 3624381080,.int .u32 310598401,.int .u32 607225278,.int .u32 1426881987,.int .u32 1925078388,.int .u32 2162078206,.int .u32 2614888103,.int .u32 3248222580,.int .u32 3835390401,.int .u32 4022224774,.int .u32 264347078,.int .u32 604807628,.int .u32 770255983,.int .u32 1249150122,.int .u32 1555081692,.int .u32 1996064986,.int .u32 2554220882,.int .u32 2821834349,.int .u32 2952996808,.int .u32 3210313671,.int .u32 3336571891,.int .u32 3584528711,.int .u32 113926993,.int .u32 338241895,.int .u32 666307205,.int .u32 773529912,.int .u32 1294757372,.int .u32 1396182291,.int .u32 1695183700,.int .u32 1986661051,.int .u32 2177026350,.int .u32 2456956037,.int .u32 2730485921,.int .u32 2820302411,.int .u32 3259730800,.int .u32 3345764771,.int .u32 3516065817,.int .u32 3600352804,.int .u32 4094571909,.int .u32 275423344,.int .u32 430227734,.int .u32 506948616,.int .u32 659060556,.int .u32 883997877,.int .u32 958139571,.int .u32 1322822218,.int .u32 1537002063,.int .u32 1747873779,.int .u32 1955562222,.int .u32 2024104815,.int .u32 2227730452,.int .u32 2361852424,.int .u32 2428436474,.int .u32 2756734187,.int .u32 3204031479,.int .u32 3329325298]),
 (5,#[.string ⟨#[97,102,116,101,114]⟩,.string ⟨#[97,108,119,97,121,115]⟩,.string ⟨#[97,110,100]⟩,.string ⟨#[97,114,114,105,118,101,115]⟩,.string ⟨#[98,111,111,108]⟩,.string ⟨#[99,111,109,112,111,110,101,110,116]⟩,.string ⟨#[99,111,117,110,116]⟩,.string ⟨#[100,101,108,101,116,101]⟩,.string ⟨#[100,111]⟩,.string ⟨#[101,108,115,101]⟩,.string ⟨#[101,120,105,115,116,115]⟩,.string ⟨#[102,97,108,115,101]⟩,.string ⟨#[102,101,116,99,104]⟩,.string ⟨#[102,108,97,103]⟩,.string ⟨#[102,108,101,101,116]⟩,.string ⟨#[102,111,114,97,108,108]⟩,.string ⟨#[104,97,115]⟩,.string ⟨#[105,102]⟩,.string ⟨#[105,109,112,108,105,101,115]⟩,.string ⟨#[105,110]⟩,.string ⟨#[105,110,116]⟩,.string ⟨#[108,97,116,101,110,99,121]⟩,.string ⟨#[108,105,110,107]⟩,.string ⟨#[110,111,116]⟩,.string ⟨#[110,111,119]⟩,.string ⟨#[111,110]⟩,.string ⟨#[111,110,99,101]⟩,.string ⟨#[111,114]⟩,.string ⟨#[112,114,101,118,105,111,117,115]⟩,.string ⟨#[115,101,110,100]⟩,.string ⟨#[115,105,110,99,101]⟩,.string ⟨#[115,105,122,101]⟩,.string ⟨#[115,116,111,112]⟩,.string ⟨#[115,116,111,114,101]⟩,.string ⟨#[116,97,98,108,101]⟩,.string ⟨#[116,114,117,101]⟩,.string ⟨#[118,97,114]⟩,.string ⟨#[118,101,114,115,105,111,110]⟩,.string ⟨#[119,104,105,108,101]⟩]),
 (2,#[.string ⟨#[46,46]⟩,.string ⟨#[61,61]⟩,.string ⟨#[33,61]⟩,.string ⟨#[60,61]⟩,.string ⟨#[62,61]⟩,.string ⟨#[45,62]⟩,.string ⟨#[123]⟩,.string ⟨#[125]⟩,.string ⟨#[40]⟩,.string ⟨#[41]⟩,.string ⟨#[91]⟩,.string ⟨#[93]⟩,.string ⟨#[44]⟩,.string ⟨#[59]⟩,.string ⟨#[58]⟩,.string ⟨#[46]⟩,.string ⟨#[61]⟩,.string ⟨#[60]⟩,.string ⟨#[62]⟩,.string ⟨#[43]⟩,.string ⟨#[45]⟩,.string ⟨#[42]⟩,.string ⟨#[47]⟩,.string ⟨#[37]⟩,.string ⟨#[95]⟩]),
 (6,#[.int .i64 0,.bool false,.int .i64 0,.string ByteArray.empty,.int .i64 0,.bool false,.int .i64 7,.string ByteArray.empty,.int .i64 0,.bool false,.int .i64 7,.string ⟨#[116,114,117,101]⟩,.int .i64 0,.bool false,.int .i64 7,.string ⟨#[102,97,108,115,101]⟩,.int .i64 0,.bool false,.int .i64 7,.string ⟨#[110,111,119]⟩,.int .i64 0,.bool true,.int .i64 7,.string ByteArray.empty,.int .i64 1,.bool true,.int .i64 7,.string ByteArray.empty,.int .i64 1,.bool true,.int .i64 7,.string ⟨#[104,97,115,32]⟩,.int .i64 0,.bool true,.int .i64 7,.string ⟨#[115,105,122,101,32]⟩,.int .i64 1,.bool false,.int .i64 6,.string ⟨#[45]⟩,.int .i64 1,.bool false,.int .i64 6,.string ⟨#[110,111,116,32]⟩,.int .i64 2,.bool false,.int .i64 5,.string ⟨#[32,42,32]⟩,.int .i64 2,.bool false,.int .i64 5,.string ⟨#[32,47,32]⟩,.int .i64 2,.bool false,.int .i64 5,.string ⟨#[32,37,32]⟩,.int .i64 2,.bool false,.int .i64 4,.string ⟨#[32,43,32]⟩,.int .i64 2,.bool false,.int .i64 4,.string ⟨#[32,45,32]⟩,.int .i64 2,.bool false,.int .i64 3,.string ⟨#[32,61,61,32]⟩,.int .i64 2,.bool false,.int .i64 3,.string ⟨#[32,33,61,32]⟩,.int .i64 2,.bool false,.int .i64 3,.string ⟨#[32,60,32]⟩,.int .i64 2,.bool false,.int .i64 3,.string ⟨#[32,60,61,32]⟩,.int .i64 2,.bool false,.int .i64 3,.string ⟨#[32,62,32]⟩,.int .i64 2,.bool false,.int .i64 3,.string ⟨#[32,62,61,32]⟩,.int .i64 2,.bool false,.int .i64 2,.string ⟨#[32,97,110,100,32]⟩,.int .i64 2,.bool false,.int .i64 1,.string ⟨#[32,111,114,32]⟩]),
 (3,#[.bool false,.bool false,.int .i64 0,.int .i64 0,.bool false,.bool false,.bool true,.bool false,.int .i64 1,.int .i64 1,.bool false,.bool false,.bool true,.bool false,.int .i64 2,.int .i64 2,.bool false,.bool false,.bool true,.bool false,.int .i64 1,.int .i64 1,.bool false,.bool false,.bool false,.bool false,.int .i64 1,.int .i64 1,.bool true,.bool true,.bool false,.bool false,.int .i64 1,.int .i64 1,.bool true,.bool false,.bool true,.bool true,.int .i64 0,.int .i64 4,.bool false,.bool false,.bool false,.bool true,.int .i64 1,.int .i64 5,.bool false,.bool false,.bool false,.bool false,.int .i64 2,.int .i64 2,.bool false,.bool true,.bool true,.bool false,.int .i64 1,.int .i64 1,.bool false,.bool true,.bool false,.bool false,.int .i64 0,.int .i64 0,.bool false,.bool false]),
 (1,#[.string ByteArray.empty,.string ByteArray.empty,.int .i64 0,.int .i64 0,.string ⟨#[99,111,110,115,116]⟩,.string ⟨#[78]⟩,.int .i64 0,.int .i64 1,.string ⟨#[118,97,114]⟩,.string ⟨#[65]⟩,.int .i64 0,.int .i64 1,.string ⟨#[112,97,114,97,109]⟩,.string ⟨#[65]⟩,.int .i64 0,.int .i64 1,.string ⟨#[102,108,97,103]⟩,.string ⟨#[65]⟩,.int .i64 0,.int .i64 1,.string ⟨#[110,111,119]⟩,.string ByteArray.empty,.int .i64 0,.int .i64 1,.string ⟨#[103,101,116]⟩,.string ⟨#[65]⟩,.int .i64 1,.int .i64 1,.string ⟨#[104,97,115]⟩,.string ⟨#[65]⟩,.int .i64 1,.int .i64 1,.string ⟨#[115,105,122,101]⟩,.string ⟨#[65]⟩,.int .i64 0,.int .i64 1,.string ⟨#[110,101,103]⟩,.string ByteArray.empty,.int .i64 1,.int .i64 1,.string ⟨#[110,111,116]⟩,.string ByteArray.empty,.int .i64 1,.int .i64 1,.string ⟨#[109,117,108]⟩,.string ByteArray.empty,.int .i64 2,.int .i64 1,.string ⟨#[100,105,118]⟩,.string ByteArray.empty,.int .i64 2,.int .i64 1,.string ⟨#[109,111,100]⟩,.string ByteArray.empty,.int .i64 2,.int .i64 1,.string ⟨#[97,100,100]⟩,.string ByteArray.empty,.int .i64 2,.int .i64 1,.string ⟨#[115,117,98]⟩,.string ByteArray.empty,.int .i64 2,.int .i64 1,.string ⟨#[101,113]⟩,.string ByteArray.empty,.int .i64 2,.int .i64 1,.string ⟨#[110,101]⟩,.string ByteArray.empty,.int .i64 2,.int .i64 1,.string ⟨#[108,116]⟩,.string ByteArray.empty,.int .i64 2,.int .i64 1,.string ⟨#[108,101]⟩,.string ByteArray.empty,.int .i64 2,.int .i64 1,.string ⟨#[103,116]⟩,.string ByteArray.empty,.int .i64 2,.int .i64 1,.string ⟨#[103,101]⟩,.string ByteArray.empty,.int .i64 2,.int .i64 1,.string ⟨#[97,110,100]⟩,.string ByteArray.empty,.int .i64 2,.int .i64 1,.string ⟨#[111,114]⟩,.string ByteArray.empty,.int .i64 2,.int .i64 1,.string ⟨#[115,101,116,118,97,114]⟩,.string ⟨#[65]⟩,.int .i64 1,.int .i64 0,.string ⟨#[112,117,116]⟩,.string ⟨#[65]⟩,.int .i64 2,.int .i64 0,.string ⟨#[100,101,108,101,116,101]⟩,.string ⟨#[65]⟩,.int .i64 1,.int .i64 0,.string ⟨#[106,117,109,112]⟩,.string ⟨#[65]⟩,.int .i64 0,.int .i64 0,.string ⟨#[98,114,97,110,99,104]⟩,.string ⟨#[65]⟩,.int .i64 1,.int .i64 0,.string ⟨#[99,111,115,116]⟩,.string ByteArray.empty,.int .i64 0,.int .i64 0,.string ⟨#[115,101,110,100]⟩,.string ⟨#[65,66,78]⟩,.int .i64 0,.int .i64 0,.string ⟨#[97,102,116,101,114]⟩,.string ⟨#[66,78]⟩,.int .i64 1,.int .i64 0,.string ⟨#[115,116,111,114,101]⟩,.string ⟨#[66]⟩,.int .i64 2,.int .i64 0,.string ⟨#[102,101,116,99,104]⟩,.string ⟨#[65,66]⟩,.int .i64 1,.int .i64 0,.string ⟨#[115,116,111,112]⟩,.string ByteArray.empty,.int .i64 0,.int .i64 0])]
end Go.Proofs.YtpeihknododmlaaGreatDoor
/-! ### part A -/
/-
 My engine,part A: abstract data,how values and worlds hold them,states,and how a world's step keeps them. Over any program.
-/
namespace Go.Proofs.YtpeihknododmlaaGreatDoor
open Go.RowKit
inductive DV where
 |int (k:IntKind) (n:Int)
 |bool (b:Bool)
 |str (s:ByteArray)
 |val (v:Value)
 |bq
 |agg (ds:List DV)
 |gW (ds:List DV)
 |sl (sz:Nat) (eC:List DV)
 |jA (ds:List DV)
 |ref (id off:Nat)
 |row (id:Nat)
 |rp (id i sz o:Nat)
 |Ii (id off n:Nat)
 |Ew (b:Bool) (d:DV)
 |Dh (f:FuncId) (ds:List DV)
 |fs (sz:Nat) (eC:List DV)
 |sp (id i sz o:Nat)
 |rv (id lo n sz:Nat)
 |np (id off:Nat)
abbrev dI:=Nat→Option (Array Value)
abbrev fc:=Nat→Option Value
def fc.no:fc:=fun _=>none
def aii(A:Option Addr)(n c:Nat):Prop:=(A=none→n=0∧c=0)∧n≤c∧c≤9223372036854775807
mutual
def Rs(F:dI)(γ:fc):DV→Value→Prop
 |.int k n,v=>v = .int k n
 |.bool b,v=>v = .bool b
 |.str s,v=>v = .string s
 |.val x,v=>v=x
 |.bq,v=>v = .slice none 0 0
 |.agg ds,v=>∃cs,v = .agg cs∧fG F γ ds cs.toList
 |.gW ds,v=>∃cs,v = .tuple cs∧sM F γ ds cs.toList
 |.sl sz eC,v=>∃A c,v = .slice A eC.length c∧aii A eC.length c ∧
   (eC≠[]→∃b o cs vs rest,A=some ⟨b,o,none⟩∧F b=some cs∧cs.toList.drop o=vs++rest∧mT F sz eC vs)
 |.jA ds,v=>∃b o cs vs rest,v = .pointer (some ⟨b,o,none⟩)∧F b=some cs∧cs.toList.drop o=vs++rest∧fG F fc.no ds vs
 |.ref id off,v=>∃b,γ id=some (.pointer (some ⟨b,0,none⟩))∧v = .pointer (some ⟨b,off,none⟩)
 |.row id,v=>γ id=some v
 |.rp id i sz o,v=>∃b n c,γ id=some (.slice (some ⟨b,0,none⟩) n c)∧v = .pointer (some ⟨b,i*sz+o,none⟩)
 |.Ii id off n,v=>∃b c,γ id=some (.pointer (some ⟨b,0,none⟩))∧v = .slice (some ⟨b,off,none⟩) n c∧n≤c
 |.Ew g d,v=>(g=true→Rs F γ d v)∧(g=false→v=undef)
 |.Dh f ds,v=>∃cs,v = .func (.func f) #[] cs∧sM F γ ds cs.toList
 |.sp id i sz o,v=>∃b off n c,γ id=some (.slice (some ⟨b,off,none⟩) n c)∧v = .pointer (some ⟨b,off+i*sz+o,none⟩)
 |.rv id lo n sz,v=>∃A k c,γ id=some (.slice A k c)∧v = .slice (if c-lo=0 then A else A.map (·.add (lo*sz))) n (c-lo)∧lo+n≤c
 |.np id off,v=>v = .pointer none∨∃b,γ id=some (.pointer (some ⟨b,0,none⟩))∧v = .pointer (some ⟨b,off,none⟩)
 |.fs sz eC,v=>∃A,v = .slice A eC.length eC.length∧aii A eC.length eC.length ∧
   (eC≠[]→∃b o cs vs rest,A=some ⟨b,o,none⟩∧F b=some cs∧cs.toList.drop o=vs++rest∧mT F sz eC vs)
def fG(F:dI)(γ:fc):List DV→List Value→Prop
 |[],vs=>vs = []
 |d::ds,vs=>∃v rest,vs=v::rest∧v.oneCell'=true∧Rs F γ d v∧fG F γ ds rest
def sM(F:dI)(γ:fc):List DV→List Value→Prop
 |[],vs=>vs = []
 |d::ds,vs=>∃v rest,vs=v::rest∧Rs F γ d v∧sM F γ ds rest
def mT(F:dI)(sz:Nat):List DV→List Value→Prop
 |[],vs=>vs = []
 |d::ds,vs=>∃v rest,vs=v.cells.toList++rest∧v.cells.size=sz∧(∀u∈v.cells.toList,u.oneCell'=true)∧Rs F fc.no d v∧mT F sz ds rest
end
def sd(F F':dI):Prop:=∀b cs,F b=some cs→F' b=some cs
def rM(γ γ':fc):Prop:=∀i g,γ i=some g→γ' i=some g
theorem sd.refl(F:dI):sd F F:=fun _ _ h=>h
theorem sd.trans{a b c:dI}(h:sd a b)(k:sd b c):sd a c:=fun _ _ x=>k _ _ (h _ _ x)
theorem rM.refl(γ:fc):rM γ γ:=fun _ _ h=>h
theorem rM.trans{a b c:fc}(h:rM a b)(k:rM b c):rM a c:=fun _ _ x=>k _ _ (h _ _ x)
theorem rM.no(γ:fc):rM fc.no γ:=fun _ _ h=>by cases h
mutual
theorem Rs.mono{F F':dI}{γ γ':fc}(hF:sd F F')(hg:rM γ γ'):∀(d:DV) (v:Value),Rs F γ d v→Rs F' γ' d v
 |.int k n,v,h=>by simp only[Rs]at h ⊢;exact h
 |.bool b,v,h=>by simp only[Rs]at h ⊢;exact h
 |.str s,v,h=>by simp only[Rs]at h ⊢;exact h
 |.val x,v,h=>by simp only[Rs]at h ⊢;exact h
 |.bq,v,h=>by simp only[Rs]at h ⊢;exact h
 |.agg ds,v,h=>by simp only[Rs]at h ⊢;obtain⟨cs,rfl,h⟩:=h;exact⟨cs,rfl,fG.mono hF hg ds _ h⟩
 |.gW ds,v,h=>by simp only[Rs]at h ⊢;obtain⟨cs,rfl,h⟩:=h;exact⟨cs,rfl,sM.mono hF hg ds _ h⟩
 |.sl sz eC,v,h=>by
  simp only[Rs]at h ⊢;obtain⟨A,c,rfl,hs,h⟩:=h;refine⟨A,c,rfl,hs,fun pQ=>?_⟩;obtain⟨b,o,cs,vs,rest,h1,h2,h3,h4⟩:=h pQ;exact⟨b,o,cs,vs,rest,h1,hF _ _ h2,h3,mT.mono hF eC _ h4⟩
 |.jA ds,v,h=>by
  simp only[Rs]at h ⊢;obtain⟨b,o,cs,vs,rest,h1,h2,h3,h4⟩:=h;exact⟨b,o,cs,vs,rest,h1,hF _ _ h2,h3,fG.mono hF (rM.refl _) ds _ h4⟩
 |.ref id off,v,h=>by simp only[Rs]at h ⊢;obtain⟨b,h1,h2⟩:=h;exact⟨b,hg _ _ h1,h2⟩
 |.row id,v,h=>by simp only[Rs]at h ⊢;exact hg _ _ h
 |.rp id i sz o,v,h=>by simp only[Rs]at h ⊢;obtain⟨b,n,c,h1,h2⟩:=h;exact⟨b,n,c,hg _ _ h1,h2⟩
 |.Ii id off n,v,h=>by simp only[Rs]at h ⊢;obtain⟨b,c,h1,h2⟩:=h;exact⟨b,c,hg _ _ h1,h2⟩
 |.Ew g d,v,h=>by simp only[Rs]at h ⊢;exact⟨fun e=>Rs.mono hF hg d v (h.1 e),h.2⟩
 |.Dh f ds,v,h=>by simp only[Rs]at h ⊢;obtain⟨cs,rfl,h⟩:=h;exact⟨cs,rfl,sM.mono hF hg ds _ h⟩
 |.sp id i sz o,v,h=>by simp only[Rs]at h ⊢;obtain⟨b,off,n,c,h1,h2⟩:=h;exact⟨b,off,n,c,hg _ _ h1,h2⟩
 |.rv id lo n sz,v,h=>by simp only[Rs]at h ⊢;obtain⟨A,k,c,h1,h2⟩:=h;exact⟨A,k,c,hg _ _ h1,h2⟩
 |.np id off,v,h=>by simp only[Rs]at h ⊢;rcases h with h|⟨b,h1,h2⟩;exact .inl h;exact .inr ⟨b,hg _ _ h1,h2⟩
 |.fs sz eC,v,h=>by
  simp only[Rs]at h ⊢;obtain⟨A,rfl,hs,h⟩:=h;refine⟨A,rfl,hs,fun pQ=>?_⟩;obtain⟨b,o,cs,vs,rest,h1,h2,h3,h4⟩:=h pQ;exact⟨b,o,cs,vs,rest,h1,hF _ _ h2,h3,mT.mono hF eC _ h4⟩
theorem fG.mono{F F':dI}{γ γ':fc}(hF:sd F F')(hg:rM γ γ'):∀(ds:List DV) (vs:List Value),fG F γ ds vs→fG F' γ' ds vs
 |[],vs,h=>by simp only[fG]at h ⊢;exact h
 |d::ds,vs,h=>by
  simp only[fG]at h ⊢;obtain⟨v,rest,h1,h2,h3,h4⟩:=h;exact⟨v,rest,h1,h2,Rs.mono hF hg d v h3,fG.mono hF hg ds _ h4⟩
theorem sM.mono{F F':dI}{γ γ':fc}(hF:sd F F')(hg:rM γ γ'):∀(ds:List DV) (vs:List Value),sM F γ ds vs→sM F' γ' ds vs
 |[],vs,h=>by simp only[sM]at h ⊢;exact h
 |d::ds,vs,h=>by
  simp only[sM]at h ⊢;obtain⟨v,rest,h1,h3,h4⟩:=h;exact⟨v,rest,h1,Rs.mono hF hg d v h3,sM.mono hF hg ds _ h4⟩
theorem mT.mono{F F':dI}(hF:sd F F'){sz:Nat}:∀(ds:List DV) (vs:List Value),mT F sz ds vs→mT F' sz ds vs
 |[],vs,h=>by simp only[mT]at h ⊢;exact h
 |d::ds,vs,h=>by
  simp only[mT]at h ⊢;obtain⟨v,rest,h1,h2,h3,h4,h5⟩:=h;exact⟨v,rest,h1,h2,h3,Rs.mono hF (rM.refl _) d v h4,mT.mono hF ds _ h5⟩
end
def DV.one:DV→Bool
 |.agg _ | .gW _ | .Ew _ _=>false
 |.val x=>x.oneCell'
 |_=>true
theorem Rs.one{F:dI}{γ:fc}{d:DV}{v:Value}(h:Rs F γ d v)(hw:∀id g,γ id=some g→g.oneCell'=true)(ho:d.one=true):v.oneCell'=true:=by
 cases d <;> simp only[Rs,DV.one]at h ho <;> try (cases ho)
 ·rw[h];rfl
 ·rw[h];rfl
 ·rw[h];rfl
 ·rw[h];exact ho
 ·rw[h];rfl
 ·obtain⟨A,c,rfl,_⟩:=h;rfl
 ·obtain⟨b,o,cs,vs,rest,rfl,_⟩:=h;rfl
 ·obtain⟨b,_,rfl⟩:=h;rfl
 ·exact hw _ _ h
 ·obtain⟨b,n,c,_,rfl⟩:=h;rfl
 ·obtain⟨b,c,_,rfl,_⟩:=h;rfl
 ·obtain⟨cs,rfl,_⟩:=h;rfl
 ·obtain⟨A,rfl,_⟩:=h;rfl
 ·obtain⟨b,off,n,c,_,rfl⟩:=h;rfl
 ·obtain⟨A,k,c,_,rfl,_⟩:=h;rfl
 ·rcases h with rfl|⟨b,_,rfl⟩ <;> rfl
def DV.cs:DV→List DV
 |.agg ds=>ds
 |d=>[d]
theorem wP{v:Value}(h:v.oneCell'=true):v.cells = #[v]:=by
 cases v <;> first|rfl|(simp[Value.oneCell']at h)
theorem fG.len{F:dI}{γ:fc}:∀{ds:List DV} {vs:List Value},fG F γ ds vs→vs.length=ds.length
 |[],vs,h=>by simp only[fG]at h;rw[h];rfl
 |d::ds,vs,h=>by
  simp only[fG]at h;obtain⟨v,rest,rfl,_,_,h⟩:=h;simp[fG.len h]
theorem fG.get{F:dI}{γ:fc}:∀{ds:List DV} {vs:List Value} {i:Nat} {d:DV},fG F γ ds vs→ds[i]? = some d→∃v,vs[i]? = some v∧v.oneCell'=true∧Rs F γ d v
 |[],vs,i,d,h,hi=>by simp at hi
 |d0::ds,vs,0,d,h,hi=>by
  simp only[fG]at h;obtain⟨v,rest,rfl,h1,h2,h⟩:=h;simp at hi;subst hi;exact⟨v,rfl,h1,h2⟩
 |d0::ds,vs,i+1,d,h,hi=>by
  simp only[fG]at h;obtain⟨v,rest,rfl,h1,h2,h⟩:=h;simpa using fG.get h (by simpa using hi)
theorem CO{F:dI}{γ:fc}:∀{ds:List DV} {vs:List Value},vs.length=ds.length→(∀(i:Nat) (d:DV),ds[i]? = some d→∃v,vs[i]? = some v∧v.oneCell'=true∧Rs F γ d v)→fG F γ ds vs
 |[],vs,hl,_=>by simp only[fG];exact List.eq_nil_of_length_eq_zero hl
 |d::ds,[],hl,_=>by simp at hl
 |d::ds,v::vs,hl,h=>by
  simp only[fG];obtain⟨v',h1,h2,h3⟩:=h 0 d rfl;simp at h1;subst h1;exact⟨v,vs,rfl,h2,h3,CO (by simpa using hl) (fun i d hi=>by simpa using h (i+1) d (by simpa using hi))⟩
theorem fG.one{F:dI}{γ:fc}{ds:List DV}{vs:List Value}(h:fG F γ ds vs):∀u∈vs,u.oneCell'=true:=by
 intro u hu;obtain⟨i,hi⟩:=List.mem_iff_getElem?.1 hu
 have pE:i<ds.length:=by
  rw[←h.len];rcases Nat.lt_or_ge i vs.length with h|h
  ·exact h
  ·rw[List.getElem?_eq_none h]at hi;cases hi
 obtain⟨v,h1,h2,_⟩:=h.get (List.getElem?_eq_getElem pE);rw[hi]at h1;injection h1 with h1;rw[h1];exact h2
theorem fG.take{F:dI}{γ:fc}{ds:List DV}{vs:List Value}(h:fG F γ ds vs)(n:Nat):fG F γ (ds.take n) (vs.take n) :=
 CO (by simp[h.len]) (fun i d hi=>by
  rw[List.getElem?_take]at hi ⊢
  split at hi
  ·rename_i pE;simpa [pE]using h.get hi
  ·cases hi)
theorem fG.drop{F:dI}{γ:fc}{ds:List DV}{vs:List Value}(h:fG F γ ds vs)(n:Nat):fG F γ (ds.drop n) (vs.drop n) :=
 CO (by simp[h.len]) (fun i d hi=>by
  rw[List.getElem?_drop]at hi ⊢;exact h.get hi)
theorem fG.append{F:dI}{γ:fc}{ds es:List DV}{vs us:List Value}(h:fG F γ ds vs)(k:fG F γ es us):fG F γ (ds++es) (vs++us) :=
 CO (by simp[h.len,k.len]) (fun i d hi=>by
  rw[List.getElem?_append]at hi ⊢;rw[h.len]
  split at hi
  ·rename_i pE;rw[if_pos pE];exact h.get hi
  ·rename_i pE;rw[if_neg pE];exact k.get hi)
theorem GI{F:dI}{γ:fc}{d:DV}{v:Value}(h:Rs F γ d v)(ho:v.oneCell'=true):fG F γ [d] [v]:=by
 simp only[fG];exact⟨v,[],rfl,ho,h,rfl⟩
theorem DV.LQ{d:DV}(h:d.one=true):d.cs = [d]:=by cases d <;> first|rfl|(simp[DV.one]at h)
def FX(γ:fc):Prop:=∀id g,γ id=some g→g.oneCell'=true
theorem FX.no:FX fc.no:=fun _ _ h=>by cases h
def DV.flat:DV→Bool
 |.agg _=>true
 |d=>d.one
theorem Bs{F:dI}{γ:fc}{d:DV}{v:Value}(h:Rs F γ d v)(hw:FX γ)(hd:d.flat=true):fG F γ d.cs v.cells.toList:=by
 by_cases ho:d.one=true
 ·have:=h.one hw ho
  rw[DV.LQ ho,wP this];exact GI h this
 ·cases d with
  |agg ds=>
   simp only[Rs]at h;obtain⟨cs,rfl,h⟩:=h;exact h
  |_=>exact absurd hd ho
theorem mT.len{F:dI}{sz:Nat}:∀{ds:List DV} {vs:List Value},mT F sz ds vs→vs.length=ds.length*sz
 |[],vs,h=>by simp only[mT]at h;rw[h];simp
 |d::ds,vs,h=>by
  simp only[mT]at h;obtain⟨v,rest,rfl,h1,_,_,h⟩:=h;rw[List.length_append,mT.len h,List.length_cons,Array.length_toList,h1,Nat.succ_mul];omega
theorem mT.get{F:dI}{sz:Nat}:∀{ds:List DV} {vs:List Value} {i:Nat} {d:DV},mT F sz ds vs→ds[i]? = some d →
  ∃v:Value,(vs.drop (i*sz)).take sz=v.cells.toList∧v.cells.size=sz∧(∀u∈v.cells.toList,u.oneCell'=true)∧Rs F fc.no d v
 |[],vs,i,d,h,hi=>by simp at hi
 |d0::ds,vs,0,d,h,hi=>by
  simp only[mT]at h;obtain⟨v,rest,rfl,h1,h2,h3,h⟩:=h;simp at hi;subst hi;refine⟨v,?_,h1,h2,h3⟩;rw[Nat.zero_mul,List.drop_zero,List.take_append_of_le_length (by simp[h1]),List.take_of_length_le (by simp[h1])]
 |d0::ds,vs,i+1,d,h,hi=>by
  simp only[mT]at h;obtain⟨v,rest,rfl,h1,h2,h3,h⟩:=h;obtain⟨v',k1,k2⟩:=mT.get h (i:=i) (d:=d) (by simpa using hi);refine⟨v',?_,k2⟩
  have:(v.cells.toList++rest).drop ((i+1)*sz)=rest.drop (i*sz):=by
   rw[List.drop_append,List.drop_of_length_le (by simp[h1,Nat.succ_mul])];simp[h1,Nat.succ_mul]
  rw[this];exact k1
theorem mT.append{F:dI}{sz:Nat}:∀{ds es:List DV} {vs us:List Value},mT F sz ds vs→mT F sz es us→mT F sz (ds++es) (vs++us)
 |[],es,vs,us,h,k=>by simp only[mT]at h;rw[h];exact k
 |d::ds,es,vs,us,h,k=>by
  simp only[mT]at h;obtain⟨v,rest,rfl,h1,h2,h3,h⟩:=h;simp only[List.cons_append,mT];exact⟨v,rest++us,by simp,h1,h2,h3,mT.append h k⟩
theorem WD{F:dI}{sz:Nat}{d:DV}{v:Value}(h1:v.cells.size=sz)(h2:∀u∈v.cells.toList,u.oneCell'=true)(h:Rs F fc.no d v):mT F sz [d] v.cells.toList:=by
 simp only[mT];exact⟨v,[],by simp,h1,h2,h,rfl⟩
theorem mT.drop{F:dI}{sz:Nat}:∀{ds:List DV} {vs:List Value} (n:Nat),mT F sz ds vs→mT F sz (ds.drop n) (vs.drop (n*sz))
 |ds,vs,0,h=>by simpa using h
 |[],vs,n+1,h=>by simp only[mT]at h;rw[h];simp[mT]
 |d::ds,vs,n+1,h=>by
  simp only[mT]at h;obtain⟨v,rest,rfl,h1,h2,h3,h⟩:=h
  have:(v.cells.toList++rest).drop ((n+1)*sz)=rest.drop (n*sz):=by
   rw[List.drop_append,List.drop_of_length_le (by simp[h1,Nat.succ_mul])];simp[h1,Nat.succ_mul]
  rw[this];exact mT.drop n h
theorem mT.take{F:dI}{sz:Nat}:∀{ds:List DV} {vs:List Value} (n:Nat),mT F sz ds vs→mT F sz (ds.take n) (vs.take (n*sz))
 |ds,vs,0,h=>by simp[mT]
 |[],vs,n+1,h=>by simp only[mT]at h;rw[h];simp[mT]
 |d::ds,vs,n+1,h=>by
  simp only[mT]at h;obtain⟨v,rest,rfl,h1,h2,h3,h⟩:=h
  have:(v.cells.toList++rest).take ((n+1)*sz)=v.cells.toList++rest.take (n*sz):=by
   rw[List.take_append,List.take_of_length_le (by simp[h1,Nat.succ_mul])];simp[h1,Nat.succ_mul]
  rw[this];simp only[List.take_succ_cons,mT];exact⟨v,_,rfl,h1,h2,h3,mT.take n h⟩
theorem mT.one{F:dI}{sz:Nat}:∀{ds:List DV} {vs:List Value},mT F sz ds vs→∀u∈vs,u.oneCell'=true
 |[],vs,h=>by simp only[mT]at h;rw[h];simp
 |d::ds,vs,h=>by
  simp only[mT]at h;obtain⟨v,rest,rfl,h1,h2,h3,h⟩:=h;intro u hu;rcases List.mem_append.1 hu with hu|hu
  ·exact h2 u hu
  ·exact mT.one h u hu
theorem mT.set{F:dI}{sz:Nat}{ds:List DV}{vs:List Value}(h:mT F sz ds vs){i:Nat}(hi:i<ds.length){d:DV}{v:Value}(h1:v.cells.size=sz)(h2:∀u∈v.cells.toList,u.oneCell'=true)(hd:Rs F fc.no d v) :
  mT F sz (ds.set i d) (vs.take (i*sz)++v.cells.toList++vs.drop ((i+1)*sz)):=by
 have e:ds.set i d=ds.take i++[d]++ds.drop (i+1):=by
  rw[List.set_eq_take_append_cons_drop,if_pos hi];simp
 rw[e];exact((h.take i).append (WD h1 h2 hd)).append (h.drop (i+1))
end Go.Proofs.YtpeihknododmlaaGreatDoor
/-! ### part B -/
/-
 My engine,part B: states,what a world must hold for them,and how the steps of a world keep them.
-/
namespace Go.Proofs.YtpeihknododmlaaGreatDoor
open Go.RowKit
inductive HE where
 |bC (T:TypeId) (ds:List DV)
 |row (E:TypeId) (sz:Nat) (eC:List DV)
 |obj (o:Obj)
 |mp (l:List (DV×DV))
 |PL (E:TypeId) (sz:Nat) (eC:List DV)
 |it (BU n:Nat) (seen:List Nat)
def Bg(F:dI):List (DV×DV)→List MapEntry→Prop
 |[],es=>es = []
 |x::l,es=>∃e r,es=e::r∧Rs F fc.no x.1 e.key∧Rs F fc.no x.2 e.val∧Bg F l r
theorem Bg.mono{F F':dI}(hF:sd F F'):∀{l:List (DV×DV)} {es:List MapEntry},Bg F l es→Bg F' l es
 |[],es,h=>h
 |x::l,es,h=>by
  obtain⟨e,r,h1,h2,h3,h4⟩:=h;exact⟨e,r,h1,Rs.mono hF (rM.refl _) _ _ h2,Rs.mono hF (rM.refl _) _ _ h3,Bg.mono hF h4⟩
def yK(es:Array MapEntry)(ck:Nat):Prop:=ck=es.size∧∀(i:Nat) (e:MapEntry),es[i]? = some e→e.born=i
def eU:Value→Option Nat
 |.pointer (some a)=>some a.block
 |.slice (some a) _ _=>some a.block
 |.map (some b)=>some b
 |_=>none
def Cv(F:dI)(γ:fc)(w:World):HE→Value→Prop
 |.bC T ds,g=>∃b cs,g = .pointer (some ⟨b,0,none⟩)∧w.heap[b]? = some (.cells cs T (0,0))∧fG F γ ds cs.toList
 |.row E sz eC,g=>∃vs,w.ownsRow 0 E sz g eC.length vs∧mT F sz eC vs
 |.obj o,g=>∃b,g = .pointer (some ⟨b,0,none⟩)∧w.heap[b]? = some o
 |.PL E sz eC,g=>(g = .slice none 0 0∧eC = [])∨∃b off c cur,g = .slice (some ⟨b,off,none⟩) eC.length c∧w.heap[b]? = some (.cells cur E (0,0))∧eC.length≤c∧c≤maxLen∧off+c*sz≤cur.size∧mT F sz eC ((cur.toList.drop off).take (eC.length*sz))
 |.mp l,g=>∃b es ck,g = .map (some b)∧w.heap[b]? = some (.map es ck)∧Bg F l es.toList∧yK es ck
 |.it BU n seen,g=>∃b bm,g = .pointer (some ⟨b,0,none⟩)∧γ BU=some (.map (some bm))∧w.heap[b]? = some (.mapIter (some bm) n seen.toArray n)
theorem Cv.mono{F F':dI}{γ γ':fc}{w:World}{e:HE}{g:Value}(hF:sd F F')(hg:rM γ γ')(h:Cv F γ w e g):Cv F' γ' w e g:=by
 cases e with
 |bC T ds=>obtain⟨b,cs,h1,h2,h3⟩:=h;exact⟨b,cs,h1,h2,h3.mono hF hg⟩
 |row E sz eC=>obtain⟨vs,h1,h2⟩:=h;exact⟨vs,h1,h2.mono hF⟩
 |obj o=>exact h
 |mp l=>obtain⟨b,es,ck,h1,h2,h3,h4⟩:=h;exact⟨b,es,ck,h1,h2,h3.mono hF,h4⟩
 |PL E sz eC=>
  rcases h with h|⟨b,off,c,cur,h1,h2,h3,h4,h5,h6⟩
  ·exact .inl h
  ·exact .inr ⟨b,off,c,cur,h1,h2,h3,h4,h5,h6.mono hF⟩
 |it BU n seen=>obtain⟨b,bm,h1,h2,h3⟩:=h;exact⟨b,bm,h1,hg _ _ h2,h3⟩
theorem wW{w:World}{base:Nat}{E:TypeId}{sz:Nat}{g:Value}{n:Nat}{vs:List Value}(h:w.ownsRow base E sz g n vs):eU g=g.ownBlock:=by
 rcases h.2 with⟨rfl,_⟩|⟨b,cap,cur,rfl,_⟩ <;> rfl
theorem Cv.lt{F:dI}{γ:fc}{w:World}{e:HE}{g:Value}(h:Cv F γ w e g):∀b,eU g=some b→b<w.heap.size:=by
 intro b hb;cases e with
 |bC T ds=>
  obtain⟨b',cs,rfl,h2,h3⟩:=h;simp[eU]at hb;subst hb;exact(Array.getElem?_eq_some_iff.1 h2).1
 |row E sz eC=>
  obtain⟨vs,h1,h2⟩:=h;rw[wW h1]at hb;exact(h1.lt b hb).2
 |obj o=>
  obtain⟨b',rfl,h2⟩:=h;simp[eU]at hb;subst hb;exact(Array.getElem?_eq_some_iff.1 h2).1
 |mp l=>
  obtain⟨b',es,ck,rfl,h2,h3⟩:=h;simp[eU]at hb;subst hb;exact(Array.getElem?_eq_some_iff.1 h2).1
 |PL E sz eC=>
  rcases h with⟨rfl,_⟩|⟨b',off,c,cur,rfl,h2,_⟩
  ·simp[eU]at hb
  ·simp[eU]at hb;subst hb
   exact(Array.getElem?_eq_some_iff.1 h2).1
 |it BU n seen=>
  obtain⟨b',bm,rfl,h2,h3⟩:=h;simp[eU]at hb;subst hb;exact(Array.getElem?_eq_some_iff.1 h3).1
theorem Cv.one{F:dI}{γ:fc}{w:World}{e:HE}{g:Value}(h:Cv F γ w e g):g.oneCell'=true:=by
 cases e with
 |bC T ds=>obtain⟨b',cs,rfl,h2,h3⟩:=h;rfl
 |row E sz eC=>
  obtain⟨vs,h1,h2⟩:=h;rcases h1.2 with⟨rfl,_⟩|⟨b,cap,cur,rfl,_⟩ <;> rfl
 |obj o=>obtain⟨b',rfl,h2⟩:=h;rfl
 |mp l=>obtain⟨b',es,ck,rfl,h2,h3⟩:=h;rfl
 |PL E sz eC=>rcases h with⟨rfl,_⟩|⟨b',off,c,cur,rfl,_⟩ <;> rfl
 |it BU n seen=>obtain⟨b',bm,rfl,_⟩:=h;rfl
theorem Cv.kept{F:dI}{γ:fc}{w w':World}{e:HE}{g:Value}(h:Cv F γ w e g)(hk:∀b,eU g=some b→w'.heap[b]? = w.heap[b]?):Cv F γ w' e g:=by
 cases e with
 |bC T ds=>
  obtain⟨b',cs,rfl,h2,h3⟩:=h;exact⟨b',cs,rfl,(hk b' rfl).trans h2,h3⟩
 |row E sz eC=>
  obtain⟨vs,h1,h2⟩:=h;refine⟨vs,⟨h1.1,?_⟩,h2⟩;rcases h1.2 with h|⟨b,cap,cur,rfl,r1,r2,r3⟩
  ·exact .inl h
  ·exact .inr ⟨b,cap,cur,rfl,r1,(hk b rfl).trans r2,r3⟩
 |obj o=>
  obtain⟨b',rfl,h2⟩:=h;exact⟨b',rfl,(hk b' rfl).trans h2⟩
 |mp l=>
  obtain⟨b',es,ck,rfl,h2,h3⟩:=h;exact⟨b',es,ck,rfl,(hk b' rfl).trans h2,h3⟩
 |PL E sz eC=>
  rcases h with h|⟨b',off,c,cur,rfl,h2,h3⟩
  ·exact .inl h
  ·exact .inr ⟨b',off,c,cur,rfl,(hk b' rfl).trans h2,h3⟩
 |it BU n seen=>
  obtain⟨b',bm,rfl,h2,h3⟩:=h;exact⟨b',bm,rfl,h2,(hk b' rfl).trans h3⟩
def look{α:Type}:List (Nat×α)→Nat→Option α
 |[],_=>none
 |(k,x)::r,n=>match Nat.beq k n with
  |true=>some x
  |false=>look r n
abbrev eY:=List (Nat×Option HE)
def cB(h:eY)(id:Nat):Option HE:=match look h id with
 |some (some e)=>some e
 |_=>none
theorem eW{α:Type}(k:Nat)(x:α)(r:List (Nat×α))(n:Nat):look ((k,x)::r) n=if k=n then some x else look r n:=by
 by_cases h:k=n
 ·subst h;simp[look]
 ·have:Nat.beq k n=false:=by rw[Bool.eq_false_iff];intro e;exact h (Nat.eq_of_beq_eq_true e)
  rw[look,if_neg h,this]
theorem dj(k:Nat)(x:Option HE)(r:eY)(n:Nat):cB ((k,x)::r) n=if k=n then x else cB r n:=by
 unfold cB;rw[eW]
 by_cases h:k=n
 ·simp[h];cases x <;> rfl
 ·simp[h]
def Tbs(F:dI):Prop:=∀g cs,look DR g=some cs→F g=some cs
theorem Tbs.mono{F F':dI}(h:Tbs F)(hF:sd F F'):Tbs F':=fun g cs hb=>hF g _ (h g cs hb)
theorem aeU{g:Nat}{cs:Array Value}(h:look DR g=some cs):∀v∈cs.toList,v.oneCell'=true:=by
 have key:DR.all (fun p=>p.2.toList.all Value.oneCell')=true:=by kernel_rfl
 have go:∀l:List (Nat×Array Value),l.all (fun p=>p.2.toList.all Value.oneCell')=true→look l g=some cs→∀v∈cs.toList,v.oneCell'=true:=by
  intro l
  induction l with
  |nil=>intro _ h;cases h
  |cons p l ih=>
   intro ha hl;simp only[List.all_cons,Bool.and_eq_true]at ha;rw[show look (p::l) g=if p.1=g then some p.2 else look l g from eW p.1 p.2 l g]at hl
   split at hl
   ·injection hl with hl;subst hl
    exact List.all_eq_true.1 ha.1
   ·exact ih ha.2 hl
 exact go _ key h
structure Ctx where
 w0:World
 T:Nat→Prop
 F0:dI
 n:Nat
 G0:fc
 ro:Option Nat
 defs:List Deferred
def FW(r:Option Nat):Fence:={ Fence.wide with round:=r }
theorem aci{P:Program}{r:Option Nat}{n:Nat}{f:FuncId}{args:Array Value}{w:World}{R:Ending→World→Prop}(h:Calls P f args w R):CallsIn (FW r) n P f args w R:=by
 cases r with
 |none=>exact callsIn_wide.2 h
 |some l=>exact(callsIn_wide (n:=n)).2 h
theorem wI{P:Program}{r:Option Nat}{o:Oper}{a:Act}{w w':World}{K:Act→World→Prop}{Q:Exit→Act→World→Prop}{f:FuncId}{args:Array Value}(hd:∀c,o.op≠.defer c)(h:(execOp a.eval o).run P w = .ok (.enter f args) w')
  (k:Calls P f args w' fun e w''=>∃v,e = .returned v∧K (a.put o.dst v) w''):o.wpIn (FW r) 0 P a w K Q:=by
 refine⟨fun _ _=>trivial,?_⟩;rw[Oper.semAt_eq _ _ _ hd,h];refine⟨fun h=>by simp[FW,Fence.wide]at h,aci (k.mono ?_)⟩;rintro e w'' ⟨v,rfl,hk⟩;exact hk
theorem jW{P:Program}{r:Option Nat}{o:Oper}{a:Act}{w w':World}{K:Act→World→Prop}{Q:Exit→Act→World→Prop}{v:Value}(h:(execOp a.eval o).run P w = .ok (.value v) w')
  (k:K (a.put o.dst v) w'):o.wpIn (FW r) 0 P a w K Q:=by
 refine⟨fun _ _=>trivial,?_⟩
 by_cases hd:∃c,o.op = .defer c
 ·obtain⟨c,hc⟩:=hd
  simp only[execOp,hc]at h;cases hr:(resolve a.eval c o.type).run P w with
  |ok d w1=>simp[Sem.run_bind,hr,Result.andThen]at h
  |halt x w1=>simp[Sem.run_bind,hr,Result.andThen]at h
 ·rw[Oper.semAt_eq _ _ _ (fun c hc=>hd ⟨c,hc⟩),h]
  exact k
theorem KN{P:Program}{r:Option Nat}{o:Oper}{a:Act}{w w':World}{K:Act→World→Prop}{Q:Exit→Act→World→Prop}(h:(execOp a.eval o).run P w = .ok .skip w')
  (k:K (a.put o.dst undef) w'):o.wpIn (FW r) 0 P a w K Q:=by
 refine⟨fun _ _=>trivial,?_⟩
 by_cases hd:∃c,o.op = .defer c
 ·obtain⟨c,hc⟩:=hd
  simp only[execOp,hc]at h;cases hr:(resolve a.eval c o.type).run P w with
  |ok d w1=>simp[Sem.run_bind,hr,Result.andThen]at h
  |halt x w1=>simp[Sem.run_bind,hr,Result.andThen]at h
 ·rw[Oper.semAt_eq _ _ _ (fun c hc=>hd ⟨c,hc⟩),h]
  exact k
structure WS(C:Ctx)(F:dI)(γ:fc)(h:eY)(used:List Nat)(w:World):Prop where
 uB:∀id e,cB h id=some e→∃g,γ id=some g∧Cv F γ w e g
 own:∀id e g b,cB h id=some e→γ id=some g→eU g=some b→F b=none∧(C.T b∨C.w0.heap.size≤b)
 apart:∀id yd e e' g g' b,cB h id=some e→cB h yd=some e'→γ id=some g→γ yd=some g'→eU g=some b→eU g'=some b→id=yd
 fs:∀b cs,F b=some cs→∃t fz,w.heap[b]? = some (.cells cs t fz)
 f0:sd C.F0 F
 vR:∀b cs,F b=some cs→C.F0 b=some cs∨C.T b∨C.w0.heap.size≤b
 os:w.os=C.w0.os
 tape:w.tape=C.w0.tape
 output:w.output=C.w0.output
 size:C.w0.heap.size≤w.heap.size
 uw:∀b,b<C.w0.heap.size→¬C.T b→w.heap[b]? = C.w0.heap[b]?
 us:∀id g,γ id=some g→id∈used
 gone:FX γ
 g0:rM C.G0 γ
 gk:∀id g,C.G0 id=some g→100000≤id
 kn:Tbs C.F0
structure vf(w w':World)(t:Option Nat):Prop where
 os:w'.os=w.os
 tape:w'.tape=w.tape
 output:w'.output=w.output
 size:w.heap.size≤w'.heap.size
 block:∀k,k<w.heap.size→some k≠t→w'.heap[k]? = w.heap[k]?
theorem Qp{w w':World}{t:Option Nat}(h:w.grownBy w' t):vf w w' t:=⟨h.os,h.tape,h.output,h.size,h.block⟩
theorem vf.refl(w:World):vf w w none:=⟨rfl,rfl,rfl,Nat.le_refl _,fun _ _ _=>rfl⟩
theorem vf.drew(w:World):vf w w.drew none:=⟨rfl,rfl,rfl,Nat.le_refl _,fun _ _ _=>rfl⟩
theorem vf.alloc(w:World)(o:Obj):vf w (w.alloc o) none:=⟨rfl,rfl,rfl,by simp,fun k hk _=>Below.heap_alloc _ _ _ hk⟩
theorem vf.any{w w':World}{t:Option Nat}(h:vf w w' none):vf w w' t:=⟨h.os,h.tape,h.output,h.size,fun k hk _=>h.block k hk (by simp)⟩
theorem vf.trans{a b c:World}{t:Option Nat}(h:vf a b t)(k:vf b c t):vf a c t :=
 ⟨k.os.trans h.os,k.tape.trans h.tape,k.output.trans h.output,Nat.le_trans h.size k.size,fun i hi ht=>(k.block i (Nat.lt_of_lt_of_le hi h.size) ht).trans (h.block i hi ht)⟩
section
variable {C:Ctx} {F:dI} {γ:fc} {h:eY} {used:List Nat} {w w':World}
theorem WS.flt(H:WS C F γ h used w){b:Nat}{cs:Array Value}(hb:F b=some cs):b<w.heap.size:=by
 obtain⟨t,fz,h1⟩:=H.fs b cs hb;exact(Array.getElem?_eq_some_iff.1 h1).1
theorem WS.quiet(H:WS C F γ h used w)(S:vf w w' none):WS C F γ h used w' where
 uB:=fun id e hi=>by
  obtain⟨g,h1,h2⟩:=H.uB id e hi;exact⟨g,h1,h2.kept fun b hb=>S.block b (h2.lt b hb) (by simp)⟩
 own:=H.own
 apart:=H.apart
 fs:=fun b cs hb=>by
  obtain⟨t,fz,h1⟩:=H.fs b cs hb;exact⟨t,fz,(S.block b (H.flt hb) (by simp)).trans h1⟩
 f0:=H.f0
 vR:=H.vR
 os:=S.os.trans H.os
 tape:=S.tape.trans H.tape
 output:=S.output.trans H.output
 size:=Nat.le_trans H.size S.size
 uw:=fun b hb ht=>(S.block b (Nat.lt_of_lt_of_le hb H.size) (by simp)).trans (H.uw b hb ht)
 us:=H.us
 gone:=H.gone
 g0:=H.g0
 gk:=H.gk
 kn:=H.kn
theorem WS.forget(H:WS C F γ h used w)(id0:Nat):WS C F γ ((id0,none)::h) used w where
 uB:=fun id e hi=>by
  rw[dj]at hi
  split at hi
  ·cases hi
  ·exact H.uB id e hi
 own:=fun id e g b hi=>by
  rw[dj]at hi
  split at hi
  ·cases hi
  ·exact H.own id e g b hi
 apart:=fun id yd e e' g g' b hi Fk=>by
  rw[dj]at hi Fk
  split at hi
  ·cases hi
  ·split at Fk
   ·cases Fk
   ·exact H.apart id yd e e' g g' b hi Fk
 fs:=H.fs
 f0:=H.f0
 vR:=H.vR
 os:=H.os
 tape:=H.tape
 output:=H.output
 size:=H.size
 uw:=H.uw
 us:=H.us
 gone:=H.gone
 g0:=H.g0
 gk:=H.gk
 kn:=H.kn
theorem WS.FI(H:WS C F γ h used w){id0:Nat}{e0:HE}{g0:Value}(h0:cB h id0=some e0)(hg:γ id0=some g0)(S:vf w w' (eU g0)):WS C F γ ((id0,none)::h) used w' where
 uB:=fun id e hi=>by
  rw[dj]at hi
  split at hi
  ·cases hi
  ·rename_i pQ
   obtain⟨g,h1,h2⟩:=H.uB id e hi;refine⟨g,h1,h2.kept fun b hb=>S.block b (h2.lt b hb) (fun hs=>pQ ?_)⟩;exact H.apart id0 id e0 e g0 g b h0 hi hg h1 hs.symm hb
 own:=(H.forget id0).own
 apart:=(H.forget id0).apart
 fs:=fun b cs hb=>by
  obtain⟨t,fz,h1⟩:=H.fs b cs hb;refine⟨t,fz,(S.block b (H.flt hb) (fun hs=>?_)).trans h1⟩;have:=(H.own id0 e0 g0 b h0 hg hs.symm).1;rw[this]at hb;cases hb
 f0:=H.f0
 vR:=H.vR
 os:=S.os.trans H.os
 tape:=S.tape.trans H.tape
 output:=S.output.trans H.output
 size:=Nat.le_trans H.size S.size
 uw:=fun b hb ht=>by
  refine(S.block b (Nat.lt_of_lt_of_le hb H.size) (fun hs=>?_)).trans (H.uw b hb ht);rcases(H.own id0 e0 g0 b h0 hg hs.symm).2 with h|h
  ·exact ht h
  ·omega
 us:=H.us
 gone:=H.gone
 g0:=H.g0
 gk:=H.gk
 kn:=H.kn
theorem WS.put(H:WS C F γ h used w){id0:Nat}{e0:HE}{g0:Value}(hg:γ id0=some g0)(he:Cv F γ w e0 g0)
  (hb:∀b,eU g0=some b→F b=none∧(C.T b∨C.w0.heap.size≤b)∧∀id e g,id≠id0→cB h id=some e→γ id=some g→eU g≠some b):WS C F γ ((id0,some e0)::h) used w where
 uB:=fun id e hi=>by
  rw[dj]at hi
  split at hi
  ·rename_i e1;subst e1;injection hi with hi;subst hi;exact⟨g0,hg,he⟩
  ·exact H.uB id e hi
 own:=fun id e g b hi qi iO=>by
  rw[dj]at hi
  split at hi
  ·rename_i e1;subst e1
   rw[hg]at qi;injection qi with qi;subst qi
   exact⟨(hb b iO).1,(hb b iO).2.1⟩
  ·exact H.own id e g b hi qi iO
 apart:=fun id yd e e' g g' b hi Fk k k' kb kb'=>by
  rw[dj]at hi Fk
  split at hi
  ·rename_i e1;subst e1
   split at Fk
   ·assumption
   ·rename_i pQ
    rw[hg]at k;injection k with k;subst k
    exact absurd kb' ((hb b kb).2.2 yd e' g' (fun e=>pQ e.symm) Fk k')
  ·rename_i pQ
   split at Fk
   ·rename_i e1;subst e1
    rw[hg]at k';injection k' with k';subst k'
    exact absurd kb ((hb b kb').2.2 id e g (fun e=>pQ e.symm) hi k)
   ·exact H.apart id yd e e' g g' b hi Fk k k' kb kb'
 fs:=H.fs
 f0:=H.f0
 vR:=H.vR
 os:=H.os
 tape:=H.tape
 output:=H.output
 size:=H.size
 uw:=H.uw
 us:=H.us
 gone:=H.gone
 g0:=H.g0
 gk:=H.gk
 kn:=H.kn
def fc.up(γ:fc)(id:Nat)(g:Value):fc:=fun i=>if i=id then some g else γ i
theorem sS{γ:fc}{id:Nat}(g:Value)(h:γ id=none):rM γ (γ.up id g):=fun i g' hi=>by
 unfold fc.up
 split
 ·rename_i e;subst e;rw[h]at hi;cases hi
 ·exact hi
theorem WS.fresh(H:WS C F γ h used w){id:Nat}(hi:id ∉ used):γ id=none:=by
 cases hg:γ id with
 |none=>rfl
 |some g=>exact absurd (H.us id g hg) hi
theorem WS.name(H:WS C F γ h used w){id:Nat}(hi:id ∉ used)(g:Value)(ho:g.oneCell'=true):WS C F (γ.up id g) h (id::used) w:=by
 have hf:=H.fresh hi;have hle:=sS g hf
 have back:∀i e g',cB h i=some e→(γ.up id g) i=some g'→γ i=some g':=fun i e g' hh qi=>by
  obtain⟨g1,h1,_⟩:=H.uB i e hh;have:=hle _ _ h1;rw[this]at qi;rw[h1];exact qi
 exact {
  uB:=fun i e hh=>by obtain⟨g1,h1,h2⟩:=H.uB i e hh;exact⟨g1,hle _ _ h1,h2.mono (sd.refl _) hle⟩
  own:=fun i e g' b hh qi hb=>H.own i e g' b hh (back i e g' hh qi) hb
  apart:=fun i i' e e' g1 g2 b h1 h2 k1 k2=>H.apart i i' e e' g1 g2 b h1 h2 (back _ _ _ h1 k1) (back _ _ _ h2 k2)
  fs:=H.fs,f0:=H.f0,vR:=H.vR,os:=H.os,tape:=H.tape,output:=H.output,size:=H.size,uw:=H.uw
  us:=fun i g' hi=>by
   unfold fc.up at hi
   split at hi
   ·rename_i e;subst e;simp
   ·exact List.mem_cons_of_mem _ (H.us i g' hi)
  gone:=fun i g' hi=>by
   unfold fc.up at hi
   split at hi
   ·injection hi with hi;subst hi;exact ho
   ·exact H.gone i g' hi
  g0:=H.g0.trans hle
  gk:=H.gk,kn:=H.kn }
theorem vi(γ:fc)(id:Nat)(g:Value):γ.up id g id=some g:=by simp[fc.up]
theorem WS.add(H:WS C F γ h used w){id:Nat}(hi:id ∉ used){e0:HE}{g:Value}(he:Cv F γ w e0 g)
  (hb:∀b,eU g=some b→F b=none∧(C.T b∨C.w0.heap.size≤b)∧∀yd e' g',cB h yd=some e'→γ yd=some g'→eU g'≠some b) :
  WS C F (γ.up id g) ((id,some e0)::h) (id::used) w:=by
 have hf:=H.fresh hi;have hle:=sS g hf;refine(H.name hi g he.one).put (vi γ id g) (he.mono (sd.refl _) hle) (fun b iO=>⟨(hb b iO).1,(hb b iO).2.1,fun yd e' g' pQ hh qi=>?_⟩);refine(hb b iO).2.2 yd e' g' hh ?_;unfold fc.up at qi;rw[if_neg pQ]at qi;exact qi
theorem WS.Di(H:WS C F γ h used w){id:Nat}(hi:id ∉ used)(o:Obj){e0:HE}{g:Value}(hg:∀b,eU g=some b→b=w.heap.size)(he:Cv F γ (w.alloc o) e0 g) :
  WS C F (γ.up id g) ((id,some e0)::h) (id::used) (w.alloc o):=by
 have H':=H.quiet (vf.alloc w o);refine H'.add hi he (fun b hb=>?_);obtain rfl:=hg b hb;refine⟨?_,.inr H.size,fun yd e' g' hh qi iO=>?_⟩
 ·cases hF:F w.heap.size with
  |none=>rfl
  |some cs=>exact absurd (H.flt hF) (Nat.lt_irrefl _)
 ·obtain⟨g1,h1,h2⟩:=H.uB yd e' hh
  rw[qi]at h1;injection h1 with h1;subst h1
  exact absurd (h2.lt _ iO) (Nat.lt_irrefl _)
def dI.up(F:dI)(b:Nat)(cs:Array Value):dI:=fun i=>if i=b then some cs else F i
theorem GJ{F:dI}{b:Nat}(cs:Array Value)(h:F b=none):sd F (F.up b cs):=fun i g' hi=>by
 unfold dI.up
 split
 ·rename_i e;subst e;rw[h]at hi;cases hi
 ·exact hi
theorem WS.data(H:WS C F γ h used w){b:Nat}{cs:Array Value}{t:TypeId}{fz:Nat×Nat}(hb:w.heap[b]? = some (.cells cs t fz))(hF:F b=none)(hT:C.T b∨C.w0.heap.size≤b)
  (hn:∀id e g,cB h id=some e→γ id=some g→eU g≠some b):WS C (F.up b cs) γ h used w:=by
 have hle:=GJ cs hF
 exact {
  uB:=fun i e hh=>by obtain⟨g1,h1,h2⟩:=H.uB i e hh;exact⟨g1,h1,h2.mono hle (rM.refl _)⟩
  own:=fun i e g' b' hh qi iO=>by
   refine⟨?_,(H.own i e g' b' hh qi iO).2⟩;unfold dI.up
   split
   ·rename_i e1;subst e1;exact absurd iO (hn i e g' hh qi)
   ·exact(H.own i e g' b' hh qi iO).1
  apart:=H.apart
  fs:=fun b' cs' h'=>by
   unfold dI.up at h'
   split at h'
   ·rename_i e1;subst e1;injection h' with h';subst h';exact⟨t,fz,hb⟩
   ·exact H.fs b' cs' h'
  f0:=H.f0.trans hle
  vR:=fun b' cs' h'=>by
   unfold dI.up at h'
   split at h'
   ·rename_i e1;subst e1;exact .inr hT
   ·exact H.vR b' cs' h'
  os:=H.os,tape:=H.tape,output:=H.output,size:=H.size,uw:=H.uw,us:=H.us,gone:=H.gone,g0:=H.g0,gk:=H.gk,kn:=H.kn }
theorem WS.freeze(H:WS C F γ h used w){id:Nat}{E:TypeId}{sz:Nat}{eC:List DV}{g:Value}(hi:cB h id=some (.row E sz eC))(hg:γ id=some g) :
  ∃F',sd F F'∧WS C F' γ ((id,none)::h) used w∧Rs F' γ (.sl sz eC) g:=by
 obtain⟨g',qi,vs,ho,hE⟩:=H.uB id _ hi;rw[hg]at qi;injection qi with qi;subst qi
 have Mq:eC.length=0→eC = []:=List.eq_nil_of_length_eq_zero;rcases ho.2 with⟨rfl,hx⟩|⟨b,cap,cur,rfl,_,hh,hnc,r⟩
 ·refine⟨F,sd.refl _,H.forget id,?_⟩
  have:eC = []:=Mq hx;subst this;simp only[Rs];exact⟨none,0,rfl,⟨fun _=>⟨rfl,rfl⟩,Nat.le_refl _,by decide⟩,fun h=>absurd rfl h⟩
 ·have Gz:=H.own id _ _ b hi hg rfl
  refine⟨F.up b cur,GJ _ Gz.1,?_,?_⟩
  ·refine(H.forget id).data hh Gz.1 Gz.2 (fun yd e' g' sO qi iO=>?_)
   rw[dj]at sO
   split at sO
   ·cases sO
   ·rename_i pQ;exact pQ (H.apart id yd _ e' _ g' b hi sO hg qi rfl iO)
  ·simp only[Rs]
   refine⟨some ⟨b,0,none⟩,cap,rfl,⟨(fun h=>by cases h),hnc,by have:=r.1;unfold maxLen at this;exact this⟩,fun _=>⟨b,0,cur,vs,cur.toList.drop (eC.length*sz),rfl,by simp[dI.up],?_,hE.mono (GJ _ Gz.1)⟩⟩;rw[List.drop_zero,←r.2.2,List.take_append_drop]
end
end Go.Proofs.YtpeihknododmlaaGreatDoor
/-! ### part C -/
/-
 My engine,part C: states with their slots,the rule of one operation,regions in whatever order,code.
-/
namespace Go.Proofs.YtpeihknododmlaaGreatDoor
open Go.RowKit
structure AS where
 env:List (Nat×DV)
 heap:eY
 used:List Nat
structure zT where
 env:List (Nat×DV)
 heap:eY
 new:List Nat
def AS.app(σ:AS)(E:zT):AS:=⟨E.env++σ.env,E.heap++σ.heap,E.new++σ.used⟩
structure Sat(C:Ctx)(F:dI)(γ:fc)(σ:AS)(a:Act)(w:World):Prop where
 env:∀t d,look σ.env t=some d→t<C.n∧Rs F γ d (a.tmps.getD t undef)
 ws:WS C F γ σ.heap σ.used w
 size:a.tmps.size=C.n
 defers:a.defers=C.defs
theorem gz{α:Type}:∀(l r:List (Nat×α)) (n:Nat),look (l++r) n=(look l n).or (look r n)
 |[],r,n=>by simp[look]
 |(k,x)::l,r,n=>by
  rw[List.cons_append,eW,eW]
  by_cases h:k=n
  ·simp[h]
  ·simp[h,gz l r n]
theorem WS.congr{C:Ctx}{F:dI}{γ:fc}{h h':eY}{u u':List Nat}{w:World}(H:WS C F γ h u w)(hh:∀id e,cB h' id=some e→cB h id=some e)(hu:∀x∈u,x∈u'):WS C F γ h' u' w where
 uB:=fun id e hi=>H.uB id e (hh id e hi)
 own:=fun id e g b hi=>H.own id e g b (hh id e hi)
 apart:=fun id yd e e' g g' b hi Fk=>H.apart id yd e e' g g' b (hh _ _ hi) (hh _ _ Fk)
 fs:=H.fs
 f0:=H.f0
 vR:=H.vR
 os:=H.os
 tape:=H.tape
 output:=H.output
 size:=H.size
 uw:=H.uw
 us:=fun id g hi=>hu _ (H.us id g hi)
 gone:=H.gone
 g0:=H.g0
 gk:=H.gk
 kn:=H.kn
theorem Sat.congr{C:Ctx}{F:dI}{γ:fc}{σ σ':AS}{a:Act}{w:World}(H:Sat C F γ σ a w)(he:∀t d,look σ'.env t=some d→look σ.env t=some d)(hh:∀id e,cB σ'.heap id=some e→cB σ.heap id=some e)(hu:∀x∈σ.used,x∈σ'.used):Sat C F γ σ' a w :=
 ⟨fun t d ht=>H.env t d (he t d ht),H.ws.congr hh hu,H.size,H.defers⟩
def ox:Value→DV
 |.int k n=>.int k n
 |.bool b=>.bool b
 |.string s=>.str s
 |.slice none 0 0=>.bq
 |v=>.val v
theorem uK(F:dI)(γ:fc)(v:Value):Rs F γ (ox v) v:=by
 unfold ox
 split <;> simp only[Rs]
def ev(e:List (Nat×DV)):Operand→Option DV
 |.tmp t=>look e t
 |.const v=>some (ox v)
 |.func f=>some (.val (.func (.func f) #[] #[]))
 |.global g=>match look DR g with
  |some cs=>some (.jA (cs.toList.map ox))
  |none=>none
def tm:Operand→List Nat
 |.tmp t=>[t]
 |_=>[]
theorem Sat.ev{C:Ctx}{F:dI}{γ:fc}{σ:AS}{a:Act}{w:World}(H:Sat C F γ σ a w){x:Operand}{d:DV}(h:ev σ.env x=some d):Rs F γ d (a.eval x):=by
 cases x with
 |tmp t=>exact(H.env t d h).2
 |const v=>simp only[Proofs.YtpeihknododmlaaGreatDoor.ev]at h;injection h with h;subst h;exact uK _ _ _
 |func f=>simp only[Proofs.YtpeihknododmlaaGreatDoor.ev]at h;injection h with h;subst h;simp only[Rs];rfl
 |global g=>
  simp only[Proofs.YtpeihknododmlaaGreatDoor.ev]at h
  split at h
  ·rename_i cs hg
   injection h with h;subst h
   simp only[Rs];refine⟨g,0,cs,cs.toList,[],rfl,H.ws.f0 _ _ (H.ws.kn g cs hg),by simp,?_⟩;refine CO (by simp) (fun i d hd=>?_);rw[List.getElem?_map]at hd;cases hv:cs.toList[i]? with
   |none=>rw[hv]at hd;cases hd
   |some v=>
    rw[hv]at hd;simp only[Option.map_some,Option.some.injEq]at hd;subst hd;exact⟨v,rfl,aeU hg v (List.mem_of_getElem? hv),uK _ _ _⟩
  ·cases h
def du(P:Program)(ops:Array Oper)(o:Oper)(rt rh:List Nat)(σ:AS)(E:zT):Prop :=
 ∀(C:Ctx) (F:dI) (γ:fc) (σ':AS) (a:Act) (w:World),(∀t∈rt,look σ'.env t=look σ.env t)→(∀id∈rh,cB σ'.heap id=cB σ.heap id)→(∀id∈E.new,id ∉ σ'.used) →
  (∀d,o.dst=some d→d<C.n)→Sat C F γ σ' a w →
  ∀(K:Act→World→Prop) (Q:Exit→Act→World→Prop),(∀F' γ' a' w',sd F F'→Sat C F' γ' (σ'.app E) a' w'→K a' w') →
   if Region.wanted o (yielded ops a.tmps)then o.wpIn (FW C.ro) 0 P a w K Q else K (a.put o.dst undef) w
structure Keys where
 rt:List Nat
 rh:List Nat
 wt:List Nat
 wh:List Nat
inductive Trace(P:Program)(ops:Array Oper):List Oper→AS→AS→List (Keys×zT)→Prop
 |nil (σ:AS):Trace P ops [] σ σ []
 |cons {o:Oper} {rest:List Oper} {σ σ':AS} {rt rh:List Nat} {E:zT} {ks:List (Keys×zT)} (h:du P ops o rt rh σ E) (t:Trace P ops rest (σ.app E) σ' ks):Trace P ops (o::rest) σ σ' ((⟨rt,rh,E.env.map (·.1),E.heap.map (·.1)⟩,E)::ks)
theorem tn{P:Program}{ops:Array Oper}{σ:AS}:Trace P ops [] σ σ []:=.nil σ
theorem tc{P:Program}{ops:Array Oper}{o:Oper}{rest:List Oper}{σ σ':AS}{rt rh:List Nat}{E:zT}{ks:List (Keys×zT)}(h:du P ops o rt rh σ E)(t:Trace P ops rest (σ.app E) σ' ks):Trace P ops (o::rest) σ σ' ((⟨rt,rh,E.env.map (·.1),E.heap.map (·.1)⟩,E)::ks):=.cons h t
theorem Trace.seq{P:Program}{ops:Array Oper}{C:Ctx}{Q:Exit→Act→World→Prop}:∀(l:List Oper) (i:Nat) (σ σ':AS) (ks:List (Keys×zT)),Trace P ops l σ σ' ks→(∀j o,l[j]? = some o→ops[i+j]? = some o) →
  (∀o∈l,∀d,o.dst=some d→d<C.n)→(∀k∈ks,∀id∈k.2.new,id ∉ σ.used)→(ks.Pairwise fun a b=>∀id∈b.2.new,id ∉ a.2.new) →
  ∀(F:dI) (γ:fc) (a:Act) (w:World),Sat C F γ σ a w→(∀F' γ' a' w',Sat C F' γ' σ' a' w'→Q .normal a' w')→wpOpsIn (FW C.ro) 0 P ops Q ((List.range l.length).map (i + ·)) a w:=by
 intro l
 induction l with
 |nil=>
  intro i σ σ' ks ht _ _ _ _ F γ a w hs hq;cases ht;exact hq F γ a w hs
 |cons o rest ih=>
  intro i σ σ' ks ht hops hn px hpw F γ a w hs hq;cases ht with
  |cons h t=>
   rename_i rt rh E ks
   have e:(List.range (o::rest).length).map (i + ·)=i::(List.range rest.length).map (i+1 + ·):=by
    rw[List.length_cons,List.range_succ_eq_map,List.map_cons,List.map_map]
    congr 1
    apply List.map_congr_left;intro x _;simp only[Function.comp];omega
   rw[e,wpOpsIn_cons];unfold wpOpIn;have ho:ops[i]? = some o:=by simpa using hops 0 o rfl
   rw[ho];have hE:∀id∈E.new,id ∉ σ.used:=px _ (List.mem_cons_self ..);have aio:=List.pairwise_cons.1 hpw;have key:=h C F γ σ a w (fun _ _=>rfl) (fun _ _=>rfl) hE (fun d hd=>hn o (List.mem_cons_self ..) d hd) hs (wpOpsIn (FW C.ro) 0 P ops Q ((List.range rest.length).map (i+1 + ·))) Q (fun F' γ' a' w' _ mm=>?_)
   ·simp only
    split
    ·rename_i hw;rw[if_pos hw]at key;exact key
    ·rename_i hw;rw[if_neg hw]at key;exact⟨fun _ _=>trivial,key⟩
   ·refine ih (i+1) (σ.app E) σ' ks t (fun j o' hj=>?_) (fun o' Gz=>hn o' (List.mem_cons_of_mem _ Gz)) (fun k hk id hid hm=>?_) aio.2 F' γ' a' w' mm hq
    ·have:=hops (j+1) o' (by simpa using hj)
     rw[←this];congr 1;omega
    ·rcases List.mem_append.1 hm with hm|hm
     ·exact aio.1 k hk id hid hm
     ·exact px k (List.mem_cons_of_mem _ hk) id hid hm
end Go.Proofs.YtpeihknododmlaaGreatDoor
/-! ### part D -/
/-
 My engine,part D: a region that draws its order ends in the state that the text's order gives.
-/
namespace Go.Proofs.YtpeihknododmlaaGreatDoor
open Go.RowKit
def ml{α:Type}:List (Nat×α)→List (List (Nat×α))→(Nat→Bool)→Nat→List (Nat×α)
 |b,[],_,_=>b
 |b,e::es,D,i=>ml (if D i=true then e++b else b) es D (i+1)
theorem zM{α:Type}:∀{l:List (Nat×α)} {t:Nat},t ∉ l.map (·.1)→look l t=none
 |[],_,_=>rfl
 |(k,x)::l,t,h=>by
  simp only[List.map_cons,List.mem_cons,not_or]at h;rw[eW,if_neg (fun e=>h.1 e.symm)];exact zM h.2
theorem uQ{α:Type}:∀{l:List (Nat×α)} {t:Nat},t∈l.map (·.1)→∃x,look l t=some x
 |[],_,h=>by cases h
 |(k,x)::l,t,h=>by
  rw[eW]
  by_cases e:k=t
  ·exact⟨x,by rw[if_pos e]⟩
  ·simp only[List.map_cons,List.mem_cons]at h
   rcases h with h|h
   ·exact absurd h.symm e
   ·rw[if_neg e];exact uQ h
theorem rz{α:Type}(t:Nat):∀(es:List (List (Nat×α))) (b b':List (Nat×α)) (D D':Nat→Bool) (i:Nat),look b t=look b' t →
  (∀j e,es[j]? = some e→t∈e.map (·.1)→D (i+j)=D' (i+j))→look (ml b es D i) t=look (ml b' es D' i) t
 |[],b,b',D,D',i,hb,_=>hb
 |e::es,b,b',D,D',i,hb,h=>by
  unfold ml;refine rz t es _ _ D D' (i+1) ?_ (fun j e' hj ht=>?_)
  ·by_cases ht:t∈e.map (·.1)
   ·have:=h 0 e rfl ht
    simp only[Nat.add_zero]at this;rw[this]
    split
    ·rw[gz,gz,hb]
    ·exact hb
   ·have hn:=zM ht
    split <;> split <;> simp[gz,hn,hb]
  ·have:=h (j+1) e' (by simpa using hj) ht
   rwa [Nat.add_right_comm,Nat.add_assoc]at *
theorem Al{α:Type}(t:Nat):∀(es:List (List (Nat×α))) (b:List (Nat×α)) (D:Nat→Bool) (i k:Nat) (e:List (Nat×α)),es[k]? = some e→t∈e.map (·.1)→D (i+k)=true →
  (∀j e',k<j→es[j]? = some e'→t∈e'.map (·.1)→D (i+j)=false)→look (ml b es D i) t=look e t
 |[],b,D,i,k,e,hk,_,_,_=>by simp at hk
 |e0::es,b,D,i,0,e,hk,ht,hd,h=>by
  simp only[List.getElem?_cons_zero,Option.some.injEq]at hk;subst hk;obtain⟨x,hx⟩:=uQ ht;unfold ml;simp only[Nat.add_zero]at hd;rw[if_pos hd]
  have:look (ml (e0++b) es D (i+1)) t=look (ml (e0++b) es (fun _=>false) (i+1)) t:=by
   refine rz t es _ _ _ _ _ rfl (fun j e' hj Mr=>?_);have:=h (j+1) e' (by omega) (by simpa using hj) Mr
   rwa [show i+(j+1)=i+1+j by omega]at this
  rw[this]
  have hno:∀(es:List (List (Nat×α))) (b:List (Nat×α)) (i:Nat),ml b es (fun _=>false) i=b:=by
   intro es
   induction es with
   |nil=>intros;rfl
   |cons e es ih=>intro b i;unfold ml;simp[ih]
  rw[hno,gz,hx];rfl
 |e0::es,b,D,i,k+1,e,hk,ht,hd,h=>by
  unfold ml;refine Al t es _ D (i+1) k e (by simpa using hk) ht (by rwa [show i+1+k=i+(k+1) by omega]) (fun j e' hj he Mr=>?_);have:=h (j+1) e' (by omega) (by simpa using he) Mr
  rwa [show i+(j+1)=i+1+j by omega]at this
def over(σ:AS)(es:List zT)(D:Nat→Bool):AS where
 env:=ml σ.env (es.map (·.env)) D 0
 heap:=ml σ.heap (es.map (·.heap)) D 0
 used:=σ.used++((List.range es.length).filter D).flatMap (fun i=>((es[i]?).map (·.new)).getD [])
theorem zL{σ:AS}{es:List zT}{D:Nat→Bool}{x:Nat}:x∈(over σ es D).used↔x∈σ.used∨∃i E,D i=true∧es[i]? = some E∧x∈E.new:=by
 simp only[over,List.mem_append,List.mem_flatMap,List.mem_filter,List.mem_range]
 constructor
 ·rintro(h|⟨i,⟨hi,hd⟩,hx⟩)
  ·exact .inl h
  ·rw[List.getElem?_eq_getElem hi]at hx
   exact .inr ⟨i,es[i],hd,List.getElem?_eq_getElem hi,by simpa using hx⟩
 ·rintro(h|⟨i,E,hd,he,hx⟩)
  ·exact .inl h
  ·have hi:i<es.length:=by
    rcases Nat.lt_or_ge i es.length with h|h
    ·exact h
    ·rw[List.getElem?_eq_none h]at he;cases he
   exact .inr ⟨i,⟨hi,hd⟩,by rw[he];exact hx⟩
theorem Trace.at{P:Program}{ops:Array Oper}:∀{l:List Oper} {σ σ':AS} {ks:List (Keys×zT)},Trace P ops l σ σ' ks→ks.length=l.length ∧
  (∀i o,l[i]? = some o→∃K E σi,ks[i]? = some (K,E)∧K.wt=E.env.map (·.1)∧K.wh=E.heap.map (·.1)∧du P ops o K.rt K.rh σi E ∧
   (∀t,look σi.env t=look (ml σ.env (ks.map (·.2.env)) (fun j=>decide (j<i)) 0) t)∧(∀t,look σi.heap t=look (ml σ.heap (ks.map (·.2.heap)) (fun j=>decide (j<i)) 0) t)) ∧
  (∀t,look σ'.env t=look (ml σ.env (ks.map (·.2.env)) (fun _=>true) 0) t)∧(∀t,look σ'.heap t=look (ml σ.heap (ks.map (·.2.heap)) (fun _=>true) 0) t) ∧
  (∀x,x∈σ'.used↔x∈σ.used∨∃k∈ks,x∈k.2.new):=by
 intro l
 induction l with
 |nil=>
  intro σ σ' ks h;cases h;exact⟨rfl,fun i o h=>by simp at h,fun _=>rfl,fun _=>rfl,by simp⟩
 |cons o rest ih=>
  intro σ σ' ks h;cases h with
  |cons h t=>
   rename_i rt rh E ks
   obtain⟨h1,h2,h3,h4,h5⟩:=ih t
   have shift:∀{α:Type} (es:List (List (Nat×α))) (b:List (Nat×α)) (D D':Nat→Bool) (i:Nat),(∀j,D (i+1+j)=D' (i+j))→ml b es D (i+1)=ml b es D' i:=by
    intro α es
    induction es with
    |nil=>intros;rfl
    |cons e es ih=>
     intro b D D' i hd;unfold ml;have:=hd 0;simp only[Nat.add_zero]at this;rw[this];exact ih _ _ _ _ (fun j=>by have:=hd (j+1);rwa [show i+1+(j+1)=i+1+1+j by omega,show i+(j+1)=i+1+j by omega]at this)
   have none:∀{α:Type} (es:List (List (Nat×α))) (b:List (Nat×α)) (D:Nat→Bool) (i:Nat),(∀j,D (i+j)=false)→ml b es D i=b:=by
    intro α es
    induction es with
    |nil=>intros;rfl
    |cons e es ih=>
     intro b D i hd;unfold ml;have:=hd 0;simp only[Nat.add_zero]at this;rw[this];simp only[Bool.false_eq_true,if_false];exact ih _ _ _ (fun j=>by have:=hd (j+1);rwa [show i+(j+1)=i+1+j by omega]at this)
   refine⟨by simp[h1],fun i o' hi=>?_,?_,?_,?_⟩
   ·cases i with
    |zero=>
     simp only[List.getElem?_cons_zero,Option.some.injEq]at hi;subst hi;refine⟨_,_,σ,rfl,rfl,rfl,h,fun t=>?_,fun t=>?_⟩
     ·rw[none _ _ _ _ (fun j=>by simp)]
     ·rw[none _ _ _ _ (fun j=>by simp)]
    |succ i=>
     obtain⟨K,E',σi,k1,k2,k3,k4,k5,k6⟩:=h2 i o' (by simpa using hi);refine⟨K,E',σi,by simpa using k1,k2,k3,k4,fun t=>?_,fun t=>?_⟩
     ·rw[k5 t,List.map_cons]
      conv=>rhs;unfold ml
      rw[if_pos (by simp),shift _ _ _ (fun j=>decide (j<i)) 0 (fun j=>by simp;omega)]
      rfl
     ·rw[k6 t,List.map_cons]
      conv=>rhs;unfold ml
      rw[if_pos (by simp),shift _ _ _ (fun j=>decide (j<i)) 0 (fun j=>by simp;omega)]
      rfl
   ·intro t
    rw[h3 t,List.map_cons]
    conv=>rhs;unfold ml
    rw[if_pos rfl,shift _ _ _ (fun _=>true) 0 (fun j=>rfl)]
    rfl
   ·intro t
    rw[h4 t,List.map_cons]
    conv=>rhs;unfold ml
    rw[if_pos rfl,shift _ _ _ (fun _=>true) 0 (fun j=>rfl)]
    rfl
   ·intro x
    rw[h5 x];simp only[AS.app,List.mem_append,List.mem_cons]
    constructor
    ·rintro((h|h)|⟨k,hk,hx⟩)
     ·exact .inr ⟨_,.inl rfl,h⟩
     ·exact .inl h
     ·exact .inr ⟨k,.inr hk,hx⟩
    ·rintro(h|⟨k,rfl|hk,hx⟩)
     ·exact .inl (.inr h)
     ·exact .inl (.inl hx)
     ·exact .inr ⟨k,hk,hx⟩
end Go.Proofs.YtpeihknododmlaaGreatDoor
/-! ### part E -/
/-
 My engine,part E: the region that draws its order; code.
-/
namespace Go.Proofs.YtpeihknododmlaaGreatDoor
open Go.RowKit
def OY(ops:Array Oper):Nat→List Nat
 |0=>[]
 |n+1=>let r:=OY ops n
  r++[((ops[n]?).map fun o=>o.after.toList.foldl (fun s e=>bif Region.binds .any e then s ||| 2^e.on ||| (r[e.on]?).getD 0 else s) 0).getD 0]
theorem Eb(ops:Array Oper)(n:Nat):(OY ops n).length=n:=by
 induction n with
 |zero=>rfl
 |succ n ih=>simp[OY,ih]
theorem JN{D:Nat→Bool}(f:Nat→Nat):∀(l:List Edge) (s:Nat),(∀i,s.testBit i=true→D i=true)→(∀e∈l,Region.binds .any e=true→D e.on=true∧∀i,(f e.on).testBit i=true→D i=true) →
  ∀i,(l.foldl (fun s e=>bif Region.binds .any e then s ||| 2^e.on ||| f e.on else s) s).testBit i=true→D i=true
 |[],s,hs,_,i,h=>hs i h
 |e::l,s,hs,hl,i,h=>by
  refine JN f l _ (fun j hj=>?_) (fun e' he'=>hl e' (List.mem_cons_of_mem _ he')) i h;dsimp only at hj;cases hb:Region.binds .any e
  ·rw[hb]at hj;exact hs j hj
  ·rw[hb]at hj
   simp only[cond_true,Nat.testBit_or,Bool.or_eq_true]at hj;obtain⟨k1,k2⟩:=hl e (List.mem_cons_self ..) hb;rcases hj with(hj|hj) | hj
   ·exact hs j hj
   ·rw[Nat.testBit_two_pow]at hj;simp at hj;subst hj;exact k1
   ·exact k2 j hj
def Zt(ops:Array Oper)(D:Nat→Bool):Prop:=∀i o,D i=true→ops[i]? = some o→∀e∈o.after,Region.binds .any e=true→D e.on=true
theorem Kn{ops:Array Oper}{D:Nat→Bool}(h:Zt ops D):∀(n j:Nat),D j=true→∀i,(((OY ops n)[j]?).getD 0).testBit i=true→D i=true:=by
 intro n
 induction n with
 |zero=>intro j _ i hi;simp[OY]at hi
 |succ n ih=>
  intro j hj i hi;simp only[OY]at hi
  by_cases pE:j<n
  ·rw[List.getElem?_append_left (by rw[Eb];exact pE)]at hi
   exact ih j hj i hi
  ·by_cases he:j=n
   ·subst he
    rw[List.getElem?_append_right (by rw[Eb];exact Nat.le_refl _),Eb,Nat.sub_self]at hi;simp only[List.getElem?_cons_zero,Option.getD_some]at hi;cases ho:ops[j]? with
    |none=>rw[ho]at hi;simp at hi
    |some o=>
     rw[ho]at hi;simp only[Option.map_some,Option.getD_some]at hi
     exact JN (D:=D) (fun k=>((OY ops j)[k]?).getD 0) o.after.toList 0 (by simp) (fun e hm hb=>by
      have:=h j o hj ho e (by simpa using hm) hb;exact⟨this,ih e.on this⟩) i hi
   ·rw[List.getElem?_eq_none (by simp[Eb];omega)]at hi
    simp at hi
def meets(a b:List Nat):Bool:=a.any fun x=>b.any fun y=>Nat.beq x y
theorem yt{a b:List Nat}{x:Nat}(ha:x∈a)(hb:x∈b):meets a b=true:=by
 unfold meets;rw[List.any_eq_true];exact⟨x,ha,List.any_eq_true.2 ⟨x,hb,by simp⟩⟩
def FE(a b:Keys):Bool:=meets a.wt (b.rt++b.wt)||meets a.rt b.wt||meets a.wh (b.rh++b.wh)||meets a.rh b.wh
def DG(bs:List Nat):List Keys→Nat→Bool
 |[],_=>true
 |k::ks,i=>(ks.zipIdx (i+1)).all (fun(k',j)=>!FE k k'||((bs[j]?).getD 0).testBit i)&&DG bs ks (i+1)
theorem DF(bs:List Nat):∀(ks:List Keys) (i0:Nat),DG bs ks i0=true→∀i j k k',i<j→ks[i]? = some k→ks[j]? = some k'→FE k k'=true→((bs[i0+j]?).getD 0).testBit (i0+i)=true
 |[],i0,h,i,j,k,k',Dn,hk,Ek,hc=>by simp at hk
 |k0::ks,i0,h,0,j,k,k',Dn,hk,Ek,hc=>by
  simp only[DG,Bool.and_eq_true,List.all_eq_true]at h;simp only[List.getElem?_cons_zero,Option.some.injEq]at hk;subst hk;obtain⟨j,rfl⟩:∃j',j=j'+1:=⟨j-1,by omega⟩
  have hm:(k',i0+1+j)∈ks.zipIdx (i0+1):=by
   rw[List.mk_mem_zipIdx_iff_le_and_getElem?_sub];exact⟨by omega,by simpa [Nat.add_sub_cancel_left]using Ek⟩
  have:=h.1 _ hm;simp only[hc,Bool.not_true,Bool.false_or]at this;rw[Nat.add_zero,show i0+(j+1)=i0+1+j by omega];exact this
 |k0::ks,i0,h,i+1,j,k,k',Dn,hk,Ek,hc=>by
  simp only[DG,Bool.and_eq_true]at h;obtain⟨j,rfl⟩:∃j',j=j'+1:=⟨j-1,by omega⟩;have:=DF bs ks (i0+1) h.2 i j k k' (by omega) (by simpa using hk) (by simpa using Ek) hc;rw[show i0+(j+1)=i0+1+j by omega,show i0+(i+1)=i0+1+i by omega];exact this
def SZ(ops:Array Oper):Bool:=ops.toList.zipIdx.all fun(o,i)=>o.after.toList.all fun e=>!Region.binds .any e||Nat.blt e.on i
def mJ(used:List Nat):List (List Nat)→Bool
 |[]=>true
 |n::ns=>n.all (fun x=>!(used.any fun y=>Nat.beq x y))&&mJ (n++used) ns
theorem BE:∀(ns:List (List Nat)) (used:List Nat),mJ used ns=true→(∀n∈ns,∀x∈n,x ∉ used)∧ns.Pairwise fun a b=>∀x∈b,x ∉ a
 |[],used,h=>by simp
 |n::ns,used,h=>by
  simp only[mJ,Bool.and_eq_true,List.all_eq_true]at h;obtain⟨h1,h2⟩:=BE ns (n++used) h.2
  have h0:∀x∈n,x ∉ used:=fun x hx hm=>by
   have:=h.1 x hx;simp only[Bool.not_eq_true',Bool.eq_false_iff]at this;exact this (List.any_eq_true.2 ⟨x,hm,by simp⟩)
  refine⟨fun m hm x hx=>?_,List.pairwise_cons.2 ⟨fun m hm x hx hn=>h1 m hm x hx (List.mem_append_left _ hn),h2⟩⟩;rcases List.mem_cons.1 hm with rfl|hm
  ·exact h0 x hx
  ·exact fun hu=>h1 m hm x hx (List.mem_append_right _ hu)
def zv(ops:Array Oper)(ks:List Keys):Bool:=SZ ops&&DG (OY ops ops.size) ks 0
def kx(i0:Nat)(K0:Keys)(j:Nat)(X:Keys×zT):Keys:=if j=i0 then⟨K0.rt,[],K0.wt,K0.wh⟩ else X.1
theorem du.same{P:Program}{ops:Array Oper}{o:Oper}{rt rh:List Nat}{σ σ1:AS}{E:zT}(h:du P ops o rt rh σ E)(h1:∀t∈rt,look σ1.env t=look σ.env t)(h2:∀id∈rh,look σ1.heap id=look σ.heap id):du P ops o rt rh σ1 E :=
 fun C F γ σ' a w g1 g2 g3 g4 hs=>h C F γ σ' a w (fun t ht=>(g1 t ht).trans (h1 t ht)) (fun id hid=>(g2 id hid).trans (by unfold cB;rw[h2 id hid])) g3 g4 hs
section
variable {P:Program} {ops:Array Oper} {C:Ctx} {σ σ':AS} {ks:List (Keys×zT)}
theorem JY(ht:Trace P ops ops.toList σ σ' ks){i0 j0:Nat}{K0 Kj:Keys}{E0 Ej:zT}(hsp:∀X,ks[i0]? = some X→X=(K0,E0)∧ks[j0]? = some (Kj,Ej)∧i0<j0)(hd:zv ops ((ks.map (·.1)).set i0 ⟨K0.rt,[],K0.wt,K0.wh⟩)=true)(hwr:∀id∈K0.rh,∀(j:Nat) k,ks[j]? = some k→id∈k.1.wh→j=j0)(hwj:∀id∈K0.rh,id∈Kj.wh)
  (halt:∀o σ1,ops[i0]? = some o→(∀t∈K0.rt,look σ1.env t=look (ml σ.env (ks.map (·.2.env)) (fun j=>decide (j<i0)) 0) t)→(∀id∈K0.rh,look σ1.heap id=look Ej.heap id)→du P ops o K0.rt K0.rh σ1 E0) (px:mJ σ.used (ks.map (·.2.new))=true) (hn:∀o∈ops.toList,∀d,o.dst=some d→d<C.n)
  {Q:Exit→Act→World→Prop} (hq:∀F' γ' a' w',Sat C F' γ' σ' a' w'→Q .normal a' w') :
  ∀(fuel:Nat) (L:Array Bool) (F:dI) (γ:fc) (a:Act) (w:World),L.size=ops.size→Zt ops (fun i=>L.getD i false)→(List.range ops.size).countP (fun i=>!L.getD i false)≤fuel →
   Sat C F γ (over σ (ks.map (·.2)) (fun i=>L.getD i false)) a w→wpAnyIn (FW C.ro) 0 P .any ops Q fuel L a w:=by
 obtain⟨t1,t2,t3,t4,t5⟩:=ht.at;obtain⟨n1,n2⟩:=BE _ _ px;simp only[zv,Bool.and_eq_true]at hd;have hp:=DF _ _ _ hd.2
 have adQ:∀i o,ops[i]? = some o→∀e∈o.after,Region.binds .any e=true→e.on<i:=by
  intro i o ho e he hb;have h:=hd.1;simp only[SZ,List.all_eq_true]at h
  have hm:(o,i)∈ops.toList.zipIdx:=by
   rw[List.mem_zipIdx_iff_getElem?];simpa using ho
  have:=h _ hm e (by simpa using he);simp only[hb,Bool.not_true,Bool.false_or]at this;exact Nat.blt_eq ▸ this
 -- all listed: the end
 have fin:∀(L:Array Bool) (F:dI) (γ:fc) (a:Act) (w:World),L.size=ops.size→Region.ready .any ops L = []→Zt ops (fun i=>L.getD i false)→Sat C F γ (over σ (ks.map (·.2)) (fun i=>L.getD i false)) a w→Q .normal a w:=by
  intro L F γ a w hL hr ZH hs
  have all:∀i,i<ops.size→L.getD i false=true:=by
   intro i
   induction i using Nat.strongRecOn with
   |_ i ih=>
    intro hi;rcases hb:L.getD i false with _|_
    ·exfalso
     have hm:i∈Region.ready .any ops L:=by
      rw[mem_ready];refine⟨?_,ops[i],Array.getElem?_eq_getElem hi,fun e he hbd=>?_⟩
      ·have hiL:i<L.size:=by omega
       simpa [Array.getD,hiL]using hb
      ·exact ih e.on (adQ i _ (Array.getElem?_eq_getElem hi) e he hbd) (Nat.lt_trans (adQ i _ (Array.getElem?_eq_getElem hi) e he hbd) hi)
     rw[hr]at hm;cases hm
    ·rfl
  refine hq F γ a w (hs.congr (fun t d h=>?_) (fun id e h=>?_) (fun x hx=>?_))
  ·rw[t3 t]at h
   rw[←h];simp only[over,List.map_map];refine rz t _ _ _ _ _ 0 rfl (fun j e hj _=>?_)
   have Dt:j<ks.length:=by
    rcases Nat.lt_or_ge j ks.length with h|h
    ·exact h
    ·rw[List.getElem?_eq_none (by simpa using h)]at hj;cases hj
   rw[Nat.zero_add];exact all j (by rw[t1]at Dt;simpa using Dt)
  ·unfold cB at h ⊢
   rw[t4 id]at h
   have:look (over σ (ks.map (·.2)) (fun i=>L.getD i false)).heap id=look (ml σ.heap (ks.map (·.2.heap)) (fun _=>true) 0) id:=by
    simp only[over,List.map_map];refine rz id _ _ _ _ _ 0 rfl (fun j e hj _=>?_)
    have Dt:j<ks.length:=by
     rcases Nat.lt_or_ge j ks.length with h|h
     ·exact h
     ·rw[List.getElem?_eq_none (by simpa using h)]at hj;cases hj
    rw[Nat.zero_add];exact all j (by rw[t1]at Dt;simpa using Dt)
   rw[this];exact h
  ·rw[t5 x]
   rcases zL.1 hx with h|⟨i,E,_,he,hx⟩
   ·exact .inl h
   ·rw[List.getElem?_map]at he
    cases hk:ks[i]? with
    |none=>rw[hk]at he;cases he
    |some k=>rw[hk]at he;injection he with he;subst he;exact .inr ⟨k,List.mem_of_getElem? hk,hx⟩
 intro fuel
 induction fuel with
 |zero=>
  intro L F γ a w hL ZH hc hs
  have hr:Region.ready .any ops L = []:=by
   rw[List.eq_nil_iff_forall_not_mem];intro i hi;rw[mem_ready]at hi;obtain⟨h1,o,ho,_⟩:=hi;have pE:i<ops.size:=(Array.getElem?_eq_some_iff.1 ho).1;have hz:(List.range ops.size).countP (fun i=>!L.getD i false)=0:=by omega
   rw[List.countP_eq_zero]at hz;have:=hz i (List.mem_range.2 pE);have hiL:i<L.size:=by omega
   simp[Array.getD,hiL]at this h1;rw[this]at h1;cases h1
  exact⟨hr,fin L F γ a w hL hr ZH hs⟩
 |succ fuel ih=>
  intro L F γ a w hL ZH hc hs;refine⟨fun hr=>fin L F γ a w hL hr ZH hs,fun i hi=>?_⟩;rw[mem_ready]at hi;obtain⟨hun,o,ho,aip⟩:=hi;have pE:i<ops.size:=(Array.getElem?_eq_some_iff.1 ho).1;have hiL:i<L.size:=by omega
  have hDi:L.getD i false=false:=by simpa [Array.getD,hiL]using hun
  have hol:ops.toList[i]? = some o:=by simpa using ho
  obtain⟨K,E,σi,k1,k2,k3,k4,k5,k6⟩:=t2 i o hol
  have hks:∀(j:Nat) X,ks[j]? = some X→((ks.map (·.1)).set i0 ⟨K0.rt,[],K0.wt,K0.wh⟩)[j]? = some (kx i0 K0 j X):=by
   intro j X hX;unfold kx;rw[List.getElem?_set];have hl:j<ks.length:=(List.getElem?_eq_some_iff.1 hX).1
   by_cases hji:i0=j
   ·rw[if_pos hji,if_pos hji.symm,if_pos (by rw[List.length_map];omega)]
   ·rw[if_neg hji,if_neg (fun h=>hji h.symm),List.getElem?_map,hX];rfl
  have adS:=hks i (K,E) k1
  have hrt:∀(j:Nat) (X:Keys×zT),ks[j]? = some X→(kx i0 K0 j X).rt=X.1.rt∧(kx i0 K0 j X).wt=X.1.wt∧(kx i0 K0 j X).wh=X.1.wh∧(j≠i0→(kx i0 K0 j X).rh=X.1.rh):=by
   intro j X hX;unfold kx
   by_cases hji:j=i0
   ·subst hji
    obtain⟨rfl,_⟩:=hsp _ hX;simp
   ·simp[hji]
  have c2:=hrt i (K,E) k1
  have Po:∀{j:Nat} {X:Keys×zT},ks[j]? = some X→∃K' E',X=(K',E')∧K'.wt=E'.env.map (·.1)∧K'.wh=E'.heap.map (·.1):=by
   intro j X hX
   have Dt:j<ops.toList.length:=by
    rw[←t1];rcases Nat.lt_or_ge j ks.length with h|h
    ·exact h
    ·rw[List.getElem?_eq_none h]at hX;cases hX
   obtain⟨K',E',_,q1,q2,q3,_⟩:=t2 j _ (List.getElem?_eq_getElem Dt);rw[hX]at q1;injection q1 with q1
   exact⟨K',E',q1,q2,q3⟩
  -- whoever clashes with i: earlier ones are done,later ones are not
  have early:∀j X,j<i→ks[j]? = some X→FE (kx i0 K0 j X) (kx i0 K0 i (K,E))=true→L.getD j false=true:=by
   intro j X hj hX Cw;have:=hp j i _ _ hj (hks j X hX) adS Cw;simp only[Nat.zero_add]at this
   have aoQ:Zt ops (fun x=>L.getD x false||decide (x=i)):=by
    intro x o' hx Gz e he hb;simp only[Bool.or_eq_true,decide_eq_true_eq]at hx ⊢;rcases hx with hx|rfl
    ·exact .inl (ZH x o' hx Gz e he hb)
    ·rw[ho]at Gz;injection Gz with Gz;subst Gz
     exact .inl (aip e he hb)
   have:=Kn aoQ ops.size i (by simp) j this;simp only[Bool.or_eq_true,decide_eq_true_eq]at this;rcases this with h|h
   ·exact h
   ·omega
  have late:∀j X,i<j→ks[j]? = some X→FE (kx i0 K0 i (K,E)) (kx i0 K0 j X)=true→L.getD j false=false:=by
   intro j X hj hX Cw;have:=hp i j _ _ hj adS (hks j X hX) Cw;simp only[Nat.zero_add]at this;rcases hb:L.getD j false with _|_
   ·rfl
   ·have:=Kn ZH ops.size j hb i this
    rw[hDi]at this;cases this
  have ZI:∀t,t∈K.rt∨t∈K.wt→∀j e,(ks.map (·.2.env))[j]? = some e→t∈e.map (·.1)→L.getD j false=decide (j<i):=by
   intro t ht j e hj he;rw[List.getElem?_map]at hj;cases hX:ks[j]? with
   |none=>rw[hX]at hj;cases hj
   |some X=>
    rw[hX]at hj;injection hj with hj;subst hj
    obtain⟨K',E',rfl,q2,q3⟩:=Po hX;rcases Nat.lt_trichotomy j i with RG|rfl|hgt
    ·rw[decide_eq_true RG]
     refine early j _ RG hX ?_;have c1:=hrt j _ hX;unfold FE;simp only[c1.1,c1.2.1,c1.2.2.1,c2.1,c2.2.1,c2.2.2.1,q2];have:meets (E'.env.map (·.1)) (K.rt++K.wt)=true:=yt he (List.mem_append.2 ht);simp[this]
    ·rw[hDi];simp
    ·have ZF:decide (j<i)=false:=by simp;omega
     rw[ZF];refine late j _ hgt hX ?_;have c1:=hrt j _ hX;unfold FE;simp only[c1.1,c1.2.1,c1.2.2.1,c2.1,c2.2.1,c2.2.2.1,q2];rcases ht with ht|ht
     ·have:meets K.rt (E'.env.map (·.1))=true:=yt ht he
      simp[this]
     ·have:meets K.wt (K'.rt++E'.env.map (·.1))=true:=yt ht (List.mem_append_right _ he)
      simp[this]
  have ZJ:∀t,(t∈K.rh∧i≠i0)∨t∈K.wh→∀j e,(ks.map (·.2.heap))[j]? = some e→t∈e.map (·.1)→L.getD j false=decide (j<i):=by
   intro t ht j e hj he;rw[List.getElem?_map]at hj;cases hX:ks[j]? with
   |none=>rw[hX]at hj;cases hj
   |some X=>
    rw[hX]at hj;injection hj with hj;subst hj
    obtain⟨K',E',rfl,q2,q3⟩:=Po hX;rcases Nat.lt_trichotomy j i with RG|rfl|hgt
    ·rw[decide_eq_true RG]
     refine early j _ RG hX ?_;have c1:=hrt j _ hX;unfold FE;simp only[c1.1,c1.2.1,c1.2.2.1,c2.1,c2.2.1,c2.2.2.1,q3];rcases ht with⟨ht,pQ⟩ | ht
     ·have:meets (E'.heap.map (·.1)) (K.rh++K.wh)=true:=yt he (List.mem_append_left _ ht)
      simp[this,c2.2.2.2 pQ]
     ·have:meets (E'.heap.map (·.1)) ((kx i0 K0 i (K,E)).rh++K.wh)=true:=yt he (List.mem_append_right _ ht)
      simp[this]
    ·rw[hDi];simp
    ·have ZF:decide (j<i)=false:=by simp;omega
     rw[ZF];refine late j _ hgt hX ?_;have c1:=hrt j _ hX;unfold FE;simp only[c1.1,c1.2.1,c1.2.2.1,c2.1,c2.2.1,c2.2.2.1,q3];rcases ht with⟨ht,pQ⟩ | ht
     ·have:meets K.rh (E'.heap.map (·.1))=true:=yt ht he
      simp[this,c2.2.2.2 pQ]
     ·have:meets K.wh ((kx i0 K0 j (K',E')).rh++E'.heap.map (·.1))=true:=yt ht (List.mem_append_right _ he)
      simp[this]
  have afu:∀t,t∈K.rt∨t∈K.wt→look (over σ (ks.map (·.2)) (fun i=>L.getD i false)).env t=look σi.env t:=by
   intro t ht;rw[k5 t];simp only[over,List.map_map];exact rz t _ _ _ _ _ 0 rfl (fun j e hj he=>by simpa using ZI t ht j e hj he)
  have ais:∀t,(t∈K.rh∧i≠i0)∨t∈K.wh→look (over σ (ks.map (·.2)) (fun i=>L.getD i false)).heap t=look σi.heap t:=by
   intro t ht;rw[k6 t];simp only[over,List.map_map];exact rz t _ _ _ _ _ 0 rfl (fun j e hj he=>by simpa using ZJ t ht j e hj he)
  have hEn:∀id∈E.new,id ∉ (over σ (ks.map (·.2)) (fun i=>L.getD i false)).used:=by
   intro id hid hm;rcases zL.1 hm with h|⟨j,E',hj,he,hx⟩
   ·exact n1 E.new (List.mem_map.2 ⟨(K,E),List.mem_of_getElem? k1,rfl⟩) id hid h
   ·have pQ:j≠i:=by rintro rfl;rw[hDi]at hj;cases hj
    rw[List.getElem?_map]at he;cases hX:ks[j]? with
    |none=>rw[hX]at he;cases he
    |some X=>
     rw[hX]at he;injection he with he;subst he
     have g1:(ks.map (·.2.new))[j]? = some X.2.new:=by simp[List.getElem?_map,hX]
     have g2:(ks.map (·.2.new))[i]? = some E.new:=by simp[List.getElem?_map,k1]
     have pw:=List.pairwise_iff_getElem.1 n2;obtain⟨l1,e1⟩:=List.getElem?_eq_some_iff.1 g1;obtain⟨l2,e2⟩:=List.getElem?_eq_some_iff.1 g2;rcases Nat.lt_or_gt_of_ne pQ with h|h
     ·have:=pw j i l1 l2 h
      rw[e1,e2]at this;exact this id hid hx
     ·have:=pw i j l2 l1 h
      rw[e1,e2]at this;exact this id hx hid
  have kOp:du P ops o K.rt K.rh (over σ (ks.map (·.2)) (fun i=>L.getD i false)) E:=by
   by_cases hii:i=i0
   ·subst hii
    obtain⟨hsk,hkj,Dn⟩:=hsp _ k1;injection hsk with Ms FG;subst Ms;subst FG
    by_cases hjd:L.getD j0 false=true
    ·refine halt o _ ho (fun t ht=>(afu t (.inl ht)).trans (k5 t)) (fun id hid=>?_)
     simp only[over,List.map_map];have aoR:(ks.map (fun k=>k.2.heap))[j0]? = some Ej.heap:=by rw[List.getElem?_map,hkj];rfl
     obtain⟨K',E',q1,q2,q3⟩:=Po hkj;injection q1 with q1 q1';subst q1;subst q1'
     exact Al id _ _ _ 0 j0 _ aoR (by rw[←q3];exact hwj id hid) (by rw[Nat.zero_add];exact hjd) (fun j e hjj hj he=>by
      rw[List.getElem?_map]at hj;cases hX:ks[j]? with
      |none=>rw[hX]at hj;cases hj
      |some X=>
       rw[hX]at hj;injection hj with hj;subst hj
       obtain⟨K2,E2,rfl,p2,p3⟩:=Po hX;have:=hwr id hid j _ hX (by rw[p3];exact he)
       omega)
    ·refine du.same k4 (fun t ht=>afu t (.inl ht)) (fun id hid=>?_)
     rw[k6 id];simp only[over,List.map_map];refine rz id _ _ _ _ _ 0 rfl (fun j e hj he=>?_);rw[List.getElem?_map]at hj;cases hX:ks[j]? with
     |none=>rw[hX]at hj;cases hj
     |some X=>
      rw[hX]at hj;injection hj with hj;subst hj
      obtain⟨K2,E2,rfl,p2,p3⟩:=Po hX;have hjj:=hwr id hid j _ hX (by rw[p3];exact he);subst hjj;rw[Nat.zero_add];have:decide (j<i)=false:=by simp;omega
      rw[this];simpa using hjd
   ·exact du.same k4 (fun t ht=>afu t (.inl ht)) (fun id hid=>ais id (.inl ⟨hid,hii⟩))
  have key:=kOp C F γ (over σ (ks.map (·.2)) (fun i=>L.getD i false)) a w (fun t ht=>rfl) (fun id hid=>rfl) hEn (fun d hd=>hn o (by simpa using Array.mem_of_getElem? ho) d hd) hs
   (wpAnyIn (FW C.ro) 0 P .any ops Q fuel (L.setIfInBounds i true)) Q (fun F' γ' a' w' _ mm=>?_)
  ·unfold wpOpIn
   rw[ho];simp only
   split
   ·rename_i hw;rw[if_pos hw]at key;exact key
   ·rename_i hw;rw[if_neg hw]at key;exact⟨fun _ _=>trivial,key⟩
  ·have Em:∀j,(L.setIfInBounds i true).getD j false=if j=i then true else L.getD j false:=by
    intro j
    by_cases h:j=i
    ·subst h;simp[Array.getD,hiL]
    ·have h':i≠j:=fun e=>h e.symm
     by_cases hj:j<L.size
     ·simp[Array.getD,hj,h,Array.getElem_setIfInBounds,h']
     ·simp[Array.getD,hj,h]
   have hf:(fun j=>(L.setIfInBounds i true).getD j false)=fun j=>if j=i then true else L.getD j false:=funext Em
   refine ih _ F' γ' a' w' (by simpa using hL) ?_ ?_ (mm.congr (fun t d h=>?_) (fun id e h=>?_) (fun x hx=>?_))
   ·rw[hf]
    intro x o' hx Gz e he hb;simp only at hx ⊢
    by_cases hxi:x=i
    ·subst hxi
     rw[ho]at Gz;injection Gz with Gz;subst Gz
     split
     ·rfl
     ·exact aip e he hb
    ·rw[if_neg hxi]at hx
     split
     ·rfl
     ·exact ZH x o' hx Gz e he hb
   ·have e1:(List.range ops.size).countP (fun j=>!(L.setIfInBounds i true).getD j false)+1≤(List.range ops.size).countP (fun j=>!L.getD j false):=by
     have gen:∀(l:List Nat),l.Nodup→i∈l→l.countP (fun j=>!(L.setIfInBounds i true).getD j false)+1≤l.countP (fun j=>!L.getD j false):=by
      intro l
      induction l with
      |nil=>intro _ h;cases h
      |cons x l ihl=>
       intro ZF hm;have ait:=List.nodup_cons.1 ZF;rw[List.countP_cons,List.countP_cons]
       by_cases hx:x=i
       ·subst hx
        have same:l.countP (fun j=>!(L.setIfInBounds x true).getD j false)=l.countP (fun j=>!L.getD j false):=by
         apply List.countP_congr;intro j hj;have:j≠x:=fun e=>ait.1 (e ▸ hj)
         rw[Em,if_neg this]
        rw[same,Em,if_pos rfl,hDi];simp
       ·have Nj:i∈l:=by
         rcases List.mem_cons.1 hm with h|h
         ·exact absurd h.symm hx
         ·exact h
        have:=ihl ait.2 Nj;rw[Em,if_neg hx];omega
     exact gen _ List.nodup_range (List.mem_range.2 pE)
    omega
   · -- slots
    rw[hf]at h;simp only[AS.app];rw[←h];simp only[over,List.map_map];rw[gz]
    by_cases ht:t∈E.env.map (·.1)
    ·obtain⟨x,hx⟩:=uQ ht
     have:=Al t (ks.map (·.2.env)) σ.env (fun j=>if j=i then true else L.getD j false) 0 i E.env (by simp[List.getElem?_map,k1]) ht (by simp) (fun j e' hj he hte=>by
      have:=ZI t (.inr (k2 ▸ ht)) j e' he hte;rw[Nat.zero_add,if_neg (by omega),this];simp;omega)
     rw[hx];exact Eq.trans rfl (this.trans hx).symm
    ·rw[zM ht]
     refine rz t _ _ _ _ _ 0 rfl (fun j e' he hte=>?_)
     have pQ:j≠i:=by
      rintro rfl;rw[List.getElem?_map,k1]at he;injection he with he;subst he
      exact ht hte
     rw[Nat.zero_add,if_neg pQ]
   ·unfold cB at h ⊢
    rw[hf]at h
    have:look (E.heap++(over σ (ks.map (·.2)) (fun i=>L.getD i false)).heap) id=look (over σ (ks.map (·.2)) (fun j=>if j=i then true else L.getD j false)).heap id:=by
     simp only[over,List.map_map];rw[gz]
     by_cases ht:id∈E.heap.map (·.1)
     ·obtain⟨x,hx⟩:=uQ ht
      have:=Al id (ks.map (·.2.heap)) σ.heap (fun j=>if j=i then true else L.getD j false) 0 i E.heap (by simp[List.getElem?_map,k1]) ht (by simp) (fun j e' hj he hte=>by
       have:=ZJ id (.inr (k3 ▸ ht)) j e' he hte;rw[Nat.zero_add,if_neg (by omega),this];simp;omega)
      rw[hx];exact Eq.trans rfl (this.trans hx).symm
     ·rw[zM ht]
      refine rz id _ _ _ _ _ 0 rfl (fun j e' he hte=>?_)
      have pQ:j≠i:=by
       rintro rfl;rw[List.getElem?_map,k1]at he;injection he with he;subst he
       exact ht hte
      rw[Nat.zero_add,if_neg pQ]
    simp only[AS.app];rw[this];exact h
   ·rw[hf,zL]
    rcases List.mem_append.1 hx with hx|hx
    ·exact .inr ⟨i,E,by simp,by simp[List.getElem?_map,k1],hx⟩
    ·rcases zL.1 hx with h|⟨j,E',hj,he,hx⟩
     ·exact .inl h
     ·exact .inr ⟨j,E',by by_cases hji:j=i <;> simp[hji,hj],he,hx⟩
theorem YB(ht:Trace P ops ops.toList σ σ' ks)(hd:zv ops (ks.map (·.1))=true)(px:mJ σ.used (ks.map (·.2.new))=true)(hn:∀o∈ops.toList,∀d,o.dst=some d→d<C.n)
  {Q:Exit→Act→World→Prop} (hq:∀F' γ' a' w',Sat C F' γ' σ' a' w'→Q .normal a' w') :
  ∀(fuel:Nat) (L:Array Bool) (F:dI) (γ:fc) (a:Act) (w:World),L.size=ops.size→Zt ops (fun i=>L.getD i false)→(List.range ops.size).countP (fun i=>!L.getD i false)≤fuel →
   Sat C F γ (over σ (ks.map (·.2)) (fun i=>L.getD i false)) a w→wpAnyIn (FW C.ro) 0 P .any ops Q fuel L a w :=
 JY (i0:=ks.length) (j0:=0) (K0:=⟨[],[],[],[]⟩) (Kj:=⟨[],[],[],[]⟩) (E0:=⟨[],[],[]⟩) (Ej:=⟨[],[],[]⟩) ht (fun X h=>by simp at h) (by rw[List.set_eq_of_length_le (by simp)];exact hd) (fun _ h=>by simp at h) (fun _ h=>by simp at h) (fun o _ h=>by have:=ht.at.1;simp at this;rw[this]at h;simp at h) px hn hq
end
end Go.Proofs.YtpeihknododmlaaGreatDoor
/-! ### part F -/
/-
 My engine,part F: code,calls,names.
-/
namespace Go.Proofs.YtpeihknododmlaaGreatDoor
open Go.RowKit
def ik(P:Program)(n:Nat)(c:Code)(Q:Exit→AS→Prop)(σ:AS):Prop :=
 ∀(C:Ctx) (F:dI) (γ:fc) (a:Act) (w:World),C.n=n→Sat C F γ σ a w→c.wpIn (FW C.ro) 0 P (fun e a' w'=>∃F' γ' σ',Sat C F' γ' σ' a' w'∧Q e σ') a w
def oE(σ σ':AS):Prop:=∀(C:Ctx) (F:dI) (γ:fc) (a:Act) (w:World),Sat C F γ σ a w→∃F' γ',Sat C F' γ' σ' a w
theorem oE.refl(σ:AS):oE σ σ:=fun C F γ a w h=>⟨F,γ,h⟩
theorem oE.trans{a b c:AS}(h:oE a b)(k:oE b c):oE a c:=fun C F γ x w s=>by
 obtain⟨F1,γ1,h1⟩:=h C F γ x w s;exact k C F1 γ1 x w h1
section
variable {P:Program} {n:Nat} {Q:Exit→AS→Prop} {σ:AS}
theorem Dj{c:Code}{Q':Exit→AS→Prop}(h:ik P n c Q σ)(hq:∀e σ,Q e σ→Q' e σ):ik P n c Q' σ:=fun C F γ a w hn hs=>
 wpIn_mono (h C F γ a w hn hs) fun e a' w' ⟨F',γ',σ',h1,h2⟩=>⟨F',γ',σ',h1,hq e σ' h2⟩
theorem tW{c:Code}{σ':AS}(hi:oE σ σ')(h:ik P n c Q σ'):ik P n c Q σ:=fun C F γ a w hn hs=>by
 obtain⟨F1,γ1,h1⟩:=hi C F γ a w hs;exact h C F1 γ1 a w hn h1
theorem AA(h:Q .normal σ):ik P n .skip Q σ:=fun C F γ a w hn hs=>wpIn_skip ⟨F,γ,σ,hs,h⟩
theorem uZ(h:Q .ret σ):ik P n .ret Q σ:=fun C F γ a w hn hs=>wpIn_ret ⟨F,γ,σ,hs,h⟩
theorem Zk{id:Nat}(h:Q (.exit id) σ):ik P n (.exit id) Q σ:=fun C F γ a w hn hs=>wpIn_exit ⟨F,γ,σ,hs,h⟩
def adK(P:Program)(n:Nat)(y:Code)(Q:Exit→AS→Prop):Exit→AS→Prop
 |.normal,σ=>ik P n y Q σ
 |e,σ=>Q e σ
theorem iL{x y:Code}(h:ik P n x (adK P n y Q) σ):ik P n (.seq x y) Q σ:=fun C F γ a w hn hs=>
 wpIn_seq (wpIn_mono (h C F γ a w hn hs) fun e a' w' ⟨F',γ',σ',h1,h2⟩=>by
  cases e with
  |normal=>exact h2 C F' γ' a' w' hn h1
  |exit id=>exact⟨F',γ',σ',h1,h2⟩
  |goto l=>exact⟨F',γ',σ',h1,h2⟩
  |ret=>exact⟨F',γ',σ',h1,h2⟩
  |panic c=>exact⟨F',γ',σ',h1,h2⟩
  |outgrown=>exact⟨F',γ',σ',h1,h2⟩)
theorem uc{c:Operand}{x y:Code}(b:Bool)(hc:ev σ.env c=some (.bool b))(ht:b=true→ik P n x Q σ)(hf:b=false→ik P n y Q σ):ik P n (.cond c x y) Q σ:=fun C F γ a w hn hs=>by
 have:=hs.ev hc;simp only[Rs]at this;exact wpIn_cond_split this (fun e=>ht e C F γ a w hn hs) (fun e=>hf e C F γ a w hn hs)
def BR(id:Nat)(Q:Exit→AS→Prop):Exit→AS→Prop
 |.exit yd,σ=>bif Nat.beq yd id then Q .normal σ else Q (.exit yd) σ
 |e,σ=>Q e σ
theorem zg{id:Nat}{c:Code}(h:ik P n c (BR id Q) σ):ik P n (.block id c) Q σ:=fun C F γ a w hn hs=>
 wpIn_block (wpIn_mono (h C F γ a w hn hs) fun e a' w' ⟨F',γ',σ',h1,h2⟩=>by
  cases e with
  |exit yd=>
   simp only[BR]at h2;simp only[Exit.inBlock]
   by_cases hid:yd=id
   ·subst hid;simp at h2;rw[if_pos rfl];exact⟨F',γ',σ',h1,h2⟩
   ·have:Nat.beq yd id=false:=by rw[Bool.eq_false_iff];intro e;exact hid (Nat.eq_of_beq_eq_true e)
    rw[this]at h2;rw[if_neg hid];exact⟨F',γ',σ',h1,h2⟩
  |normal=>exact⟨F',γ',σ',h1,h2⟩
  |goto l=>exact⟨F',γ',σ',h1,h2⟩
  |ret=>exact⟨F',γ',σ',h1,h2⟩
  |panic c=>exact⟨F',γ',σ',h1,h2⟩
  |outgrown=>exact⟨F',γ',σ',h1,h2⟩)
def adL{α:Type}(S:α→AS)(I:α→Prop)(μ:α→Nat)(x:α)(Q:Exit→AS→Prop):Exit→AS→Prop
 |.normal,σ=>∃x',I x'∧μ x'<μ x∧oE σ (S x')
 |e,σ=>Q e σ
theorem HG{c:Code}{α:Type}(S:α→AS)(I:α→Prop)(μ:α→Nat)(x0:α)(h0:oE σ (S x0))(hI:I x0)(round:∀x,I x→ik P n c (adL S I μ x Q) (S x)):ik P n (.loop c) Q σ:=fun C F γ a w hn hs=>by
 obtain⟨F1,γ1,h1⟩:=h0 C F γ a w hs;refine wpIn_loop_ghost (fun k a w=>∃x F γ,I x∧μ x=k∧Sat C F γ (S x) a w) (μ x0) ⟨x0,F1,γ1,hI,rfl,h1⟩ ?_;rintro k a w ⟨x,F,γ,hx,rfl,hs⟩;refine wpIn_mono (round x hx C F γ a w hn hs) fun e a' w' ⟨F',γ',σ',h1,h2⟩=>?_
 cases e with
 |normal=>
  obtain⟨x',i1,i2,i3⟩:=h2;obtain⟨F2,γ2,h3⟩:=i3 C F' γ' a' w' h1;exact⟨μ x',i2,x',F2,γ2,i1,rfl,h3⟩
 |exit id=>exact⟨F',γ',σ',h1,h2⟩
 |goto l=>exact⟨F',γ',σ',h1,h2⟩
 |ret=>exact⟨F',γ',σ',h1,h2⟩
 |panic c=>exact⟨F',γ',σ',h1,h2⟩
 |outgrown=>exact⟨F',γ',σ',h1,h2⟩
def acF{α:Type}(S:α→AS)(I:α→Prop)(Q:Exit→AS→Prop):Exit→AS→Prop
 |.normal,σ=>∃x',I x'∧oE σ (S x')
 |e,σ=>Q e σ
theorem aif{c d:Code}{α:Type}(S:α→AS)(I:α→Prop)(h:ik P n c (acF S I Q) σ)(k:∀x,I x→ik P n d Q (S x)):ik P n (.seq c d) Q σ :=
 iL (Dj h fun e σ' hq=>by
  cases e with
  |normal=>obtain⟨x',i1,i2⟩:=hq;exact tW i2 (k x' i1)
  |exit id=>exact hq
  |goto l=>exact hq
  |ret=>exact hq
  |panic c=>exact hq
  |outgrown=>exact hq)
def sH(n:Nat)(ops:Array Oper):Bool:=ops.toList.all fun o=>match o.dst with
 |some d=>Nat.blt d n
 |none=>true
theorem gw{id:Nat}{ops:Array Oper}{σ':AS}{ks:List (Keys×zT)}(ht:Trace P ops ops.toList σ σ' ks)(hd:sH n ops=true)(px:mJ σ.used (ks.map (·.2.new))=true)(hq:Q .normal σ'):ik P n (.region id ops false) Q σ:=fun C F γ a w hn hs=>by
 refine wpIn_region ?_;obtain⟨n1,n2⟩:=BE _ _ px;have:=Trace.seq (Q:=fun e a' w'=>∃F' γ' σ',Sat C F' γ' σ' a' w'∧Q e σ') (C:=C) ops.toList 0 σ σ' ks ht (fun j o hj=>by simpa using hj) (fun o ho d hd'=>?_) (fun k hk=>n1 _ (List.mem_map.2 ⟨k,hk,rfl⟩)) (List.pairwise_map.1 n2) F γ a w hs (fun F' γ' a' w' h=>⟨F',γ',σ',h,hq⟩)
 ·simpa using this
 ·simp only[sH,List.all_eq_true]at hd
  have:=hd o ho;rw[hd']at this;rw[hn];exact Nat.blt_eq ▸ this
theorem LZ{id:Nat}{ops:Array Oper}{σ':AS}{ks:List (Keys×zT)}(hm:P.follows .mixedOrders=true)(ht:Trace P ops ops.toList σ σ' ks)(hk:zv ops (ks.map (·.1))=true)(hd:sH n ops=true)(px:mJ σ.used (ks.map (·.2.new))=true)(hq:Q .normal σ'):ik P n (.region id ops true) Q σ:=fun C F γ a w hn hs=>by
 refine wpIn_region_any hm (YB ht hk px (fun o ho d hd'=>?_) (fun F' γ' a' w' h=>⟨F',γ',σ',h,hq⟩) ops.size _ F γ a _ (by simp) ?_ ?_ ?_)
 ·simp only[sH,List.all_eq_true]at hd
  have:=hd o ho;rw[hd']at this;rw[hn];exact Nat.blt_eq ▸ this
 ·intro i o hi
  exfalso
  by_cases h:i<ops.size <;> simp[Array.getD,h]at hi
 ·have:=List.countP_le_length (p:=fun i=>!(Array.replicate ops.size false).getD i false) (l:=List.range ops.size)
  simpa using this
 ·have hF:∀i,(Array.replicate ops.size false).getD i false=false:=fun i=>by
   by_cases h:i<ops.size <;> simp[Array.getD,h]
  have mm:Sat C F γ σ a { w with drawn:=w.drawn+1 }:=⟨hs.env,hs.ws.quiet (vf.drew w),hs.size,hs.defers⟩
  have none:∀{α:Type} (es:List (List (Nat×α))) (b:List (Nat×α)) (i:Nat),ml b es (fun i=>(Array.replicate ops.size false).getD i false) i=b:=by
   intro α es
   induction es with
   |nil=>intros;rfl
   |cons e es ih=>
    intro b i;unfold ml;show ml (if (Array.replicate ops.size false).getD i false=true then e++b else b) es _ (i+1)=b;rw[hF i];simp only[Bool.false_eq_true,if_false];exact ih _ _
  refine mm.congr (fun t d h=>?_) (fun id e h=>?_) (fun x hx=>zL.2 (.inl hx))
  ·simp only[over]at h;rw[none]at h;exact h
  ·simp only[over]at h;rw[none]at h;exact h
end
end Go.Proofs.YtpeihknododmlaaGreatDoor
/-! ### part G -/
/-
 My engine,part G: names in data,calls.
-/
namespace Go.Proofs.YtpeihknododmlaaGreatDoor
open Go.RowKit
mutual
def DV.ids:DV→List Nat
 |.agg ds=>xQ ds
 |.gW ds=>xQ ds
 |.ref id _=>[id]
 |.row id=>[id]
 |.rp id _ _ _=>[id]
 |.sp id _ _ _=>[id]
 |.Ii id _ _=>[id]
 |.rv id _ _ _=>[id]
 |.np id _=>[id]
 |.Ew _ d=>d.ids
 |.Dh _ ds=>xQ ds
 |.int _ _ | .bool _ | .str _ | .val _ | .bq | .sl _ _ | .fs _ _ | .jA _=>[]
def xQ:List DV→List Nat
 |[]=>[]
 |d::ds=>d.ids++xQ ds
end
mutual
def DV.ua(f:Nat→Nat):DV→DV
 |.agg ds=>.agg (yo f ds)
 |.gW ds=>.gW (yo f ds)
 |.ref id o=>.ref (f id) o
 |.row id=>.row (f id)
 |.rp id i sz o=>.rp (f id) i sz o
 |.sp id i sz o=>.sp (f id) i sz o
 |.Ii id o n=>.Ii (f id) o n
 |.rv id l n z=>.rv (f id) l n z
 |.np id o=>.np (f id) o
 |.Ew b d=>.Ew b (d.ua f)
 |.Dh g ds=>.Dh g (yo f ds)
 |.int k n=>.int k n
 |.bool b=>.bool b
 |.str s=>.str s
 |.val v=>.val v
 |.bq=>.bq
 |.sl sz eC=>.sl sz eC
 |.fs sz eC=>.fs sz eC
 |.jA ds=>.jA ds
def yo(f:Nat→Nat):List DV→List DV
 |[]=>[]
 |d::ds=>d.ua f::yo f ds
end
mutual
theorem BP{F:dI}{γ γ':fc}:∀(d:DV) (v:Value),(∀i∈d.ids,γ i=γ' i)→Rs F γ d v→Rs F γ' d v
 |.int k n,v,_,h=>by simp only[Rs]at h ⊢;exact h
 |.bool b,v,_,h=>by simp only[Rs]at h ⊢;exact h
 |.str s,v,_,h=>by simp only[Rs]at h ⊢;exact h
 |.val x,v,_,h=>by simp only[Rs]at h ⊢;exact h
 |.bq,v,_,h=>by simp only[Rs]at h ⊢;exact h
 |.agg ds,v,hi,h=>by simp only[Rs]at h ⊢;obtain⟨cs,rfl,h⟩:=h;exact⟨cs,rfl,Gy ds _ (by simpa only[DV.ids]using hi) h⟩
 |.gW ds,v,hi,h=>by simp only[Rs]at h ⊢;obtain⟨cs,rfl,h⟩:=h;exact⟨cs,rfl,Eg ds _ (by simpa only[DV.ids]using hi) h⟩
 |.sl sz eC,v,_,h=>by simp only[Rs]at h ⊢;exact h
 |.fs sz eC,v,_,h=>by simp only[Rs]at h ⊢;exact h
 |.jA ds,v,_,h=>by simp only[Rs]at h ⊢;exact h
 |.ref id off,v,hi,h=>by simp only[Rs]at h ⊢;rw[←hi id (by simp[DV.ids])];exact h
 |.row id,v,hi,h=>by simp only[Rs]at h ⊢;rw[←hi id (by simp[DV.ids])];exact h
 |.rp id i sz o,v,hi,h=>by simp only[Rs]at h ⊢;rw[←hi id (by simp[DV.ids])];exact h
 |.sp id i sz o,v,hi,h=>by simp only[Rs]at h ⊢;rw[←hi id (by simp[DV.ids])];exact h
 |.Ii id off n,v,hi,h=>by simp only[Rs]at h ⊢;rw[←hi id (by simp[DV.ids])];exact h
 |.rv id lo n z,v,hi,h=>by simp only[Rs]at h ⊢;rw[←hi id (by simp[DV.ids])];exact h
 |.np id off,v,hi,h=>by simp only[Rs]at h ⊢;rw[←hi id (by simp[DV.ids])];exact h
 |.Ew g d,v,hi,h=>by simp only[Rs]at h ⊢;exact⟨fun e=>BP d v (by simpa only[DV.ids]using hi) (h.1 e),h.2⟩
 |.Dh f ds,v,hi,h=>by simp only[Rs]at h ⊢;obtain⟨cs,rfl,h⟩:=h;exact⟨cs,rfl,Eg ds _ (by simpa only[DV.ids]using hi) h⟩
theorem Gy{F:dI}{γ γ':fc}:∀(ds:List DV) (vs:List Value),(∀i∈xQ ds,γ i=γ' i)→fG F γ ds vs→fG F γ' ds vs
 |[],vs,_,h=>by simp only[fG]at h ⊢;exact h
 |d::ds,vs,hi,h=>by
  simp only[fG]at h ⊢;simp only[xQ,List.mem_append]at hi;obtain⟨v,rest,h1,h2,h3,h4⟩:=h;exact⟨v,rest,h1,h2,BP d v (fun i h=>hi i (.inl h)) h3,Gy ds _ (fun i h=>hi i (.inr h)) h4⟩
theorem Eg{F:dI}{γ γ':fc}:∀(ds:List DV) (vs:List Value),(∀i∈xQ ds,γ i=γ' i)→sM F γ ds vs→sM F γ' ds vs
 |[],vs,_,h=>by simp only[sM]at h ⊢;exact h
 |d::ds,vs,hi,h=>by
  simp only[sM]at h ⊢;simp only[xQ,List.mem_append]at hi;obtain⟨v,rest,h1,h3,h4⟩:=h;exact⟨v,rest,h1,BP d v (fun i h=>hi i (.inl h)) h3,Eg ds _ (fun i h=>hi i (.inr h)) h4⟩
end
mutual
theorem HH{F:dI}{γ γ':fc}(f:Nat→Nat):∀(d:DV) (v:Value),(∀i∈d.ids,γ (f i)=γ' i)→(Rs F γ (d.ua f) v↔Rs F γ' d v)
 |.int k n,v,_=>by simp only[DV.ua,Rs]
 |.bool b,v,_=>by simp only[DV.ua,Rs]
 |.str s,v,_=>by simp only[DV.ua,Rs]
 |.val x,v,_=>by simp only[DV.ua,Rs]
 |.bq,v,_=>by simp only[DV.ua,Rs]
 |.agg ds,v,hi=>by
  simp only[DV.ua,Rs];have:=fun vs=>Mf (F:=F) (γ:=γ) (γ':=γ') f ds vs (by simpa only[DV.ids]using hi)
  simp only[this]
 |.gW ds,v,hi=>by
  simp only[DV.ua,Rs];have:=fun vs=>Gx (F:=F) (γ:=γ) (γ':=γ') f ds vs (by simpa only[DV.ids]using hi)
  simp only[this]
 |.sl sz eC,v,_=>by simp only[DV.ua,Rs]
 |.fs sz eC,v,_=>by simp only[DV.ua,Rs]
 |.jA ds,v,_=>by simp only[DV.ua,Rs]
 |.ref id off,v,hi=>by simp only[DV.ua,Rs];rw[hi id (by simp[DV.ids])]
 |.row id,v,hi=>by simp only[DV.ua,Rs];rw[hi id (by simp[DV.ids])]
 |.rp id i sz o,v,hi=>by simp only[DV.ua,Rs];rw[hi id (by simp[DV.ids])]
 |.sp id i sz o,v,hi=>by simp only[DV.ua,Rs];rw[hi id (by simp[DV.ids])]
 |.Ii id off n,v,hi=>by simp only[DV.ua,Rs];rw[hi id (by simp[DV.ids])]
 |.rv id lo n z,v,hi=>by simp only[DV.ua,Rs];rw[hi id (by simp[DV.ids])]
 |.np id off,v,hi=>by simp only[DV.ua,Rs];rw[hi id (by simp[DV.ids])]
 |.Ew g d,v,hi=>by simp only[DV.ua,Rs];rw[HH f d v (by simpa only[DV.ids]using hi)]
 |.Dh g ds,v,hi=>by
  simp only[DV.ua,Rs];have:=fun vs=>Gx (F:=F) (γ:=γ) (γ':=γ') f ds vs (by simpa only[DV.ids]using hi)
  simp only[this]
theorem Mf{F:dI}{γ γ':fc}(f:Nat→Nat):∀(ds:List DV) (vs:List Value),(∀i∈xQ ds,γ (f i)=γ' i)→(fG F γ (yo f ds) vs↔fG F γ' ds vs)
 |[],vs,_=>by simp only[yo,fG]
 |d::ds,vs,hi=>by
  simp only[xQ,List.mem_append]at hi;have h1:=fun v=>HH (F:=F) (γ:=γ) (γ':=γ') f d v (fun i h=>hi i (.inl h))
  have h2:=fun vs=>Mf (F:=F) (γ:=γ) (γ':=γ') f ds vs (fun i h=>hi i (.inr h))
  simp only[yo,fG,h1,h2]
theorem Gx{F:dI}{γ γ':fc}(f:Nat→Nat):∀(ds:List DV) (vs:List Value),(∀i∈xQ ds,γ (f i)=γ' i)→(sM F γ (yo f ds) vs↔sM F γ' ds vs)
 |[],vs,_=>by simp only[yo,sM]
 |d::ds,vs,hi=>by
  simp only[xQ,List.mem_append]at hi;have h1:=fun v=>HH (F:=F) (γ:=γ) (γ':=γ') f d v (fun i h=>hi i (.inl h))
  have h2:=fun vs=>Gx (F:=F) (γ:=γ) (γ':=γ') f ds vs (fun i h=>hi i (.inr h))
  simp only[yo,sM,h1,h2]
end
def HE.ids:HE→List Nat
 |.bC _ ds=>xQ ds
 |.row _ _ _=>[]
 |.obj _=>[]
 |.mp _=>[]
 |.PL _ _ _=>[]
 |.it BU _ _=>[BU]
def HE.ua(f:Nat→Nat):HE→HE
 |.bC T ds=>.bC T (yo f ds)
 |.row E sz eC=>.row E sz eC
 |.obj o=>.obj o
 |.mp l=>.mp l
 |.PL E sz eC=>.PL E sz eC
 |.it BU n seen=>.it (f BU) n seen
theorem Mn{F:dI}{γ γ':fc}{w:World}(f:Nat→Nat){e:HE}{g:Value}(h:∀i∈e.ids,γ (f i)=γ' i):Cv F γ w (e.ua f) g↔Cv F γ' w e g:=by
 cases e with
 |bC T ds=>
  have:=fun vs=>Mf (F:=F) (γ:=γ) (γ':=γ') f ds vs h
  simp only[HE.ua,Cv,this]
 |row E sz eC=>simp only[HE.ua,Cv]
 |obj o=>simp only[HE.ua,Cv]
 |mp l=>simp only[HE.ua,Cv]
 |PL E sz eC=>simp only[HE.ua,Cv]
 |it BU n seen=>simp only[HE.ua,Cv,h BU (by simp[HE.ids])]
def sL(f:Nat→Nat)(h:eY):eY:=h.map fun p=>(f p.1,p.2.map (HE.ua f))
theorem Ot{f:Nat→Nat}:∀{h:eY} {j:Nat} {x:Option HE},look (sL f h) j=some x→(∀p∈h,∀q∈h,f p.1=f q.1→p.1=q.1)→∃i y,f i=j∧look h i=some y∧x=y.map (HE.ua f)∧i∈h.map (·.1)
 |[],j,x,hl,_=>by simp[sL,look]at hl
 |(k,y)::h,j,x,hl,hi=>by
  rw[sL,List.map_cons,eW]at hl
  by_cases e:f k=j
  ·rw[if_pos e]at hl
   injection hl with hl
   exact⟨k,y,e,by rw[eW,if_pos rfl],hl.symm,by simp⟩
  ·rw[if_neg e]at hl
   obtain⟨i,y',h1,h2,h3,h4⟩:=Ot (h:=h) hl (fun p hp q hq=>hi p (List.mem_cons_of_mem _ hp) q (List.mem_cons_of_mem _ hq));refine⟨i,y',h1,?_,h3,List.mem_cons_of_mem _ h4⟩;rw[eW,if_neg]
   ·exact h2
   ·rintro rfl;exact e h1
theorem IP{f:Nat→Nat}{h:eY}{j:Nat}(hn:look (sL f h) j=none):∀i∈h.map (·.1),f i≠j:=by
 intro i hi he
 have:j∈(sL f h).map (·.1):=by
  obtain⟨p,hp,rfl⟩:=List.mem_map.1 hi;exact List.mem_map.2 ⟨(f p.1,p.2.map (HE.ua f)),List.mem_map.2 ⟨p,hp,rfl⟩,he⟩
 obtain⟨x,hx⟩:=uQ this;rw[hx]at hn;cases hn
def inner(w:World)(F:dI)(n:Nat)(γ:fc)(f:Nat→Nat)(pre:List Nat):Ctx where
 w0:=w
 T:=fun b=>∃i∈pre,∃g,γ (f i)=some g∧eU g=some b
 F0:=F
 n:=n
 G0:=fun i=>if i∈pre then γ (f i)else none
 ro:=none
 defs:=[]
def Ar(γ:fc)(f:Nat→Nat)(pre:List Nat):fc:=fun i=>if i∈pre then γ (f i)else none
section
variable {C:Ctx} {F F':dI} {γ γ':fc} {heap:eY} {used:List Nat} {w w':World}
theorem WS.enter(H:WS C F γ heap used w)(n:Nat)(f:Nat→Nat)(pre:eY)(hp:∀i e,cB pre i=some e→cB heap (f i)=some (e.ua f))(hk:∀i∈pre.map (·.1),∃e,cB pre i=some e)
  (hgk:∀i∈pre.map (·.1),100000≤i) (hi:∀i∈pre.map (·.1),∀j∈pre.map (·.1),f i=f j→i=j) (HP:∀i e,cB pre i=some e→∀x∈e.ids,x∈pre.map (·.1)) :
  WS (inner w F n γ f (pre.map (·.1))) F (Ar γ f (pre.map (·.1))) pre (pre.map (·.1)) w:=by
 have mem:∀{i e},cB pre i=some e→i∈pre.map (·.1):=by
  intro i e h;rcases hl:look pre i with _|x
  ·simp[cB,hl]at h
  ·rcases Classical.em (i∈pre.map (·.1))with h' | h'
   ·exact h'
   ·rw[zM h']at hl;cases hl
 have Jd:∀{i},i∈pre.map (·.1)→Ar γ f (pre.map (·.1)) i=γ (f i):=fun h=>if_pos h
 exact {
  uB:=fun i e h=>by
   obtain⟨g,h1,h2⟩:=H.uB _ _ (hp i e h);exact⟨g,by rw[Jd (mem h)];exact h1,(Mn f (fun x hx=>(Jd (HP i e h x hx)).symm)).1 h2⟩
  own:=fun i e g b h hg hb=>by
   rw[Jd (mem h)]at hg;exact⟨(H.own _ _ g b (hp i e h) hg hb).1,.inl ⟨i,mem h,g,hg,hb⟩⟩
  apart:=fun i j e e' g g' b h h' hg qi hb iO=>by
   rw[Jd (mem h)]at hg;rw[Jd (mem h')]at qi;exact hi i (mem h) j (mem h') (H.apart _ _ _ _ g g' b (hp i e h) (hp j e' h') hg qi hb iO)
  fs:=H.fs
  f0:=sd.refl _
  vR:=fun b cs h=>.inl h
  os:=rfl,tape:=rfl,output:=rfl
  size:=Nat.le_refl _
  uw:=fun b _ _=>rfl
  us:=fun i g h=>by
   unfold Ar at h
   split at h
   ·assumption
   ·cases h
  gone:=fun i g h=>by
   unfold Ar at h
   split at h
   ·exact H.gone _ _ h
   ·cases h
  g0:=rM.refl _
  gk:=fun i g h=>by
   simp only[inner]at h
   split at h
   ·rename_i hm;exact hgk i hm
   ·cases h
  kn:=H.kn.mono H.f0 }
def wB(γ γ':fc)(f:Nat→Nat)(new:List Nat):fc:=fun j=>match γ j with
 |some g=>some g
 |none=>(new.find? fun i=>Nat.beq (f i) j).bind γ'
theorem WS.join(H:WS C F γ heap used w){n:Nat}{f:Nat→Nat}{pre new:List Nat}{h':eY}{aiu:List Nat}(K:WS (inner w F n γ f pre) F' γ' h' aiu w')(post:eY)
  (vg:∀i∈pre,∃e,cB heap (f i)=some e) (px:∀i∈new,f i ∉ used) (hi:∀i∈pre++new,∀j∈pre++new,f i=f j→i=j)
  (Kt:∀i e,cB post i=some e→cB h' i=some e) (hk:∀i∈pre,i∈post.map (·.1)) (Ek:∀i∈post.map (·.1),i∈pre++new) (HP:∀i e,cB post i=some e→∀x∈e.ids,x∈pre++new) :
  rM γ (wB γ γ' f new)∧(∀i∈pre++new,wB γ γ' f new (f i)=γ' i)∧WS C F' (wB γ γ' f new) (sL f post++heap) (new.map f++used) w':=by
 have le:rM γ (wB γ γ' f new):=fun i g h=>by simp[wB,h]
 have Jd:∀i∈pre++new,wB γ γ' f new (f i)=γ' i:=by
  intro i him;rcases List.mem_append.1 him with h|h
  ·obtain⟨e,he⟩:=vg i h
   obtain⟨g,hg,_⟩:=H.uB _ _ he;have:γ' i=some g:=K.g0 i g (by simp[inner,h,hg]);rw[this];simp[wB,hg]
  ·have hn:γ (f i)=none:=H.fresh (px i h)
   simp only[wB,hn]
   have hf:new.find? (fun x=>Nat.beq (f x) (f i))=some i:=by
    have hs:(new.find? (fun x=>Nat.beq (f x) (f i))).isSome:=by
     rw[List.find?_isSome];exact⟨i,h,by simp⟩
    obtain⟨x,hx⟩:=Option.isSome_iff_exists.1 hs;have h1:=List.find?_some hx;have h2:=List.mem_of_find?_eq_some hx;have:=hi x (List.mem_append_right _ h2) i him (Nat.eq_of_beq_eq_true h1);rw[hx,this]
   rw[hf];rfl
 have aoS:∀p∈post,∀q∈post,f p.1=f q.1→p.1=q.1:=fun p hp q hq e=>hi _ (Ek _ (List.mem_map.2 ⟨p,hp,rfl⟩)) _ (Ek _ (List.mem_map.2 ⟨q,hq,rfl⟩)) e
 -- an entry is a renamed one of the call's,or an old one that the call had nothing of
 have HQ:∀{j e},cB (sL f post++heap) j=some e→(∃i e',f i=j∧e=e'.ua f∧cB post i=some e'∧i∈pre++new)∨(cB heap j=some e∧∀i∈pre,f i≠j):=by
  intro j e he;unfold cB at he;rw[gz]at he;cases hl:look (sL f post) j with
  |none=>
   rw[hl]at he;refine .inr ⟨?_,fun i hip=>IP hl i (hk i hip)⟩;unfold cB;exact he
  |some x=>
   rw[hl]at he;obtain⟨i,y,h1,h2,h3,h4⟩:=Ot hl aoS;cases y with
   |none=>subst h3;simp at he
   |some e'=>
    subst h3;simp at he;exact .inl ⟨i,e',h1,he.symm,by simp[cB,h2],Ek i h4⟩
 have ZK:∀b,(∃i∈pre,∃g,γ (f i)=some g∧eU g=some b)→C.T b∨C.w0.heap.size≤b:=by
  rintro b ⟨i,hip,g,hg,hb⟩;obtain⟨e,he⟩:=vg i hip;exact(H.own _ _ g b he hg hb).2
 -- the blocks of old entries that the call had nothing of
 have other:∀{j e g b},cB heap j=some e→(∀i∈pre,f i≠j)→γ j=some g→eU g=some b→b<w.heap.size∧¬(∃i∈pre,∃g,γ (f i)=some g∧eU g=some b):=by
  intro j e g b he pQ hg hb;obtain⟨g1,h1,h2⟩:=H.uB j e he;rw[hg]at h1;injection h1 with h1;subst h1
  refine⟨h2.lt b hb,?_⟩;rintro⟨i,hip,g',qi,iO⟩;obtain⟨e',he'⟩:=vg i hip;exact pQ i hip (H.apart _ _ e' e g' g b he' he qi hg iO hb)
 have ZL:∀{j e g},cB heap j=some e→wB γ γ' f new j=some g→γ j=some g:=by
  intro j e g he hg;obtain⟨g1,h1,_⟩:=H.uB j e he;rw[le _ _ h1]at hg;rw[h1];exact hg
 refine⟨le,Jd,?_⟩
 exact {
  uB:=fun j e he=>by
   rcases HQ he with⟨i,e',rfl,rfl,h1,h2⟩|⟨h1,h2⟩
   ·obtain⟨g,k1,k2⟩:=K.uB i e' (Kt i e' h1)
    exact⟨g,(Jd i h2).trans k1,(Mn f (fun x hx=>Jd x (HP i e' h1 x hx))).2 k2⟩
   ·obtain⟨g,k1,k2⟩:=H.uB j e h1
    refine⟨g,le _ _ k1,(k2.kept fun b hb=>?_).mono K.f0 le⟩;obtain⟨o1,o2⟩:=other h1 h2 k1 hb;exact K.uw b o1 o2
  own:=fun j e g b he hg hb=>by
   rcases HQ he with⟨i,e',rfl,rfl,h1,h2⟩|⟨h1,h2⟩
   ·rw[Jd i h2]at hg
    obtain⟨k1,k2⟩:=K.own i e' g b (Kt i e' h1) hg hb;refine⟨k1,?_⟩;rcases k2 with k2|k2
    ·exact ZK b k2
    ·exact .inr (Nat.le_trans H.size k2)
   ·have qi:=ZL h1 hg
    obtain⟨k1,k2⟩:=H.own j e g b h1 qi hb;obtain⟨o1,o2⟩:=other h1 h2 qi hb;refine⟨?_,k2⟩;cases hF:F' b with
    |none=>rfl
    |some cs=>
     rcases K.vR b cs hF with h|h|h
     ·simp only[inner]at h;rw[k1]at h;cases h
     ·exact absurd h o2
     ·simp only[inner]at h;omega
  apart:=fun j j' e e' g g' b he he' hg qi hb iO=>by
   rcases HQ he with⟨i,e1,rfl,rfl,h1,h2⟩|⟨h1,h2⟩
   ·rw[Jd i h2]at hg
    rcases HQ he' with⟨i',e1',rfl,rfl,ZM,h2'⟩|⟨ZM,h2'⟩
    ·rw[Jd i' h2']at qi
     rw[K.apart i i' e1 e1' g g' b (Kt _ _ h1) (Kt _ _ ZM) hg qi hb iO]
    ·obtain⟨o1,o2⟩:=other ZM h2' (ZL ZM qi) iO
     rcases(K.own i e1 g b (Kt _ _ h1) hg hb).2 with k|k
     ·exact absurd k o2
     ·simp only[inner]at k;omega
   ·rcases HQ he' with⟨i',e1',rfl,rfl,ZM,h2'⟩|⟨ZM,h2'⟩
    ·rw[Jd i' h2']at qi
     obtain⟨o1,o2⟩:=other h1 h2 (ZL h1 hg) hb;rcases(K.own i' e1' g' b (Kt _ _ ZM) qi iO).2 with k|k
     ·exact absurd k o2
     ·simp only[inner]at k;omega
    ·exact H.apart j j' e e' g g' b h1 ZM (ZL h1 hg) (ZL ZM qi) hb iO
  fs:=K.fs
  f0:=H.f0.trans K.f0
  vR:=fun b cs h=>by
   rcases K.vR b cs h with h|h|h
   ·exact H.vR b cs h
   ·exact .inr (ZK b h)
   ·exact .inr (.inr (Nat.le_trans H.size h))
  os:=K.os.trans H.os
  tape:=K.tape.trans H.tape
  output:=K.output.trans H.output
  size:=Nat.le_trans H.size K.size
  uw:=fun b hb ht=>by
   refine(K.uw b (Nat.lt_of_lt_of_le hb H.size) (fun hT=>?_)).trans (H.uw b hb ht);rcases ZK b hT with h|h
   ·exact ht h
   ·omega
  us:=fun j g h=>by
   unfold wB at h
   split at h
   ·rename_i g' hg;exact List.mem_append_right _ (H.us j g' hg)
   ·cases hf:new.find? (fun i=>Nat.beq (f i) j)with
    |none=>rw[hf]at h;cases h
    |some i=>
     have h1:=List.find?_some hf;have h2:=List.mem_of_find?_eq_some hf;exact List.mem_append_left _ (List.mem_map.2 ⟨i,h2,Nat.eq_of_beq_eq_true h1⟩)
  gone:=fun j g h=>by
   unfold wB at h
   split at h
   ·rename_i g' hg;injection h with h;subst h;exact H.gone _ _ hg
   ·cases hf:new.find? (fun i=>Nat.beq (f i) j)with
    |none=>rw[hf]at h;cases h
    |some i=>rw[hf]at h;exact K.gone _ _ h
  g0:=H.g0.trans le
  gk:=H.gk,kn:=H.kn }
end
end Go.Proofs.YtpeihknododmlaaGreatDoor
/-! ### part H -/
/-
 My engine,part H: contracts,how a function's body gives one,results.
-/
namespace Go.Proofs.YtpeihknododmlaaGreatDoor
open Go.RowKit
structure RC where
 args:List DV
 pre:eY
 res:DV
 post:eY
 new:List Nat
def iM(P:Program)(fn:FuncId)(K:RC):Prop :=
 ∀(C:Ctx) (F:dI) (γ:fc) (heap:eY) (used:List Nat) (w:World) (vs:List Value) (f:Nat→Nat),
  (∀i e,cB K.pre i=some e→cB heap (f i)=some (e.ua f))→(∀i∈K.new,f i ∉ used)→(∀i∈K.pre.map (·.1)++K.new,∀j∈K.pre.map (·.1)++K.new,f i=f j→i=j) →
  WS C F γ heap used w→sM F γ (yo f K.args) vs →
  Calls P fn vs.toArray w (fun e w'=>∃v F' γ',e = .returned v∧sd F F'∧rM γ γ'∧WS C F' γ' (sL f K.post++heap) (K.new.map f++used) w'∧Rs F' γ' (K.res.ua f) v)
def bx(P:Program)(fn:FuncId)(args:List DV)(r:DV):Prop :=
 ∀(C:Ctx) (F:dI) (γ:fc) (heap:eY) (used:List Nat) (w:World) (vs:List Value),WS C F γ heap used w→sM F fc.no args vs →
  Calls P fn vs.toArray w (fun e w'=>∃v F',e = .returned v∧sd F F'∧WS C F' γ heap used w'∧Rs F' fc.no r v)
def Zo(P:Program)(t:TypeId)(n:Nat):Prop:=∃d,P.underlying t=some d∧d.isRow=true∧(P.info? t).map (·.size)=some n
def TSc(P:Program)(t:TypeId):Prop:=∃d,P.underlying t=some d∧d.isRow=false∧(P.info? t).map (·.size)=some 1
def AU(P:Program)(t:TypeId)(ds:List DV)(d:DV):Prop:=(∃n,Zo P t n∧n≤ds.length∧d = .agg (ds.take n))∨(TSc P t∧ds.head? = some d)
theorem AU.row{P:Program}{t:TypeId}{ds:List DV}{d:DV}(n:Nat)(h:Zo P t n)(hn:n≤ds.length)(hd:d = .agg (ds.take n)):AU P t ds d:=.inl ⟨n,h,hn,hd⟩
theorem AU.sc{P:Program}{t:TypeId}{ds:List DV}{d:DV}(h:TSc P t)(hd:ds.head? = some d):AU P t ds d:=.inr ⟨h,hd⟩
theorem Gr{P:Program}{t:TypeId}{ds:List DV}{d:DV}{F:dI}{γ:fc}{w:World}{b o:Nat}{vs:List Value}(hd:AU P t ds d)(hr:w.rangeAt b o vs)(hl:fG F γ ds vs) :
  ∃v,(loadVar t ⟨b,o,none⟩).run P w = .ok v w∧Rs F γ d v∧(∀u∈v.cells.toList,u.oneCell'=true):=by
 rcases hd with⟨n,⟨dd,hu,acU,hi⟩,hn,rfl⟩|⟨⟨dd,hu,acU,hi⟩,hh⟩
 ·have ht:=hl.take n
  have hlen:=ht.len;refine⟨.agg (vs.take n).toArray,?_,?_,?_⟩
  ·refine run_loadVar_mid (P:=P) w b o t (vs.take n) dd (rangeAt.take hr n) hu acU ?_
   rw[hi,hlen,List.length_take,Nat.min_eq_left hn]
  ·simp only[Rs];exact⟨_,rfl,by simpa using ht⟩
  ·simpa [Value.cells]using ht.one
 ·cases ds with
  |nil=>cases hh
  |cons d0 ds=>
   simp only[List.head?_cons,Option.some.injEq]at hh;subst hh;simp only[fG]at hl;obtain⟨v,rest,rfl,h1,h2,_⟩:=hl;have hc:w.cell? ⟨b,o,none⟩=some v:=by simpa using hr 0 v rfl
   have ZN:(isAgg t).run P w = .ok false w:=by
    unfold isAgg;rw[Sem.run_bind,run_underlying hu w];cases dd <;> simp_all
   refine⟨v,?_,h2,?_⟩
   ·simp[loadVar,Sem.run_bind,ZN,load,Sem.run,hc]
   ·rw[wP h1];simpa using h1
def tD(P:Program)(σ:AS):ResultVar→DV→Prop
 |.tmp t,d=>look σ.env t=some d
 |.cell t ty,d=>∃id off T ds,look σ.env t=some (.ref id off)∧cB σ.heap id=some (.bC T ds)∧AU P ty (ds.drop off) d
theorem tD.tmp{P:Program}{σ:AS}{t:Nat}{d:DV}(h:look σ.env t=some d):tD P σ (.tmp t) d:=h
theorem tD.cell{P:Program}{σ:AS}{t ty:Nat}{d:DV}{id off T:Nat}{ds:List DV}(h:look σ.env t=some (.ref id off))(h2:cB σ.heap id=some (.bC T ds))(h3:AU P ty (ds.drop off) d):tD P σ (.cell t ty) d:=⟨id,off,T,ds,h,h2,h3⟩
def zr(tmps:Array Value):ResultVar→Sem Value
 |.tmp t=>pure (tmps.getD t undef)
 |.cell a t=>do loadVar t (←asAddr (tmps.getD a undef))
theorem zQ{w:World}{b:Nat}{cs:Array Value}{T:TypeId}{fz:Nat×Nat}(h:w.heap[b]? = some (.cells cs T fz))(o:Nat):w.rangeAt b o (cs.toList.drop o):=fun j v hv=>by
 rw[List.getElem?_drop]at hv;rw[cell_of_row w b (o+j) cs T fz h];simpa using hv
theorem tD.run{P:Program}{σ:AS}{C:Ctx}{F:dI}{γ:fc}{a:Act}{w:World}(hs:Sat C F γ σ a w){r:ResultVar}{d:DV}(h:tD P σ r d):∃v,(zr a.tmps r).run P w = .ok v w∧Rs F γ d v:=by
 cases r with
 |tmp t=>exact⟨_,rfl,(hs.env t d h).2⟩
 |cell t ty=>
  obtain⟨id,off,T,ds,h1,h2,h3⟩:=h;obtain⟨g,hg,b,cs,rfl,hb,hl⟩:=hs.ws.uB id _ h2;have h4:=(hs.env t _ h1).2;simp only[Rs]at h4;obtain⟨b',iO,h5⟩:=h4;rw[hg]at iO;injection iO with iO;injection iO with iO;injection iO with iO;injection iO with iO _ _
  subst iO;obtain⟨v,k1,k2,_⟩:=Gr h3 (zQ hb off) (hl.drop off);refine⟨v,?_,k2⟩;simp only[zr,Sem.run_bind,h5,asAddr,Sem.run_pure,Result.andThen_ok,k1]
theorem CV(fn:Func)(tmps:Array Value):results fn tmps=(do let vs ←fn.results.mapM (zr tmps);pure (if h:vs.size=1 then vs[0]else .tuple vs)):=by
 have:zr tmps=(fun | .tmp t=>pure (tmps.getD t undef) | .cell a t=>do loadVar t (←asAddr (tmps.getD a undef))):=by
  funext r;cases r <;> rfl
 rw[this];rfl
theorem results0{P:Program}{fn:Func}{tmps:Array Value}{w:World}(h:fn.results = #[]):(results fn tmps).run P w = .ok (.tuple #[]) w:=by
 simp[results,h]
theorem results1{P:Program}{fn:Func}{tmps:Array Value}{w:World}{r:ResultVar}{v:Value}(h:fn.results = #[r])(h1:(zr tmps r).run P w = .ok v w):(results fn tmps).run P w = .ok v w:=by
 simp[CV,h,h1]
theorem results2{P:Program}{fn:Func}{tmps:Array Value}{w:World}{r r':ResultVar}{v v':Value}(h:fn.results = #[r,r'])(h1:(zr tmps r).run P w = .ok v w)(h2:(zr tmps r').run P w = .ok v' w):(results fn tmps).run P w = .ok (.tuple #[v,v']) w:=by
 simp[CV,h,h1,h2]
theorem results3{P:Program}{fn:Func}{tmps:Array Value}{w:World}{r r' r'':ResultVar}{v v' v'':Value}(h:fn.results = #[r,r',r''])(h1:(zr tmps r).run P w = .ok v w)(h2:(zr tmps r').run P w = .ok v' w)(h3:(zr tmps r'').run P w = .ok v'' w):(results fn tmps).run P w = .ok (.tuple #[v,v',v'']) w:=by
 simp[CV,h,h1,h2,h3]
def pP(d d':DV):Prop:=∀F γ v,Rs F γ d v→Rs F γ d' v
theorem pP.refl(d:DV):pP d d:=fun _ _ _ h=>h
theorem pP.bq(sz:Nat):pP .bq (.sl sz []):=fun F γ v h=>by
 simp only[Rs]at h ⊢;exact⟨none,0,h,⟨fun _=>⟨rfl,rfl⟩,Nat.le_refl _,by decide⟩,fun h=>absurd rfl h⟩
inductive oJ:List DV→List DV→Prop
 |nil:oJ [] []
 |cons {d d':DV} {ds vO:List DV} (h:pP d d') (t:oJ ds vO):oJ (d::ds) (d'::vO)
theorem oJ.refl:∀ds,oJ ds ds
 |[]=>.nil
 |_::ds=>.cons (pP.refl _) (oJ.refl ds)
theorem oJ.rsL{F:dI}{γ:fc}{ds vO:List DV}(h:oJ ds vO):∀{vs:List Value},fG F γ ds vs→fG F γ vO vs:=by
 induction h with
 |nil=>exact fun h=>h
 |cons h t ih=>
  intro vs hl;simp only[fG]at hl ⊢;obtain⟨v,rest,h1,h2,h3,h4⟩:=hl;exact⟨v,rest,h1,h2,h _ _ _ h3,ih h4⟩
theorem oJ.rsT{F:dI}{γ:fc}{ds vO:List DV}(h:oJ ds vO):∀{vs:List Value},sM F γ ds vs→sM F γ vO vs:=by
 induction h with
 |nil=>exact fun h=>h
 |cons h t ih=>
  intro vs hl;simp only[sM]at hl ⊢;obtain⟨v,rest,h1,h3,h4⟩:=hl;exact⟨v,rest,h1,h _ _ _ h3,ih h4⟩
theorem pP.agg{ds vO:List DV}(h:oJ ds vO):pP (.agg ds) (.agg vO):=fun F γ v hv=>by
 simp only[Rs]at hv ⊢;obtain⟨cs,h1,h2⟩:=hv;exact⟨cs,h1,h.rsL h2⟩
theorem pP.gW{ds vO:List DV}(h:oJ ds vO):pP (.gW ds) (.gW vO):=fun F γ v hv=>by
 simp only[Rs]at hv ⊢;obtain⟨cs,h1,h2⟩:=hv;exact⟨cs,h1,h.rsT h2⟩
def xD(P:Program)(σ:AS)(rs:Array ResultVar)(d:DV):Prop :=
 (rs = #[]∧d = .gW [])∨(∃r,rs = #[r]∧tD P σ r d)∨(∃r r' x x',rs = #[r,r']∧d = .gW [x,x']∧tD P σ r x∧tD P σ r' x') ∨
 (∃r r' r'' x x' x'',rs = #[r,r',r'']∧d = .gW [x,x',x'']∧tD P σ r x∧tD P σ r' x'∧tD P σ r'' x'')
theorem xD.r0{P:Program}{σ:AS}:xD P σ #[] (.gW []):=.inl ⟨rfl,rfl⟩
theorem xD.r1{P:Program}{σ:AS}{r:ResultVar}{d:DV}(h:tD P σ r d):xD P σ #[r] d:=.inr (.inl ⟨r,rfl,h⟩)
theorem xD.r2{P:Program}{σ:AS}{r r':ResultVar}{x x':DV}(h:tD P σ r x)(h':tD P σ r' x'):xD P σ #[r,r'] (.gW [x,x']):=.inr (.inr (.inl ⟨r,r',x,x',rfl,rfl,h,h'⟩))
theorem xD.r3{P:Program}{σ:AS}{r r' r'':ResultVar}{x x' x'':DV}(h:tD P σ r x)(h':tD P σ r' x')(h'':tD P σ r'' x''):xD P σ #[r,r',r''] (.gW [x,x',x'']):=.inr (.inr (.inr ⟨r,r',r'',x,x',x'',rfl,rfl,h,h',h''⟩))
theorem xD.run{P:Program}{σ:AS}{C:Ctx}{F:dI}{γ:fc}{a:Act}{w:World}(hs:Sat C F γ σ a w){fn:Func}{d:DV}(h:xD P σ fn.results d):∃v,(results fn a.tmps).run P w = .ok v w∧Rs F γ d v:=by
 rcases h with⟨h,rfl⟩|⟨r,h,h1⟩|⟨r,r',x,x',h,rfl,h1,h2⟩|⟨r,r',r'',x,x',x'',h,rfl,h1,h2,h3⟩
 ·exact⟨_,results0 h,by simp only[Rs,sM];exact⟨#[],rfl,rfl⟩⟩
 ·obtain⟨v,k1,k2⟩:=h1.run hs
  exact⟨v,results1 h k1,k2⟩
 ·obtain⟨v,k1,k2⟩:=h1.run hs
  obtain⟨v',k1',k2'⟩:=h2.run hs;exact⟨_,results2 h k1 k1',by simp only[Rs,sM];exact⟨_,rfl,v,_,rfl,k2,v',_,rfl,k2',rfl⟩⟩
 ·obtain⟨v,k1,k2⟩:=h1.run hs
  obtain⟨v',k1',k2'⟩:=h2.run hs;obtain⟨v'',aoT,aoU⟩:=h3.run hs;exact⟨_,results3 h k1 k1' aoT,by simp only[Rs,sM];exact⟨_,rfl,v,_,rfl,k2,v',_,rfl,k2',v'',_,rfl,aoU,rfl⟩⟩
def params:Nat→List DV→List (Nat×DV)
 |_,[]=>[]
 |i,d::ds=>(i,d)::params (i+1) ds
theorem FB:∀(ds:List DV) (i t:Nat) (d:DV),look (params i ds) t=some d→∃j,t=i+j∧ds[j]? = some d
 |[],i,t,d,h=>by simp[params,look]at h
 |d0::ds,i,t,d,h=>by
  rw[params,eW]at h
  by_cases e:i=t
  ·rw[if_pos e]at h;exact⟨0,by omega,by simpa using h⟩
  ·rw[if_neg e]at h
   obtain⟨j,h1,h2⟩:=FB ds (i+1) t d h;exact⟨j+1,by omega,by simpa using h2⟩
theorem sM.len{F:dI}{γ:fc}:∀{ds:List DV} {vs:List Value},sM F γ ds vs→vs.length=ds.length
 |[],vs,h=>by simp only[sM]at h;rw[h];rfl
 |d::ds,vs,h=>by
  simp only[sM]at h;obtain⟨v,rest,rfl,_,h⟩:=h;simp[sM.len h]
theorem sM.get{F:dI}{γ:fc}:∀{ds:List DV} {vs:List Value} {i:Nat} {d:DV},sM F γ ds vs→ds[i]? = some d→∃v,vs[i]? = some v∧Rs F γ d v
 |[],vs,i,d,h,hi=>by simp at hi
 |d0::ds,vs,0,d,h,hi=>by
  simp only[sM]at h;obtain⟨v,rest,rfl,h2,h⟩:=h;simp at hi;subst hi;exact⟨v,rfl,h2⟩
 |d0::ds,vs,i+1,d,h,hi=>by
  simp only[sM]at h;obtain⟨v,rest,rfl,h2,h⟩:=h;simpa using sM.get h (by simpa using hi)
theorem Ha{F:dI}{γ:fc}{args:List DV}{vs:List Value}(h:sM F γ args vs){n:Nat}(hn:args.length≤n) :
  ∀t d,look (params 0 args) t=some d→t<n∧Rs F γ d ((vs.toArray++Array.replicate (n-vs.toArray.size) undef).getD t undef):=by
 intro t d ht;obtain⟨j,rfl,hj⟩:=FB args 0 t d ht;obtain⟨v,k1,k2⟩:=h.get hj;rw[Nat.zero_add]
 have pE:j<args.length:=by
  rcases Nat.lt_or_ge j args.length with h|h
  ·exact h
  ·rw[List.getElem?_eq_none h]at hj;cases hj
 refine⟨by omega,?_⟩;have hv:j<vs.length:=by rw[h.len];exact pE
 have:(vs.toArray++Array.replicate (n-vs.toArray.size) undef).getD j undef=v:=by
  rw[Array.getD_eq_getD_getElem?,Array.getElem?_append_left (by simpa using hv)];simp[k1]
 rw[this];exact k2
def va(P:Program)(rs:Array ResultVar)(res:DV)(post:eY):Exit→AS→Prop
 |.ret,σ | .normal,σ=>∃d,xD P σ rs d∧pP d res∧∀i e,cB post i=some e→cB σ.heap i=some e
 |_,_=>False
theorem bx.of{P:Program}{fn:FuncId}{func:Func}{c:Code}{args:List DV}{r:DV}(hf:P.funcs[fn]? = some func)(hb:func.body=some c){n:Nat}(hn:func.ntmps=n){rs:Array ResultVar}(FY:func.results=rs)(ha:args.length≤n)(hr:r.ids = [])
  (h:ik P n c (va P rs r []) ⟨params 0 args,[],[]⟩):bx P fn args r:=by
 subst hn FY;intro C F γ heap used w vs H hv;have HE:=H.enter func.ntmps id [] (fun i e h=>by simp[cB,look]at h) (by simp) (by simp) (by simp) (fun i e h=>by simp[cB,look]at h);have hG:Ar γ id (List.map (·.1) ([]:eY))=fc.no:=by funext i;simp[Ar,fc.no]
 rw[hG]at HE;refine(callsIn_wide (n:=0)).1 (callsIn_of_wp hf hb trivial ?_)
 have hs:Sat (inner w F func.ntmps γ id []) F fc.no ⟨params 0 args,[],[]⟩ { tmps:=vs.toArray++Array.replicate (func.ntmps-vs.toArray.size) undef,defers:=[] } w :=
  ⟨Ha hv ha,HE,by
   have:=hv.len;simp[inner];omega,rfl⟩
 refine wpIn_mono (h (inner w F func.ntmps γ id []) F fc.no _ w rfl hs) ?_;rintro e a' w' ⟨F',γ',σ',mm,hq⟩
 have main:(∃d,xD P σ' func.results d∧pP d r∧∀i e,cB [] i=some e→cB σ'.heap i=some e)→a'.defers = []∧∃v,(results func a'.tmps).run P w' = .ok v w'∧(∃v' F',Ending.returned v = .returned v'∧sd F F'∧WS C F' γ heap used w'∧Rs F' fc.no r v'):=by
  rintro⟨d,h1,h2,_⟩;obtain⟨v,k1,k2⟩:=h1.run mm;obtain⟨_,_,j⟩:=H.join (f:=id) (pre:=[]) (new:=[]) mm.ws [] (by simp) (by simp) (by simp) (fun i e h=>by simp[cB,look]at h) (by simp) (by simp) (fun i e h=>by simp[cB,look]at h);refine⟨mm.defers,v,k1,v,F',rfl,mm.ws.f0,?_,BP r v (by rw[hr];simp) (h2 _ _ _ k2)⟩;have hg:wB γ γ' id []=γ:=by funext i;unfold wB;cases γ i <;> rfl
  rw[hg]at j;simpa [sL]using j
 cases e with
 |ret=>exact main hq
 |normal=>exact main hq
 |exit id=>exact hq.elim
 |goto l=>exact hq.elim
 |panic c=>exact hq.elim
 |outgrown=>exact hq.elim
def Hy(K:RC):Bool :=
 K.pre.all (fun p=>p.2.isSome&&Nat.ble 100000 p.1)&&(K.pre.map (·.1)).all (fun i=>(K.post.map (·.1)).any (Nat.beq i))&&(K.post.map (·.1)).all (fun i=>(K.pre.map (·.1)++K.new).any (Nat.beq i)) &&
 K.pre.all (fun p=>match p.2 with
  |some e=>e.ids.all fun x=>(K.pre.map (·.1)).any (Nat.beq x)
  |none=>true) &&
 K.post.all (fun p=>match p.2 with
  |some e=>e.ids.all fun x=>(K.pre.map (·.1)++K.new).any (Nat.beq x)
  |none=>true)&&(xQ K.args).all (fun x=>(K.pre.map (·.1)).any (Nat.beq x))&&K.res.ids.all (fun x=>(K.pre.map (·.1)++K.new).any (Nat.beq x))
theorem any_beq{l:List Nat}{x:Nat}(h:l.any (Nat.beq x)=true):x∈l:=by
 obtain⟨y,hy,he⟩:=List.any_eq_true.1 h;rw[Nat.eq_of_beq_eq_true he];exact hy
theorem yu{α:Type}:∀{l:List (Nat×α)} {i:Nat} {x:α},look l i=some x→(i,x)∈l
 |[],i,x,h=>by simp[look]at h
 |(k,y)::l,i,x,h=>by
  rw[eW]at h
  by_cases e:k=i
  ·rw[if_pos e]at h;injection h with h;subst h;subst e;simp
  ·rw[if_neg e]at h;exact List.mem_cons_of_mem _ (yu h)
theorem wZ{h:eY}{i:Nat}{e:HE}(hh:cB h i=some e):(i,some e)∈h:=by
 unfold cB at hh
 split at hh
 ·rename_i x hx;injection hh with hh;subst hh;exact yu hx
 ·cases hh
theorem iM.of{P:Program}{fn:FuncId}{func:Func}{c:Code}{K:RC}(hf:P.funcs[fn]? = some func)(hb:func.body=some c){n:Nat}(hn:func.ntmps=n){rs:Array ResultVar}(FY:func.results=rs)(ha:K.args.length≤n)(Cj:Hy K=true)
  (h:ik P n c (va P rs K.res K.post) ⟨params 0 K.args,K.pre,K.pre.map (·.1)⟩):iM P fn K:=by
 subst hn FY;simp only[Hy,Bool.and_eq_true,List.all_eq_true]at Cj;obtain⟨⟨⟨⟨⟨⟨o1,o2⟩,o3⟩,o4⟩,o5⟩,o6⟩,o7⟩:=Cj;intro C F γ heap used w vs f vg px hinj H hv
 have aiw:∀i∈K.pre.map (·.1),∃e,cB K.pre i=some e:=by
  intro i hi;obtain⟨x,hx⟩:=uQ hi;have:=o1 _ (yu hx);simp only[Bool.and_eq_true]at this;have:=this.1;obtain⟨e,he⟩:=Option.isSome_iff_exists.1 this;exact⟨e,by simp[cB,hx,he]⟩
 have HE:=H.enter func.ntmps f K.pre vg aiw (fun i hi=>by
  obtain⟨x,hx⟩:=uQ hi;have:=o1 _ (yu hx);simp only[Bool.and_eq_true]at this;exact Nat.le_of_ble_eq_true this.2) (fun i hi j hj=>hinj i (List.mem_append_left _ hi) j (List.mem_append_left _ hj)) (fun i e he x hx=>by
  have:=o4 _ (wZ he);simp only[List.all_eq_true]at this;exact any_beq (this x hx))
 have TD:sM F (Ar γ f (K.pre.map (·.1))) K.args vs:=(Gx f K.args vs (fun i hi=>(if_pos (any_beq (o6 i hi)):Ar γ f (K.pre.map (·.1)) i=γ (f i)).symm)).1 hv;refine(callsIn_wide (n:=0)).1 (callsIn_of_wp hf hb trivial ?_)
 have hs:Sat (inner w F func.ntmps γ f (K.pre.map (·.1))) F (Ar γ f (K.pre.map (·.1))) ⟨params 0 K.args,K.pre,K.pre.map (·.1)⟩ { tmps:=vs.toArray++Array.replicate (func.ntmps-vs.toArray.size) undef,defers:=[] } w :=
  ⟨Ha TD ha,HE,by
   have:=TD.len;simp[inner];omega,rfl⟩
 refine wpIn_mono (h _ F _ _ w rfl hs) ?_;rintro e a' w' ⟨F',γ',σ',mm,hq⟩
 have main:(∃d,xD P σ' func.results d∧pP d K.res∧∀i e,cB K.post i=some e→cB σ'.heap i=some e)→a'.defers = []∧∃v,(results func a'.tmps).run P w' = .ok v w' ∧
   (∃v' F' γ',Ending.returned v = .returned v'∧sd F F'∧rM γ γ'∧WS C F' γ' (sL f K.post++heap) (K.new.map f++used) w'∧Rs F' γ' (K.res.ua f) v'):=by
  rintro⟨d,h1,h2,h3⟩;obtain⟨v,k1,k2⟩:=h1.run mm
  obtain⟨j1,j2,j3⟩:=H.join (f:=f) (new:=K.new) mm.ws K.post (fun i hi=>by
    obtain⟨e,he⟩:=aiw i hi;exact⟨_,vg i e he⟩) px hinj h3 (fun i hi=>any_beq (o2 i hi)) (fun i hi=>any_beq (o3 i hi)) (fun i e he x hx=>by
    have:=o5 _ (wZ he);simp only[List.all_eq_true]at this;exact any_beq (this x hx))
  exact⟨mm.defers,v,k1,v,F',_,rfl,mm.ws.f0,j1,j3,(HH f K.res v (fun i hi=>j2 i (any_beq (o7 i hi)))).2 (h2 _ _ _ k2)⟩
 cases e with
 |ret=>exact main hq
 |normal=>exact main hq
 |exit id=>exact hq.elim
 |goto l=>exact hq.elim
 |panic c=>exact hq.elim
 |outgrown=>exact hq.elim
theorem iM.body{P:Program}{fn:FuncId}{func:Func}{c:Code}{args:List DV}{pre post:eY}{res:DV}{new:List Nat}(hf:P.funcs[fn]? = some func){n:Nat}(hn:func.ntmps=n)(hb:func.body=some c){rs:Array ResultVar}(FY:func.results=rs)(ha:Nat.ble args.length n=true)(Cj:Hy ⟨args,pre,res,post,new⟩=true)
  (h:ik P n c (va P rs res post) ⟨params 0 args,pre,pre.map (·.1)⟩):iM P fn ⟨args,pre,res,post,new⟩:=iM.of hf hb hn FY (Nat.le_of_ble_eq_true ha) Cj h
theorem bx.body{P:Program}{fn:FuncId}{func:Func}{c:Code}{args:List DV}{r:DV}(hf:P.funcs[fn]? = some func){n:Nat}(hn:func.ntmps=n)(hb:func.body=some c){rs:Array ResultVar}(FY:func.results=rs)(ha:Nat.ble args.length n=true)(hr:r.ids = [])
  (h:ik P n c (va P rs r []) ⟨params 0 args,[],[]⟩):bx P fn args r:=bx.of hf hb hn FY (Nat.le_of_ble_eq_true ha) hr h
theorem qT{P:Program}{rs:Array ResultVar}{res d:DV}{post:eY}{σ:AS}(h:xD P σ rs d)(hle:pP d res)(hp:∀i e,cB post i=some e→cB σ.heap i=some e):va P rs res post .ret σ:=⟨d,h,hle,hp⟩
inductive mj(h:eY):eY→Prop
 |nil:mj h []
 |cons {i:Nat} {e:HE} {r:eY} (he:cB h i=some e) (k:mj h r):mj h ((i,some e)::r)
 |gone {i:Nat} {r:eY} (k:mj h r):mj h ((i,none)::r)
theorem pP.of_eq{d d':DV}(h:d=d'):pP d d':=h ▸ pP.refl d
theorem mj.spec{h p:eY}(k:mj h p):∀i e,cB p i=some e→cB h i=some e:=by
 induction k with
 |nil=>intro i e he;simp[cB,look]at he
 |cons he k ih=>
  intro i e hi;rw[dj]at hi
  split at hi
  ·rename_i e1;subst e1;injection hi with hi;subst hi;exact he
  ·exact ih i e hi
 |gone k ih=>
  intro i e hi;rw[dj]at hi
  split at hi
  ·cases hi
  ·exact ih i e hi
end Go.Proofs.YtpeihknododmlaaGreatDoor
/-! ### part I -/
/-
 My engine,part I: the rules of the operations on numbers,structs,variables.
-/
namespace Go.Proofs.YtpeihknododmlaaGreatDoor
open Go.RowKit
theorem Sat.put{C:Ctx}{F:dI}{γ:fc}{σ:AS}{a:Act}{w:World}(H:Sat C F γ σ a w){t:Nat}(ht:t<C.n){d:DV}{v:Value}(hd:Rs F γ d v):Sat C F γ ⟨(t,d)::σ.env,σ.heap,σ.used⟩ (a.put (some t) v) w where
 env:=fun t' d' h=>by
  simp only at h;rw[eW]at h
  by_cases e:t=t'
  ·rw[if_pos e]at h;injection h with h;subst h;subst e
   have:t<a.tmps.size:=by rw[H.size];exact ht
   refine⟨ht,?_⟩;simpa [Act.put,this]using hd
  ·rw[if_neg e]at h
   refine⟨(H.env t' d' h).1,?_⟩;have:=(H.env t' d' h).2;simpa [Act.put,Array.getElem?_setIfInBounds_ne e]using this
 ws:=H.ws
 size:=by simpa [Act.put]using H.size
 defers:=H.defers
theorem Sat.mono{C:Ctx}{F F':dI}{γ γ':fc}{σ:AS}{a:Act}{w w':World}(H:Sat C F γ σ a w)(hF:sd F F')(hg:rM γ γ'){heap:eY}{used:List Nat}(hw:WS C F' γ' heap used w'):Sat C F' γ' ⟨σ.env,heap,used⟩ a w' :=
 ⟨fun t d h=>⟨(H.env t d h).1,(H.env t d h).2.mono hF hg⟩,hw,H.size,H.defers⟩
theorem cQ{rt:List Nat}{e e':List (Nat×DV)}(h:∀t∈rt,look e' t=look e t){x:Operand}(hx:∀t∈tm x,t∈rt):ev e' x=ev e x:=by
 cases x with
 |tmp t=>exact h t (hx t (by simp[tm]))
 |const v=>rfl
 |func f=>rfl
 |global g=>rfl
section
variable {P:Program} {ops:Array Oper} {σ:AS}
theorem du.gen{o:Oper}{rt rh:List Nat}{t:Nat}{d:DV}{hp:eY}{nw:List Nat}(hg:o.guard=none)(VG:o.dst=some t)
  (h:∀(C:Ctx) (F:dI) (γ:fc) (σ':AS) (a:Act) (w:World),(∀t∈rt,look σ'.env t=look σ.env t)→(∀id∈rh,cB σ'.heap id=cB σ.heap id)→(∀id∈nw,id ∉ σ'.used)→Sat C F γ σ' a w →
   ∃v w' F' γ',(execOp a.eval o).run P w = .ok (.value v) w'∧sd F F'∧rM γ γ'∧WS C F' γ' (hp++σ'.heap) (nw++σ'.used) w'∧Rs F' γ' d v):du P ops o rt rh σ ⟨[(t,d)],hp,nw⟩:=by
 intro C F γ σ' a w h1 h2 h3 h4 hs K Q hK;have hw:Region.wanted o (yielded ops a.tmps)=true:=by simp[Region.wanted,hg]
 rw[if_pos hw];obtain⟨v,w',F',γ',k1,k2,k3,k4,k5⟩:=h C F γ σ' a w h1 h2 h3 hs;refine jW k1 ?_;rw[VG];exact hK F' γ' _ _ k2 ((hs.mono k2 k3 k4).put (h4 t VG) k5)
theorem du.val{o:Oper}{rt rh:List Nat}{t:Nat}{d:DV}(hg:o.guard=none)(VG:o.dst=some t)
  (h:∀(C:Ctx) (F:dI) (γ:fc) (σ':AS) (a:Act) (w:World),(∀t∈rt,look σ'.env t=look σ.env t)→(∀id∈rh,cB σ'.heap id=cB σ.heap id)→Sat C F γ σ' a w →
   ∃v,(execOp a.eval o).run P w = .ok (.value v) w∧Rs F γ d v):du P ops o rt rh σ ⟨[(t,d)],[],[]⟩ :=
 du.gen hg VG fun C F γ σ' a w h1 h2 _ hs=>by
  obtain⟨v,k1,k2⟩:=h C F γ σ' a w h1 h2 hs;exact⟨v,w,F,γ,k1,sd.refl _,rM.refl _,hs.ws,k2⟩
theorem du.skip{o:Oper}{rt rh:List Nat}{hp:eY}(hg:o.guard=none)(VG:o.dst=none)
  (h:∀(C:Ctx) (F:dI) (γ:fc) (σ':AS) (a:Act) (w:World),(∀t∈rt,look σ'.env t=look σ.env t)→(∀id∈rh,cB σ'.heap id=cB σ.heap id)→Sat C F γ σ' a w →
   ∃w',(execOp a.eval o).run P w = .ok .skip w'∧WS C F γ (hp++σ'.heap) σ'.used w'):du P ops o rt rh σ ⟨[],hp,[]⟩:=by
 intro C F γ σ' a w h1 h2 h3 h4 hs K Q hK;have hw:Region.wanted o (yielded ops a.tmps)=true:=by simp[Region.wanted,hg]
 rw[if_pos hw];obtain⟨w',k1,k2⟩:=h C F γ σ' a w h1 h2 hs;refine KN k1 ?_;simp only[VG,Act.put];exact hK F γ _ _ (sd.refl _) (hs.mono (sd.refl _) (rM.refl _) k2)
variable {t:Nat} {ty:TypeId} {pos:String} {af:Array Edge}
theorem Ao{x:Operand}{d:DV}(hx:ev σ.env x=some d):du P ops ⟨some t,.move x,ty,pos,af,none⟩ (tm x) [] σ ⟨[(t,d)],[],[]⟩ :=
 du.val rfl rfl fun C F γ σ' a w h1 _ hs=>⟨_,rfl,hs.ev ((cQ h1 (fun _ h=>h)).trans hx)⟩
theorem ig{x:Operand}{d:DV}(hx:ev σ.env x=some d):du P ops ⟨some t,.assign x,ty,pos,af,none⟩ (tm x) [] σ ⟨[(t,d)],[],[]⟩ :=
 du.val rfl rfl fun C F γ σ' a w h1 _ hs=>⟨_,rfl,hs.ev ((cQ h1 (fun _ h=>h)).trans hx)⟩
theorem AO{C:Ctx}{F:dI}{γ:fc}{σ':AS}{a:Act}{w:World}{x y:Operand}{d e:DV}(hs:Sat C F γ σ' a w)(h1:∀t∈tm x++tm y,look σ'.env t=look σ.env t)(hx:ev σ.env x=some d)(hy:ev σ.env y=some e):Rs F γ d (a.eval x)∧Rs F γ e (a.eval y) :=
 ⟨hs.ev ((cQ h1 (fun _ h=>List.mem_append_left _ h)).trans hx),hs.ev ((cQ h1 (fun _ h=>List.mem_append_right _ h)).trans hy)⟩
def jH(op:BinOp)(k:IntKind)(x y:Int):Int :=
 let a:=BitVec.ofInt k.bits x
 let b:=BitVec.ofInt k.bits y
 match op with
 |.and=>k.wrap (a &&& b).toNat
 |.or=>k.wrap (a ||| b).toNat
 |.xor=>k.wrap (a ^^^ b).toNat
 |_=>k.wrap (a &&& ~~~b).toNat
def JJ(op:BinOp)(k:IntKind)(a b:Int):Option DV:=match op with
 |.add=>some (.int k (k.wrap (a+b)))
 |.sub=>some (.int k (k.wrap (a-b)))
 |.mul=>some (.int k (k.wrap (a*b)))
 |.and=>some (.int k (jH .and k a b))
 |.or=>some (.int k (jH .or k a b))
 |.xor=>some (.int k (jH .xor k a b))
 |.andNot=>some (.int k (jH .andNot k a b))
 |.eql=>some (.bool (a==b))
 |.neq=>some (.bool (a != b))
 |.lss=>some (.bool (decide (a<b)))
 |.leq=>some (.bool (decide (a≤b)))
 |.gtr=>some (.bool (decide (b<a)))
 |.geq=>some (.bool (decide (b≤a)))
 |_=>none
def DV.abg:DV→Value
 |.int k n=>.int k n
 |.bool b=>.bool b
 |_=>undef
theorem Um{op:BinOp}{k:IntKind}{a b:Int}{d:DV}(h:JJ op k a b=some d)(T:TypeId)(x y:Operand)(w:World) :
  (do eqGuard op T x y (.int k a) (.int k b);binOp op T (.int k a) (.int k b):Sem Value).run P w = .ok d.abg w:=by
 cases op <;> simp only[JJ,Option.some.injEq,reduceCtorEq]at h <;> subst h <;> cases k <;> rfl
theorem Xu{op:BinOp}{k:IntKind}{a b:Int}{d:DV}(h:JJ op k a b=some d)(F:dI)(γ:fc):Rs F γ d d.abg:=by
 cases op <;> simp only[JJ,Option.some.injEq,reduceCtorEq]at h <;> subst h <;> simp only[Rs,DV.abg]
theorem adu{op:BinOp}{T T':TypeId}{x y:Operand}{k:IntKind}{a b:Int}{d:DV}(hx:ev σ.env x=some (.int k a))(hy:ev σ.env y=some (.int k b))(hd:JJ op k a b=some d) :
  du P ops ⟨some t,.binOp op T x y T',ty,pos,af,none⟩ (tm x++tm y) [] σ ⟨[(t,d)],[],[]⟩ :=
 du.val rfl rfl fun C F γ σ' ac w h1 _ hs=>by
  obtain⟨k1,k2⟩:=AO hs h1 hx hy;simp only[Rs]at k1 k2;have r1:=Um (P:=P) hd T x y w;refine⟨d.abg,?_,Xu hd F γ⟩;simp only[execOp,k1,k2,Sem.run_bind]at r1 ⊢;rw[r1];rfl
@[reducible] def xU(k:IntKind)(n:Int):Prop:=match k with
 |.i8=>-128≤n∧n≤127
 |.i16=>-32768≤n∧n≤32767
 |.i32=>-2147483648≤n∧n≤2147483647
 |.i64=>-9223372036854775808≤n∧n≤9223372036854775807
 |.u8=>0≤n∧n≤255
 |.u16=>0≤n∧n≤65535
 |.u32=>0≤n∧n≤4294967295
 |.u64=>0≤n∧n≤18446744073709551615
theorem xI{k:IntKind}{n:Int}(h:xU k n):k.wrap n=n:=by
 cases k <;> simp only[xU]at h <;> simp[IntKind.wrap,IntKind.signed,IntKind.bits] <;> omega
theorem adx{T T':TypeId}{x y:Operand}{k:IntKind}{a b:Int}(hx:ev σ.env x=some (.int k a))(hy:ev σ.env y=some (.int k b))(hr:xU k (a+b)) :
  du P ops ⟨some t,.binOp .add T x y T',ty,pos,af,none⟩ (tm x++tm y) [] σ ⟨[(t,.int k (a+b))],[],[]⟩:=adu hx hy (by rw[JJ,xI hr])
theorem ahw{T T':TypeId}{x y:Operand}{k:IntKind}{a b:Int}(hx:ev σ.env x=some (.int k a))(hy:ev σ.env y=some (.int k b))(hr:0≤a∧0<b∧xU k (a / b)) :
  du P ops ⟨some t,.binOp .quo T x y T',ty,pos,af,none⟩ (tm x++tm y) [] σ ⟨[(t,.int k (a / b))],[],[]⟩ :=
 du.val rfl rfl fun C F γ σ' ac w h1 _ hs=>by
  obtain⟨k1,k2⟩:=AO hs h1 hx hy;simp only[Rs]at k1 k2;have hb:¬b=0:=by omega
  refine⟨.int k (a / b),?_,by simp only[Rs]⟩;have:k.wrap (a.tdiv b)=a / b:=by rw[Int.tdiv_eq_ediv_of_nonneg hr.1,xI hr.2.2]
  simp[execOp,k1,k2,eqGuard,binOp,Op.intDiv,hb,this]
theorem ahv{T T':TypeId}{x y:Operand}{k:IntKind}{a b:Int}(hx:ev σ.env x=some (.int k a))(hy:ev σ.env y=some (.int k b))(hr:0≤a∧0<b) :
  du P ops ⟨some t,.binOp .rem T x y T',ty,pos,af,none⟩ (tm x++tm y) [] σ ⟨[(t,.int k (a % b))],[],[]⟩ :=
 du.val rfl rfl fun C F γ σ' ac w h1 _ hs=>by
  obtain⟨k1,k2⟩:=AO hs h1 hx hy;simp only[Rs]at k1 k2;have hb:¬b=0:=by omega
  refine⟨.int k (a % b),?_,by simp only[Rs]⟩;have:a.tmod b=a % b:=Int.tmod_eq_emod_of_nonneg hr.1;simp[execOp,k1,k2,eqGuard,binOp,Op.intDiv,hb,this]
theorem ahs{T T':TypeId}{x y:Operand}{k k':IntKind}{a b:Int}(hx:ev σ.env x=some (.int k a))(hy:ev σ.env y=some (.int k' b))(hr:0≤b) :
  du P ops ⟨some t,.binOp .shr T x y T',ty,pos,af,none⟩ (tm x++tm y) [] σ ⟨[(t,.int k (a.fdiv (2^min b.toNat k.bits)))],[],[]⟩ :=
 du.val rfl rfl fun C F γ σ' ac w h1 _ hs=>by
  obtain⟨k1,k2⟩:=AO hs h1 hx hy;simp only[Rs]at k1 k2;have hb:¬b<0:=by omega
  exact⟨.int k (a.fdiv (2^min b.toNat k.bits)),by simp[execOp,k1,k2,eqGuard,binOp,Op.shift,hb],by simp only[Rs]⟩
theorem aht{T T':TypeId}{x y:Operand}{k k':IntKind}{a b:Int}(hx:ev σ.env x=some (.int k a))(hy:ev σ.env y=some (.int k' b))(hr:0≤b) :
  du P ops ⟨some t,.binOp .shl T x y T',ty,pos,af,none⟩ (tm x++tm y) [] σ ⟨[(t,.int k (k.wrap (a*2^min b.toNat k.bits)))],[],[]⟩ :=
 du.val rfl rfl fun C F γ σ' ac w h1 _ hs=>by
  obtain⟨k1,k2⟩:=AO hs h1 hx hy;simp only[Rs]at k1 k2;have hb:¬b<0:=by omega
  exact⟨.int k (k.wrap (a*2^min b.toNat k.bits)),by simp[execOp,k1,k2,eqGuard,binOp,Op.shift,hb],by simp only[Rs]⟩
theorem ahx{T:TypeId}{x:Operand}{b:Bool}(hx:ev σ.env x=some (.bool b)):du P ops ⟨some t,.unOp .not T x,ty,pos,af,none⟩ (tm x) [] σ ⟨[(t,.bool (!b))],[],[]⟩ :=
 du.val rfl rfl fun C F γ σ' ac w h1 _ hs=>by
  have k1:=hs.ev ((cQ h1 (fun _ h=>h)).trans hx);simp only[Rs]at k1;exact⟨.bool (!b),by simp[execOp,k1,Op.unary],by simp only[Rs]⟩
theorem ahy{T:TypeId}{x:Operand}{k:IntKind}{n:Int}(hx:ev σ.env x=some (.int k n)):du P ops ⟨some t,.unOp .neg T x,ty,pos,af,none⟩ (tm x) [] σ ⟨[(t,.int k (k.wrap (0-n)))],[],[]⟩ :=
 du.val rfl rfl fun C F γ σ' ac w h1 _ hs=>by
  have k1:=hs.ev ((cQ h1 (fun _ h=>h)).trans hx);simp only[Rs]at k1;exact⟨_,by simp[execOp,k1,Op.unary,Op.intArith];rfl,by simp only[Rs];simp⟩
theorem ahp{T:TypeId}{x:Operand}{k:IntKind}{n:Int}(hx:ev σ.env x=some (.int k n)):du P ops ⟨some t,.unOp .xor T x,ty,pos,af,none⟩ (tm x) [] σ ⟨[(t,.int k (jH .xor k (if k.signed then -1 else k.max) n))],[],[]⟩ :=
 du.val rfl rfl fun C F γ σ' ac w h1 _ hs=>by
  have k1:=hs.ev ((cQ h1 (fun _ h=>h)).trans hx);simp only[Rs]at k1;exact⟨_,by simp[execOp,k1,Op.unary,Op.intBits];rfl,by simp only[Rs];rfl⟩
class AD(P:Program)(t:TypeId)(k:outParam IntKind):Prop where
 h:P.underlying t=some (.int k):=by kernel_rfl
theorem XJ{S T:TypeId}{x:Operand}{k k' k0:IntKind}{n:Int}[AD P S k0][hT:AD P T k'](hx:ev σ.env x=some (.int k n)):du P ops ⟨some t,.convert S T x,ty,pos,af,none⟩ (tm x) [] σ ⟨[(t,.int k' (k'.wrap n))],[],[]⟩ :=
 du.val rfl rfl fun C F γ σ' ac w h1 _ hs=>by
  have k1:=hs.ev ((cQ h1 (fun _ h=>h)).trans hx);simp only[Rs]at k1;exact⟨_,by simp[execOp,k1,convert,run_underlying (AD.h (P:=P) (t:=S)),run_underlying (AD.h (P:=P) (t:=T)),Conv.intToInt];rfl,by simp only[Rs]⟩
class adI(P:Program)(t:TypeId):Prop where
 h:P.underlying t=some .bool:=by kernel_rfl
theorem UC{x:Operand}{i:Nat}{ds:List DV}{d:DV}(hx:ev σ.env x=some (.gW ds))(hd:ds[i]? = some d):du P ops ⟨some t,.extract x i,ty,pos,af,none⟩ (tm x) [] σ ⟨[(t,d)],[],[]⟩ :=
 du.val rfl rfl fun C F γ σ' ac w h1 _ hs=>by
  have k1:=hs.ev ((cQ h1 (fun _ h=>h)).trans hx);simp only[Rs]at k1;obtain⟨cs,e,hl⟩:=k1;obtain⟨v,hv,hr⟩:=hl.get hd;refine⟨v,?_,hr⟩;have:cs[i]? = some v:=by simpa using hv
  simp[execOp,e,Instr.extract,this]
theorem anI{c x:Operand}{b d:Bool}(hc:ev σ.env c=some (.bool b))(hx:ev σ.env x=some (.Ew (!b) (.bool d))):du P ops ⟨some t,.pick c (.const (.bool true)) x,ty,pos,af,none⟩ (tm c++tm x) [] σ ⟨[(t,.bool (b||d))],[],[]⟩ :=
 du.val rfl rfl fun C F γ σ' ac w h1 _ hs=>by
  obtain⟨k1,k2⟩:=AO hs h1 hc hx;simp only[Rs]at k1 k2;cases b
  ·have:=k2.1 rfl
   exact⟨.bool (false||d),by simp[execOp,k1,this,asBool],by simp only[Rs]⟩
  ·exact⟨.bool (true||d),by simp[execOp,k1,asBool,show ac.eval (.const (.bool true)) = .bool true from rfl],by simp only[Rs]⟩
theorem ahK{c x:Operand}{b d:Bool}(hc:ev σ.env c=some (.bool b))(hx:ev σ.env x=some (.Ew b (.bool d))):du P ops ⟨some t,.pick c x (.const (.bool false)),ty,pos,af,none⟩ (tm c++tm x) [] σ ⟨[(t,.bool (b&&d))],[],[]⟩ :=
 du.val rfl rfl fun C F γ σ' ac w h1 _ hs=>by
  obtain⟨k1,k2⟩:=AO hs h1 hc hx;simp only[Rs]at k1 k2;cases b
  ·exact⟨.bool (false&&d),by simp[execOp,k1,asBool,show ac.eval (.const (.bool false)) = .bool false from rfl],by simp only[Rs]⟩
  ·have:=k2.1 rfl
   exact⟨.bool (true&&d),by simp[execOp,k1,this,asBool],by simp only[Rs]⟩
end
end Go.Proofs.YtpeihknododmlaaGreatDoor
/-! ### part J -/
/-
 My engine,part J: the rules of the operations on memory,guards,calls.
-/
namespace Go.Proofs.YtpeihknododmlaaGreatDoor
open Go.RowKit
class qX(P:Program)(t:TypeId):Prop where
 h:TSc P t
class kE(P:Program)(t:TypeId)(n:outParam Nat):Prop where
 h:Zo P t n
class dE(P:Program)(t:TypeId)(n:outParam Nat):Prop where
 h:(P.info? t).map (·.size)=some n:=by kernel_rfl
class eZ(P:Program)(t:TypeId)(zs:outParam (List DV)):Prop where
 h:((P.info? t).bind (·.zero)).map (fun z=>z.cells.toList.map ox)=some zs:=by kernel_rfl
class bW(P:Program)(t:TypeId)(i:Nat)(off n:outParam Nat)(ft:outParam TypeId):Prop where
 h:∃fs f,P.underlying t=some (.struct fs)∧fs[i]? = some f∧f.type=ft∧f.offset=off
 s:(P.info? ft).map (·.size)=some n
 p:0<n
theorem zf(F:dI)(γ:fc):∀(l:List Value),(∀u∈l,u.oneCell'=true)→fG F γ (l.map ox) l
 |[],_=>by simp[fG]
 |v::l,h=>by
  simp only[List.map_cons,fG];exact⟨v,l,rfl,h v (by simp),uK _ _ _,zf F γ l (fun u hu=>h u (by simp[hu]))⟩
theorem head_drop{α:Type}(l:List α)(n:Nat):(l.drop n).head? = l[n]? := by
 rw[List.head?_eq_getElem?,List.getElem?_drop,Nat.add_zero]
section
variable {P:Program} {ops:Array Oper} {σ:AS} {t:Nat} {ty:TypeId} {pos:String} {af:Array Edge}
theorem ahJ{T:TypeId}{x:Operand}{d:DV}(hx:ev σ.env x=some d)(hf:d.flat=true):du P ops ⟨some t,.box T x,ty,pos,af,none⟩ (tm x) [] σ ⟨[(t,.ref t 0)],[(t,some (.bC T d.cs))],[t]⟩ :=
 du.gen rfl rfl fun C F γ σ' a w h1 _ h3 hs=>by
  have k1:=hs.ev ((cQ h1 (fun _ h=>h)).trans hx);have hn:t ∉ σ'.used:=h3 t (by simp);refine⟨.pointer (some ⟨w.heap.size,0,none⟩),w.alloc (.cells (a.eval x).cells T),F,γ.up t (.pointer (some ⟨w.heap.size,0,none⟩)),?_,sd.refl _,sS _ (hs.ws.fresh hn),?_,?_⟩
  ·simp[execOp,Instr.box,newVar,newRow]
  ·refine hs.ws.Di hn _ (fun b hb=>by simp[eU]at hb;exact hb.symm) ?_
   exact⟨w.heap.size,_,rfl,heap_alloc_new w _,Bs k1 hs.ws.gone hf⟩
  ·simp only[Rs];exact⟨w.heap.size,by simp[fc.up],rfl⟩
theorem abB{T:TypeId}{zs:List DV}[hz:eZ P T zs](ho:(zs.all DV.one)=true):du P ops ⟨some t,.alloc T,ty,pos,af,none⟩ [] [] σ ⟨[(t,.ref t 0)],[(t,some (.bC T zs))],[t]⟩ :=
 du.gen rfl rfl fun C F γ σ' a w h1 _ h3 hs=>by
  have hn:t ∉ σ'.used:=h3 t (by simp);have Nk:=hz.h;cases hq:P.info? T with
  |none=>simp[hq]at Nk
  |some i=>
   cases ZO:i.zero with
   |none=>simp[hq,ZO]at Nk
   |some z=>
    simp only[hq,ZO,Option.bind_some,Option.map_some,Option.some.injEq]at Nk
    have afx:∀u∈z.cells.toList,u.oneCell'=true:=by
     intro u hu;have:=List.all_eq_true.1 ho (ox u) (by rw[←Nk];exact List.mem_map.2 ⟨u,hu,rfl⟩);exact(uK F γ u).one hs.ws.gone this
    refine⟨.pointer (some ⟨w.heap.size,0,none⟩),w.alloc (.cells z.cells T),F,γ.up t (.pointer (some ⟨w.heap.size,0,none⟩)),?_,sd.refl _,sS _ (hs.ws.fresh hn),?_,?_⟩
    ·simp[execOp,Instr.alloc,zeroValue,typeInfo,hq,ZO,newVar,newRow]
    ·refine hs.ws.Di hn _ (fun b hb=>by simp[eU]at hb;exact hb.symm) ?_
     exact⟨w.heap.size,_,rfl,heap_alloc_new w _,by rw[←Nk];exact zf F γ _ afx⟩
    ·simp only[Rs];exact⟨w.heap.size,by simp[fc.up],rfl⟩
theorem QN{C:Ctx}{F:dI}{γ:fc}{σ':AS}{a:Act}{w:World}(hs:Sat C F γ σ' a w){id off T:Nat}{ds:List DV}{v:Value}(hv:Rs F γ (.ref id off) v)(hh:cB σ'.heap id=some (.bC T ds)) :
  ∃b cs,v = .pointer (some ⟨b,off,none⟩)∧γ id=some (.pointer (some ⟨b,0,none⟩))∧w.heap[b]? = some (.cells cs T (0,0))∧fG F γ ds cs.toList:=by
 obtain⟨g,hg,b,cs,rfl,hb,hl⟩:=hs.ws.uB id _ hh;simp only[Rs]at hv;obtain⟨b',iO,h5⟩:=hv;rw[hg]at iO;injection iO with iO;injection iO with iO;injection iO with iO;injection iO with iO _ _
 subst iO;exact⟨b,cs,h5,hg,hb,hl⟩
theorem Hg{T':TypeId}{x:Operand}{id off T:Nat}{ds:List DV}{d:DV}(hx:ev σ.env x=some (.ref id off))(hh:cB σ.heap id=some (.bC T ds))(hd:AU P T' (ds.drop off) d) :
  du P ops ⟨some t,.load T' x,ty,pos,af,none⟩ (tm x) [id] σ ⟨[(t,d)],[],[]⟩ :=
 du.val rfl rfl fun C F γ σ' a w h1 h2 hs=>by
  have k1:=hs.ev ((cQ h1 (fun _ h=>h)).trans hx);obtain⟨b,cs,e,hg,hb,hl⟩:=QN hs k1 ((h2 id (by simp)).trans hh);obtain⟨v,r1,r2,_⟩:=Gr hd (zQ hb off) (hl.drop off);exact⟨v,by simp[execOp,e,Instr.loadAt,Instr.sureAddr,r1],r2⟩
theorem Hf{T':TypeId}{x:Operand}{id off T:Nat}{ds:List DV}{d:DV}[hT:qX P T'](hx:ev σ.env x=some (.ref id off))(hh:cB σ.heap id=some (.bC T ds))(hd:ds[off]? = some d) :
  du P ops ⟨some t,.load T' x,ty,pos,af,none⟩ (tm x) [id] σ ⟨[(t,d)],[],[]⟩:=Hg hx hh (.sc hT.h (by rw[head_drop];exact hd))
theorem XH{T':TypeId}{x:Operand}{id off T n:Nat}{ds vO:List DV}[hT:kE P T' n](hx:ev σ.env x=some (.ref id off))(hh:cB σ.heap id=some (.bC T ds))(hn:Nat.ble n (ds.drop off).length=true)(hd:(ds.drop off).take n=vO) :
  du P ops ⟨some t,.load T' x,ty,pos,af,none⟩ (tm x) [id] σ ⟨[(t,.agg vO)],[],[]⟩:=Hg hx hh (.row n hT.h (Nat.le_of_ble_eq_true hn) (by rw[hd]))
theorem abj{C:Ctx}{F:dI}{γ:fc}{σ':AS}{a:Act}{w:World}(hs:Sat C F γ σ' a w){ds:List DV}{v:Value}(hv:Rs F γ (.jA ds) v) :
  ∃b o vs,v = .pointer (some ⟨b,o,none⟩)∧w.rangeAt b o vs∧fG F γ ds vs:=by
 simp only[Rs]at hv;obtain⟨b,o,cs,vs,rest,rfl,hb,hd,hl⟩:=hv;obtain⟨t,fz,h1⟩:=hs.ws.fs b cs hb;refine⟨b,o,vs,rfl,fun j v hv=>?_,hl.mono (sd.refl _) (rM.no _)⟩;have:=zQ h1 o;rw[hd]at this;exact this j v (by rw[List.getElem?_append_left];exact hv;exact(List.getElem?_eq_some_iff.1 hv).1)
theorem Oh{T':TypeId}{x:Operand}{ds:List DV}{d:DV}(hx:ev σ.env x=some (.jA ds))(hd:AU P T' ds d) :
  du P ops ⟨some t,.load T' x,ty,pos,af,none⟩ (tm x) [] σ ⟨[(t,d)],[],[]⟩ :=
 du.val rfl rfl fun C F γ σ' a w h1 h2 hs=>by
  have k1:=hs.ev ((cQ h1 (fun _ h=>h)).trans hx);obtain⟨b,o,vs,e,hr,hl⟩:=abj hs k1;obtain⟨v,r1,r2,_⟩:=Gr hd hr hl;exact⟨v,by simp[execOp,e,Instr.loadAt,Instr.sureAddr,r1],r2⟩
theorem Ux{T':TypeId}{x:Operand}{ds:List DV}{d:DV}[hT:qX P T'](hx:ev σ.env x=some (.jA ds))(hd:ds.head? = some d) :
  du P ops ⟨some t,.load T' x,ty,pos,af,none⟩ (tm x) [] σ ⟨[(t,d)],[],[]⟩:=Oh hx (.sc hT.h hd)
theorem Uy{T':TypeId}{x:Operand}{n:Nat}{ds vO:List DV}[hT:kE P T' n](hx:ev σ.env x=some (.jA ds))(hn:Nat.ble n ds.length=true)(hd:ds.take n=vO) :
  du P ops ⟨some t,.load T' x,ty,pos,af,none⟩ (tm x) [] σ ⟨[(t,.agg vO)],[],[]⟩:=Oh hx (.row n hT.h (Nat.le_of_ble_eq_true hn) (by rw[hd]))
theorem So{T':TypeId}{ds:List DV}{off:Nat}{d:DV}{F:dI}{γ:fc}{cs:Array Value}(hd:AU P T' (ds.drop off) d)(hl:fG F γ ds cs.toList)(w:World):∃v,(part T' cs off).run P w = .ok v w∧Rs F γ d v:=by
 have hl':=hl.drop off;rcases hd with⟨n,⟨dd,hu,acU,hi⟩,hn,rfl⟩|⟨⟨dd,hu,acU,hi⟩,hh⟩
 ·have ZN:(isAgg T').run P w = .ok true w:=by
   unfold isAgg;rw[Sem.run_bind,run_underlying hu w];cases dd <;> simp_all
  cases hq:P.info? T' with
  |none=>simp[hq]at hi
  |some i=>
   have hs:i.size=n:=by simpa [hq]using hi
   refine⟨.agg (cs.extract off (off+n)),?_,?_⟩
   ·simp[part,Sem.run_bind,ZN,sizeOf,typeInfo,hq,hs]
   ·simp only[Rs]
    refine⟨_,rfl,?_⟩;have:=hl'.take n;have e:(cs.extract off (off+n)).toList=(cs.toList.drop off).take n:=by simp
    rw[e];exact this
 ·have ZN:(isAgg T').run P w = .ok false w:=by
   unfold isAgg;rw[Sem.run_bind,run_underlying hu w];cases dd <;> simp_all
  rw[head_drop]at hh;obtain⟨v,h1,h2,h3⟩:=hl.get hh;have:cs[off]? = some v:=by simpa using h1
  exact⟨v,by simp[part,Sem.run_bind,ZN,this],h3⟩
theorem abt{T:TypeId}{i off n:Nat}{ft:TypeId}[hF:bW P T i off n ft]{x:Operand}{ds:List DV}{d:DV}(hx:ev σ.env x=some (.agg ds))(hd:AU P ft (ds.drop off) d) :
  du P ops ⟨some t,.field T x i,ty,pos,af,none⟩ (tm x) [] σ ⟨[(t,d)],[],[]⟩ :=
 du.val rfl rfl fun C F γ σ' a w h1 h2 hs=>by
  have k1:=hs.ev ((cQ h1 (fun _ h=>h)).trans hx);simp only[Rs]at k1;obtain⟨cs,e,hl⟩:=k1;obtain⟨fs,f,hu,hf,rfl,rfl⟩:=hF.h;obtain⟨v,r1,r2⟩:=So hd hl w;exact⟨v,by simp[execOp,e,Instr.field,run_underlying hu,hf,asAgg,r1],r2⟩
theorem UB{T:TypeId}{i off n:Nat}{ft:TypeId}[hF:bW P T i off n ft][hT:qX P ft]{x:Operand}{ds:List DV}{d:DV}(hx:ev σ.env x=some (.agg ds))(hd:ds[off]? = some d) :
  du P ops ⟨some t,.field T x i,ty,pos,af,none⟩ (tm x) [] σ ⟨[(t,d)],[],[]⟩:=abt hx (.sc hT.h (by rw[head_drop];exact hd))
theorem BC{T:TypeId}{i off n:Nat}{ft:TypeId}[hF:bW P T i off n ft](b o:Nat)(w:World):(Instr.fieldAt T (.pointer (some ⟨b,o,none⟩)) i).run P w = .ok (.pointer (some ⟨b,o+off,none⟩)) w:=by
 obtain⟨fs,f,hu,hf,rfl,rfl⟩:=hF.h;have hs:=hF.s;have hp:=hF.p;cases hq:P.info? f.type with
 |none=>simp[hq]at hs
 |some i'=>
  have e:i'.size=n:=by simpa [hq]using hs
  have pQ:¬n=0:=by omega
  by_cases h0:f.offset=0
  ·simp[Instr.fieldAt,run_underlying hu,hf,Instr.sureAddr,fieldPlace,sizeOf,typeInfo,hq,e,pQ,Addr.add,h0]
  ·simp[Instr.fieldAt,run_underlying hu,hf,Instr.sureAddr,fieldPlace,sizeOf,typeInfo,hq,e,pQ,Addr.add,h0]
theorem Oj{T:TypeId}{i fo n:Nat}{ft:TypeId}[hF:bW P T i fo n ft]{x:Operand}{id off:Nat}(hx:ev σ.env x=some (.ref id off)):du P ops ⟨some t,.fieldAddr T x i,ty,pos,af,none⟩ (tm x) [] σ ⟨[(t,.ref id (off+fo))],[],[]⟩ :=
 du.val rfl rfl fun C F γ σ' a w h1 h2 hs=>by
  have k1:=hs.ev ((cQ h1 (fun _ h=>h)).trans hx);simp only[Rs]at k1;obtain⟨b,hg,e⟩:=k1;refine⟨_,by simp[execOp,e,BC];rfl,?_⟩;simp only[Rs];exact⟨b,hg,rfl⟩
theorem IB{T:TypeId}{i fo n:Nat}{ft:TypeId}[hF:bW P T i fo n ft]{x:Operand}{ds vO:List DV}(hx:ev σ.env x=some (.jA ds))(hd:ds.drop fo=vO):du P ops ⟨some t,.fieldAddr T x i,ty,pos,af,none⟩ (tm x) [] σ ⟨[(t,.jA vO)],[],[]⟩ :=
 du.val rfl rfl fun C F γ σ' a w h1 h2 hs=>by
  have k1:=hs.ev ((cQ h1 (fun _ h=>h)).trans hx);simp only[Rs]at k1;obtain⟨b,o,cs,vs,rest,e,hb,h3,hl⟩:=k1;refine⟨_,by simp[execOp,e,BC];rfl,?_⟩;simp only[Rs];have h5:=hl.drop fo;rw[hd]at h5
  by_cases hle:fo≤vs.length
  ·refine⟨b,o+fo,cs,vs.drop fo,rest,rfl,hb,?_,h5⟩
   rw[←List.drop_drop,h3,List.drop_append_of_le_length hle]
  ·refine⟨b,o+fo,cs,[],cs.toList.drop (o+fo),rfl,hb,by simp,?_⟩
   rw[List.drop_of_length_le (by omega)]at h5;exact h5
theorem IA{T:TypeId}{i fo n:Nat}{ft:TypeId}[hF:bW P T i fo n ft]{x:Operand}{id j sz o:Nat}(hx:ev σ.env x=some (.rp id j sz o)):du P ops ⟨some t,.fieldAddr T x i,ty,pos,af,none⟩ (tm x) [] σ ⟨[(t,.rp id j sz (o+fo))],[],[]⟩ :=
 du.val rfl rfl fun C F γ σ' a w h1 h2 hs=>by
  have k1:=hs.ev ((cQ h1 (fun _ h=>h)).trans hx);simp only[Rs]at k1;obtain⟨b,n,c,hg,e⟩:=k1;refine⟨_,by simp[execOp,e,BC];rfl,?_⟩;simp only[Rs];exact⟨b,n,c,hg,by rw[Nat.add_assoc]⟩
theorem QU{x:Operand}{id off:Nat}(hx:ev σ.env x=some (.ref id off)):du P ops ⟨some t,.nilCheck x,ty,pos,af,none⟩ (tm x) [] σ ⟨[(t,.ref id off)],[],[]⟩ :=
 du.val rfl rfl fun C F γ σ' a w h1 h2 hs=>by
  have k1:=hs.ev ((cQ h1 (fun _ h=>h)).trans hx);have k2:=k1;simp only[Rs]at k1;obtain⟨b,hg,e⟩:=k1;exact⟨.pointer (some ⟨b,off,none⟩),by simp[execOp,e],by rw[e]at k2;exact k2⟩
theorem CF{w:World}{g o:Nat}{T:TypeId}{cur:Array Value}(T':TypeId)(v:Value)(hB:w.heap[g]? = some (.cells cur T (0,0)))(hi:(P.info? T').map (·.size)=some v.cells.size)(ZP:o+v.cells.size≤cur.size)
  (h1:∀u∈v.cells.toList,u.oneCell'=true):(storeVar T' ⟨g,o,none⟩ v).run P w = .ok () (w.setRow g (lay cur o v.cells.toList)):=by
 have yL:=run_storeCells_at P g o T v.cells.toList 0 cur w hB (by simpa using ZP) h1;cases hq:P.info? T' with
 |none=>simp[hq]at hi
 |some i=>
  have hs:v.cells.size=i.size:=by simp[hq]at hi;omega
  simp only[Nat.add_zero]at yL;simp[storeVar,sizeOf,typeInfo,hq,hs,yL,lay]
def vH(ds:List DV)(o:Nat)(cs:List DV):List DV:=ds.take o++cs++ds.drop (o+cs.length)
theorem zN(cur:Array Value)(o:Nat)(cs:List Value):(lay cur o cs).toList=cur.toList.take o++cs++cur.toList.drop (o+cs.length):=by
 unfold lay;simp
theorem vf.setRow{w:World}{g:Nat}(cs:Array Value){cur:Array Value}{T:TypeId}{fz:Nat×Nat}(h:w.heap[g]? = some (.cells cur T fz)):vf w (w.setRow g cs) (some g)∧(w.setRow g cs).heap[g]? = some (.cells cs T fz) :=
 ⟨⟨rfl,rfl,rfl,by simp,fun k _ hk=>setRow_other w g k _ (fun e=>hk (by rw[e]))⟩,setRow_heap w g cur _ T _ h⟩
theorem wA(id:Nat)(e:Option HE)(h:eY)(i:Nat)(e':HE)(hi:cB ([(id,e)]++h) i=some e'):cB ((id,e)::(id,none)::h) i=some e':=by
 rw[List.singleton_append,dj]at hi;rw[dj]
 by_cases hid:id=i
 ·rw[if_pos hid]at hi ⊢;exact hi
 ·rw[if_neg hid]at hi ⊢;rw[dj,if_neg hid];exact hi
theorem Lu{T':TypeId}{x y:Operand}{id off T n:Nat}{ds vO:List DV}{d:DV}[hT:dE P T' n](hx:ev σ.env x=some (.ref id off))(hy:ev σ.env y=some d)(hh:cB σ.heap id=some (.bC T ds))(hf:d.flat=true)(hn:Nat.beq n d.cs.length=true)(hl:Nat.ble (off+n) ds.length=true)(hd:vH ds off d.cs=vO) :
  du P ops ⟨none,.store T' x y,ty,pos,af,none⟩ (tm x++tm y) [id] σ ⟨[],[(id,some (.bC T vO))],[]⟩ :=
 du.skip rfl rfl fun C F γ σ' a w h1 h2 hs=>by
  obtain⟨k1,k2⟩:=AO hs h1 hx hy;have sO:=(h2 id (by simp)).trans hh;obtain⟨b,cs,e,hg,hb,hrl⟩:=QN hs k1 sO;have kc:=Bs k2 hs.ws.gone hf;have hn':n=d.cs.length:=Nat.eq_of_beq_eq_true hn;have hlen:=kc.len;have Cw:=hrl.len;have hle:=Nat.le_of_ble_eq_true hl;have mw:=CF (P:=P) (o:=off) T' (a.eval y) hb (by rw[hT.h,hn',←hlen];simp) (by simp at hlen Cw;omega) kc.one;obtain⟨s1,s2⟩:=vf.setRow (lay cs off (a.eval y).cells.toList) hb;refine⟨_,by simp[execOp,e,Instr.storeAt,Instr.sureAddr,mw];rfl,?_⟩;have W:=hs.ws.FI sO hg (by simpa [eU]using s1);have W2:=W.put (id0:=id) (e0:=.bC T vO) hg ⟨b,_,rfl,s2,?_⟩ (fun b' iO=>?_)
  ·exact W2.congr (fun i e hi=>wA id _ _ i e hi) (fun _ h=>h)
  ·rw[zN,←hd,vH]
   rw[←hlen];exact((hrl.take off).append kc).append (hrl.drop _)
  ·have ho:=hs.ws.own id _ _ b' sO hg iO
   refine⟨ho.1,ho.2,fun i e g pQ hi Pp Pq=>?_⟩;rw[dj]at hi
   split at hi
   ·cases hi
   ·exact pQ (hs.ws.apart i id e _ g _ b' hi sO Pp hg Pq iO)
end
end Go.Proofs.YtpeihknododmlaaGreatDoor
/-! ### part K -/
/-
 My engine,part K: guards,calls,states that hold others.
-/
namespace Go.Proofs.YtpeihknododmlaaGreatDoor
open Go.RowKit
def vT(o:Op):List Nat:=o.operands.toList.flatMap tm
theorem EW(env:List (Nat×DV)):∀(L:List Nat) (x:Nat),look (L.filterMap fun y=>(look env y).map (y,·)) x=if x∈L then look env x else none
 |[],x=>by simp[look]
 |y::L,x=>by
  have ih:=EW env L x;rw[List.filterMap_cons];cases hl:look env y with
  |none=>
   simp only[Option.map_none];rw[ih]
   by_cases hm:x∈L
   ·simp[hm]
   ·by_cases e:x=y
    ·subst e;simp[hl]
    ·simp[hm,e]
  |some d=>
   simp only[Option.map_some];rw[eW,ih]
   by_cases e:y=x
   ·subst e;simp[hl]
   ·have e':¬x=y:=fun h=>e h.symm
    simp[e,e']
section
variable {P:Program} {ops:Array Oper} {σ:AS} {t:Nat} {ty:TypeId} {pos:String} {af:Array Edge}
theorem nt{b:Bool}(h:b=false):(!b)=true:=by rw[h];rfl
def Ie(e:List (Nat×DV)):List Operand→Option (List DV)
 |[]=>some []
 |x::xs=>match ev e x,Ie e xs with
  |some d,some ds=>some (d::ds)
  |_,_=>none
theorem yb{rt:List Nat}{e e':List (Nat×DV)}(h:∀t∈rt,look e' t=look e t):∀{xs:List Operand},(∀t∈xs.flatMap tm,t∈rt)→Ie e' xs=Ie e xs
 |[],_=>rfl
 |x::xs,hx=>by
  simp only[List.flatMap_cons,List.mem_append]at hx;rw[Ie,Ie,cQ h (fun t ht=>hx t (.inl ht)),yb h (fun t ht=>hx t (.inr ht))]
theorem Sat.evs{C:Ctx}{F:dI}{γ:fc}{σ:AS}{a:Act}{w:World}(H:Sat C F γ σ a w):∀{xs:List Operand} {ds:List DV},Ie σ.env xs=some ds→sM F γ ds (xs.map a.eval)
 |[],ds,h=>by simp only[Ie]at h;injection h with h;subst h;simp[sM]
 |x::xs,ds,h=>by
  simp only[Ie]at h;cases h1:Proofs.YtpeihknododmlaaGreatDoor.ev σ.env x with
  |none=>rw[h1]at h;cases h
  |some d=>
   cases h2:Ie σ.env xs with
   |none=>rw[h1,h2]at h;cases h
   |some vO=>
    rw[h1,h2]at h;injection h with h;subst h
    simp only[List.map_cons,sM];exact⟨_,_,rfl,H.ev h1,H.evs h2⟩
class dq(P:Program)(f:FuncId):Prop where
 h:(P.funcs[f]?).map (fun fn=>(fn.name == "runtime.NumGoroutine",fn.body.isSome))=some (false,true):=by kernel_rfl
theorem Ak{f:FuncId}[hf:dq P f](vs:Array Value)(w:World):(callFunc f vs).run P w = .ok (.enter f vs) w:=by
 have:=hf.h;cases hq:P.funcs[f]? with
 |none=>simp[hq]at this
 |some fn=>
  simp only[hq,Option.map_some,Option.some.injEq,Prod.mk.injEq]at this;obtain⟨h1,h2⟩:=this;have h3:¬fn.body=none:=by rintro e;rw[e]at h2;cases h2
  have h4:¬fn.name = "runtime.NumGoroutine" := by simpa using h1
  simp[callFunc,program,Sem.run,hq,h3,h4]
theorem NS{f:FuncId}[hf:dq P f](o:Oper)(xs:Array Operand)(ats:Array TypeId)(ho:o.op = .call ⟨.value (.func f),xs,ats⟩)(a:Act)(w:World):(execOp a.eval o).run P w = .ok (.enter f (xs.map a.eval)) w:=by
 have:a.eval (.func f) = .func (.func f) #[] #[]:=rfl;simp[execOp,ho,resolve,this,Deferred.ofValue,invoke,Ak]
theorem Ly{f:FuncId}[hf:dq P f]{xs:Array Operand}{ats:Array TypeId}{ds args:List DV}{r:DV}(hc:bx P f args r)(ha:Ie σ.env xs.toList=some ds)(hle:oJ ds args)(hp:xQ args = []) :
  du P ops ⟨some t,.call ⟨.value (.func f),xs,ats⟩,ty,pos,af,none⟩ (xs.toList.flatMap tm) [] σ ⟨[(t,r)],[],[]⟩:=by
 intro C F γ σ' a w h1 h2 h3 h4 hs K Q hK;simp only[Region.wanted,↓reduceIte];refine wI (fun c hc=>by cases hc) (NS _ xs ats rfl a w) ?_;have hv:=hle.rsT (hs.evs ((yb h1 (fun _ h=>h)).trans ha));have TD:sM F fc.no args (xs.toList.map a.eval):=Eg args _ (by rw[hp];simp) hv;have e:(xs.toList.map a.eval).toArray=xs.map a.eval:=by rw[←Array.toList_map]
 have:=hc C F γ σ'.heap σ'.used w _ hs.ws TD;rw[e]at this;refine this.mono ?_;rintro e w' ⟨v,F',rfl,k1,k2,k3⟩;exact⟨v,rfl,hK F' γ _ _ k1 ((hs.mono k1 (rM.refl _) k2).put (h4 t rfl) (k3.mono (sd.refl _) (rM.no _)))⟩
inductive xG(f:Nat→Nat)(heap:eY):eY→Prop
 |nil:xG f heap []
 |cons {i:Nat} {e:HE} {h:eY} (he:cB heap (f i)=some (e.ua f)) (k:xG f heap h):xG f heap ((i,some e)::h)
theorem xG.spec{f:Nat→Nat}{heap h:eY}(k:xG f heap h):∀i e,cB h i=some e→cB heap (f i)=some (e.ua f):=by
 induction k with
 |nil=>intro i e he;simp[cB,look]at he
 |cons he k ih=>
  intro i e hi;rw[dj]at hi
  split at hi
  ·rename_i e1;subst e1;injection hi with hi;subst hi;exact he
  ·exact ih i e hi
def za(f:Nat→Nat)(l:List Nat):Bool:=l.all fun i=>l.all fun j=>!Nat.beq (f i) (f j)||Nat.beq i j
theorem Db{f:Nat→Nat}{l:List Nat}(h:za f l=true):∀i∈l,∀j∈l,f i=f j→i=j:=by
 intro i hi j hj e;have:=List.all_eq_true.1 (List.all_eq_true.1 h i hi) j hj;rw[e]at this;simp at this;exact this
theorem aby{fn:FuncId}[hf:dq P fn]{xs:Array Operand}{ats:Array TypeId}{K:RC}(f:Nat→Nat)(hc:iM P fn K){ds:List DV}(ha:Ie σ.env xs.toList=some ds)(hle:oJ ds (yo f K.args))(vg:xG f σ.heap K.pre)(hi:za f (K.pre.map (·.1)++K.new)=true) :
  du P ops ⟨some t,.call ⟨.value (.func fn),xs,ats⟩,ty,pos,af,none⟩ (xs.toList.flatMap tm) (K.pre.map (fun p=>f p.1)) σ ⟨[(t,K.res.ua f)],sL f K.post,K.new.map f⟩:=by
 intro C F γ σ' a w h1 h2 h3 h4 hs K' Q hK;simp only[Region.wanted,↓reduceIte];refine wI (fun c hc=>by cases hc) (NS _ xs ats rfl a w) ?_;have hv:=hle.rsT (hs.evs ((yb h1 (fun _ h=>h)).trans ha));have e:(xs.toList.map a.eval).toArray=xs.map a.eval:=by rw[←Array.toList_map]
 have:=hc C F γ σ'.heap σ'.used w _ f (fun i e he=>by
  rw[h2 (f i) (List.mem_map.2 ⟨_,wZ he,rfl⟩)];exact vg.spec i e he) (fun i Cf=>h3 (f i) (List.mem_map.2 ⟨i,Cf,rfl⟩)) (Db hi) hs.ws hv
 rw[e]at this;refine this.mono ?_;rintro e w' ⟨v,F',γ',rfl,k1,k2,k3,k4⟩;exact⟨v,rfl,hK F' γ' _ _ k1 ((hs.mono k1 k2 k3).put (h4 t rfl) k4)⟩
end
end Go.Proofs.YtpeihknododmlaaGreatDoor
/-! ### part L -/
/-
 My engine,part L: slices.
-/
namespace Go.Proofs.YtpeihknododmlaaGreatDoor
open Go.RowKit
def Ab(z:Value):DV:=match z with
 |.agg cs=>.agg (cs.toList.map ox)
 |v=>ox v
class oa(P:Program)(t:TypeId)(e:outParam TypeId)(sz bytes:outParam Nat)(zd:outParam DV):Prop where
 h:∃z,El P t e z sz bytes∧Ab z=zd
theorem oa.Fo{P:Program}{t e:TypeId}{sz bytes:Nat}{zd:DV}(h:oa P t e sz bytes zd):P.underlying t=some (.slice e):=by obtain⟨z,h,_⟩:=h.h;exact h.under
theorem oa.size{P:Program}{t e:TypeId}{sz bytes:Nat}{zd:DV}(h:oa P t e sz bytes zd)(w:World):(sizeOf e).run P w = .ok sz w:=by
 obtain⟨z,h,_⟩:=h.h;obtain⟨i,hi,_,hs,_⟩:=h.info;simp[sizeOf,typeInfo,hi,hs]
section
variable {P:Program} {ops:Array Oper} {σ:AS} {t:Nat} {ty:TypeId} {pos:String} {af:Array Edge}
theorem Gl{T:TypeId}{e:TypeId}(hu:P.underlying T=some (.slice e))(o:Oper)(x:Operand)(ho:o.op = .call ⟨.builtin .len,#[x],#[T]⟩)(a:Act)(w:World){A:Option Addr}{n c:Nat}(hx:a.eval x = .slice A n c):(execOp a.eval o).run P w = .ok (.value (.int .i64 n)) w:=by
 simp[execOp,ho,resolve,invoke,builtin,Builtin.len_,run_underlying hu,hx,goInt]
theorem ahB{T e:TypeId}{HR yR:Nat}{zd:DV}[hT:oa P T e HR yR zd]{x:Operand}{sz:Nat}{eC:List DV}(hx:ev σ.env x=some (.sl sz eC)):du P ops ⟨some t,.call ⟨.builtin .len,#[x],#[T]⟩,ty,pos,af,none⟩ (tm x) [] σ ⟨[(t,.int .i64 eC.length)],[],[]⟩ :=
 du.val rfl rfl fun C F γ σ' a w h1 _ hs=>by
  have k1:=hs.ev ((cQ h1 (fun _ h=>h)).trans hx);simp only[Rs]at k1;obtain⟨A,c,e,_⟩:=k1;exact⟨.int .i64 eC.length,Gl hT.Fo _ x rfl a w e,by simp only[Rs]⟩
theorem abr{T e:TypeId}{HR yR:Nat}{zd:DV}[hT:oa P T e HR yR zd]{x:Operand}(hx:ev σ.env x=some .bq):du P ops ⟨some t,.call ⟨.builtin .len,#[x],#[T]⟩,ty,pos,af,none⟩ (tm x) [] σ ⟨[(t,.int .i64 0)],[],[]⟩ :=
 du.val rfl rfl fun C F γ σ' a w h1 _ hs=>by
  have k1:=hs.ev ((cQ h1 (fun _ h=>h)).trans hx);simp only[Rs]at k1;exact⟨.int .i64 0,Gl hT.Fo _ x rfl a w k1,by simp only[Rs]⟩
theorem zq{C:Ctx}{F:dI}{γ:fc}{σ':AS}{a:Act}{w:World}(hs:Sat C F γ σ' a w){id E sz:Nat}{eC:List DV}{v:Value}(hv:Rs F γ (.row id) v)(hh:cB σ'.heap id=some (.row E sz eC)) :
  ∃A c vs,v = .slice A eC.length c∧γ id=some v∧w.ownsRow 0 E sz v eC.length vs∧mT F sz eC vs:=by
 obtain⟨g,hg,vs,ho,hE⟩:=hs.ws.uB id _ hh;simp only[Rs]at hv;rw[hg]at hv;injection hv with hv;subst hv
 obtain⟨A,c,e⟩:=DH ho;exact⟨A,c,vs,e,hg,ho,hE⟩
theorem abq{T e:TypeId}{HR yR:Nat}{zd:DV}[hT:oa P T e HR yR zd]{x:Operand}{id E sz:Nat}{eC:List DV}(hx:ev σ.env x=some (.row id))(hh:cB σ.heap id=some (.row E sz eC)):du P ops ⟨some t,.call ⟨.builtin .len,#[x],#[T]⟩,ty,pos,af,none⟩ (tm x) [id] σ ⟨[(t,.int .i64 eC.length)],[],[]⟩ :=
 du.val rfl rfl fun C F γ σ' a w h1 h2 hs=>by
  have k1:=hs.ev ((cQ h1 (fun _ h=>h)).trans hx);obtain⟨A,c,vs,e,_⟩:=zq hs k1 ((h2 id (by simp)).trans hh);exact⟨.int .i64 eC.length,Gl hT.Fo _ x rfl a w e,by simp only[Rs]⟩
def Bd(σ:AS)(x:Option Operand)(aoV n:Nat):Prop:=match x with
 |none=>n=aoV
 |some y=>∃k,ev σ.env y=some (.int k (n:Int))
theorem Bd.no{σ:AS}{d:Nat}:Bd σ none d d:=rfl
theorem Bd.at{σ:AS}{y:Operand}{d n:Nat}{k:IntKind}{m:Int}(h:ev σ.env y=some (.int k m))(hm:m=(n:Int)):Bd σ (some y) d n:=⟨k,by rw[h,hm]⟩
def Ir:Option Operand→List Nat
 |none=>[]
 |some x=>tm x
theorem uN{k:IntKind}{n y:Nat}(h:n≤y)(cd:BoundsCode)(w:World):(Instr.sliceBound (.int k (n:Int)) y cd).run P w = .ok n w:=by
 simp[Instr.sliceBound,asIntOf,h]
theorem yk{C:Ctx}{F:dI}{γ:fc}{σ':AS}{a:Act}{w:World}(hs:Sat C F γ σ' a w){lo hi:Option Operand}{l h len cap:Nat}(hl:Bd σ' lo 0 l)(hh:Bd σ' hi len h)(h1:l≤h)(h2:h≤cap) :
  (Instr.sliceBounds true len cap (lo.map a.eval) (hi.map a.eval) none).run P w = .ok (l,h,cap) w:=by
 have e1:∀x k n,ev σ'.env x=some (.int k n)→a.eval x = .int k n:=fun x k n hx=>by have:=hs.ev hx;simpa only[Rs]using this
 cases lo with
 |none=>
  cases hi with
  |none=>simp only[Bd]at hl hh;subst hl;subst hh;simp[Instr.sliceBounds]
  |some y=>
   obtain⟨k,hk⟩:=hh;simp only[Bd]at hl;subst hl;simp[Instr.sliceBounds,e1 _ _ _ hk,uN h2]
 |some x=>
  obtain⟨k',Ek⟩:=hl;cases hi with
  |none=>simp only[Bd]at hh;subst hh;simp[Instr.sliceBounds,e1 _ _ _ Ek,uN h1]
  |some y=>
   obtain⟨k,hk⟩:=hh;simp[Instr.sliceBounds,e1 _ _ _ hk,e1 _ _ _ Ek,uN h2,uN h1]
theorem Bd.agree{rt:List Nat}{σ':AS}(h:∀t∈rt,look σ'.env t=look σ.env t){x:Option Operand}(hx:∀t∈Ir x,t∈rt){d n:Nat}(hb:Bd σ x d n):Bd σ' x d n:=by
 cases x with
 |none=>exact hb
 |some y=>obtain⟨k,hk⟩:=hb;exact⟨k,by rw[cQ h hx];exact hk⟩
theorem Sv{T e:TypeId}{sz yR:Nat}{zd:DV}[hT:oa P T e sz yR zd]{x:Operand}{lo hi:Option Operand}{eC:List DV}(l h:Nat)(hx:ev σ.env x=some (.sl sz eC))(hl:Bd σ lo 0 l)(hh:Bd σ hi eC.length h)(h1:l≤h)(h2:h≤eC.length) :
  du P ops ⟨some t,.slice T x lo hi none,ty,pos,af,none⟩ (tm x++Ir lo++Ir hi) [] σ ⟨[(t,.sl sz ((eC.take h).drop l))],[],[]⟩ :=
 du.val rfl rfl fun C F γ σ' a w uL _ hs=>by
  have k1:=hs.ev ((cQ uL (fun _ h=>by simp[h])).trans hx);simp only[Rs]at k1;obtain⟨A,c,e,Cj,hd⟩:=k1;have hb:=yk (P:=P) hs (hl.agree uL (fun _ h=>by simp[h])) (hh.agree uL (fun _ h=>by simp[h])) h1 (Nat.le_trans h2 Cj.2.1);refine⟨.slice (if c=l then A else A.map (·.add (l*sz))) (h-l) (c-l),?_,?_⟩
  ·simp[execOp,Instr.sliceAt,Instr.slice,run_underlying hT.Fo,e,hb,hT.size]
  ·simp only[Rs]
   have hlen:((eC.take h).drop l).length=h-l:=by simp;omega
   refine⟨_,c-l,by rw[hlen],⟨fun hn=>?_,by have:=Cj.2.1;rw[hlen];omega,by have:=Cj.2.2;omega⟩,fun pQ=>?_⟩
   ·have hA:A=none:=by
     split at hn
     ·exact hn
     ·cases A <;> simp_all
    have:=Cj.1 hA;omega
   ·have pE:l<h:=by
     rcases Nat.lt_or_ge l h with h|h
     ·exact h
     ·exact absurd (List.eq_nil_of_length_eq_zero (by omega)) pQ
    have aoW:eC≠[]:=by rintro rfl;simp at h2;omega
    obtain⟨b,o,cs,vs,rest,rfl,hF,yS,hE⟩:=hd aoW;have Cw:¬c=l:=by have:=Cj.2.1;omega
    have RH:=hE.len;have hmul:h*sz≤vs.length:=by rw[RH];exact Nat.mul_le_mul_right _ h2
    have aAq:l*sz≤h*sz:=Nat.mul_le_mul_right _ h1;refine⟨b,o+l*sz,cs,(vs.take (h*sz)).drop (l*sz),vs.drop (h*sz)++rest,?_,hF,?_,(hE.take h).drop l⟩
    ·simp only[Cw,if_false,Option.map_some,Addr.add]
     by_cases h0:l*sz=0 <;> simp[h0]
    ·rw[←List.drop_drop,yS,List.drop_append_of_le_length (by omega)]
     rw[←List.append_assoc]
     congr 1
     rw[List.drop_take];have:vs.drop (l*sz)=(vs.drop (l*sz)).take (h*sz-l*sz)++(vs.drop (l*sz)).drop (h*sz-l*sz):=(List.take_append_drop _ _).symm;rw[List.drop_drop,show l*sz+(h*sz-l*sz)=h*sz by omega]at this;exact this
theorem Oi{T e:TypeId}{sz yR:Nat}{zd:DV}[hT:oa P T e sz yR zd]{x y:Operand}{eC:List DV}{k:IntKind}{n:Int}{d:DV}(i:Nat)(hx:ev σ.env x=some (.sl sz eC))(hy:ev σ.env y=some (.int k n))(hn:n=(i:Int))(hd:eC[i]? = some d)(hf:d.flat=true) :
  du P ops ⟨some t,.indexAddr T x y,ty,pos,af,none⟩ (tm x++tm y) [] σ ⟨[(t,.jA d.cs)],[],[]⟩ :=
 du.val rfl rfl fun C F γ σ' a w uL _ hs=>by
  obtain⟨k1,k2⟩:=AO hs uL hx hy;simp only[Rs]at k1 k2;obtain⟨A,c,e,Cj,hdd⟩:=k1
  have pE:i<eC.length:=by
   rcases Nat.lt_or_ge i eC.length with h|h
   ·exact h
   ·rw[List.getElem?_eq_none h]at hd;cases hd
  obtain⟨b,o,cs,vs,rest,rfl,hF,yS,hE⟩:=hdd (by rintro rfl;simp at pE);subst hn;obtain⟨v,q1,q2,q3,q4⟩:=hE.get hd;refine⟨.pointer (some ⟨b,o+i*sz,none⟩),?_,?_⟩
  ·by_cases h0:i*sz=0
   ·simp[execOp,Instr.indexAt,e,k2,asIntOf,run_underlying hT.Fo,pE,hT.size,Addr.add,h0]
   ·simp[execOp,Instr.indexAt,e,k2,asIntOf,run_underlying hT.Fo,pE,hT.size,Addr.add,h0]
  ·simp only[Rs]
   have RH:=hE.len;have hm:(i+1)*sz≤eC.length*sz:=Nat.mul_le_mul_right _ pE;rw[Nat.succ_mul]at hm;refine⟨b,o+i*sz,cs,v.cells.toList,vs.drop (i*sz+sz)++rest,rfl,hF,?_,Bs q4 FX.no hf⟩;rw[←List.drop_drop,yS,List.drop_append_of_le_length (by omega),←q1,←List.append_assoc]
   congr 1
   rw[←List.drop_drop,List.take_append_drop]
theorem Iz{T e:TypeId}{sz yR:Nat}{zd:DV}[hT:oa P T e sz yR zd]{x y:Operand}{id E:Nat}{eC:List DV}{k:IntKind}{n:Int}(i:Nat)(hx:ev σ.env x=some (.row id))(hh:cB σ.heap id=some (.row E sz eC))(hy:ev σ.env y=some (.int k n))(hn:n=(i:Int))(hi:i<eC.length) :
  du P ops ⟨some t,.indexAddr T x y,ty,pos,af,none⟩ (tm x++tm y) [id] σ ⟨[(t,.rp id i sz 0)],[],[]⟩ :=
 du.val rfl rfl fun C F γ σ' a w uL h2 hs=>by
  obtain⟨k1,k2⟩:=AO hs uL hx hy;obtain⟨A,c,vs,e,hg,ho,hE⟩:=zq hs k1 ((h2 id (by simp)).trans hh);simp only[Rs]at k2;subst hn;rcases ho.2 with⟨h1,h0⟩|⟨b,cap,cur,h1,_,hb,r⟩
  ·omega
  ·rw[h1]at e hg
   injection e with e1 e2 e3;subst e1
   refine⟨.pointer (some ⟨b,i*sz,none⟩),?_,?_⟩
   ·by_cases h0:i*sz=0
    ·simp[execOp,Instr.indexAt,h1,k2,asIntOf,run_underlying hT.Fo,hi,hT.size,Addr.add,h0]
    ·simp[execOp,Instr.indexAt,h1,k2,asIntOf,run_underlying hT.Fo,hi,hT.size,Addr.add,h0]
   ·simp only[Rs];exact⟨b,_,_,hg,by simp⟩
inductive Src(σ:AS)(sz:Nat):DV→List DV→List Nat→Prop
 |sl {eC:List DV}:Src σ sz (.sl sz eC) eC []
 |bq:Src σ sz .bq [] []
 |row {id E:Nat} {eC:List DV} (h:cB σ.heap id=some (.row E sz eC)):Src σ sz (.row id) eC [id]
 |rv {id E lo n:Nat} {eC:List DV} (h:cB σ.heap id=some (.row E sz eC)) (hl:lo+n≤eC.length):Src σ sz (.rv id lo n sz) ((eC.drop lo).take n) [id]
theorem Src.read{C:Ctx}{F:dI}{γ:fc}{σ':AS}{a:Act}{w:World}(hs:Sat C F γ σ' a w){sz:Nat}{d:DV}{eC:List DV}{rh:List Nat}(h:Src σ sz d eC rh)(h2:∀id∈rh,cB σ'.heap id=cB σ.heap id){v:Value}(hv:Rs F γ d v) :
  ∃A c vs,v = .slice A eC.length c∧At w A vs∧mT F sz eC vs:=by
 cases h with
 |sl=>
  simp only[Rs]at hv;obtain⟨A,c,e,Cj,hd⟩:=hv
  by_cases pQ:eC = []
  ·subst pQ;exact⟨A,c,[],e,At.nil _ _,by simp[mT]⟩
  ·obtain⟨b,o,cs,vs,rest,rfl,hF,yS,hE⟩:=hd pQ
   obtain⟨t,fz,h1⟩:=hs.ws.fs b cs hF;refine⟨_,c,vs,e,At.mk (fun _=>⟨b,o,rfl,fun j v hv=>?_⟩),hE⟩;have:=zQ h1 o;rw[yS]at this;exact this j v (by rw[List.getElem?_append_left];exact hv;exact(List.getElem?_eq_some_iff.1 hv).1)
 |bq=>simp only[Rs]at hv;exact⟨none,0,[],hv,At.nil _ _,by simp[mT]⟩
 |row h=>
  obtain⟨A,c,vs,e,_,ho,hE⟩:=zq hs hv ((h2 _ (by simp)).trans h);rw[e]at ho;exact⟨A,c,vs,e,WG ho,hE⟩
 | @rv id E lo n eC h hl=>
  simp only[Rs]at hv;obtain⟨A,k,c,hg,e,hc⟩:=hv;obtain⟨g,vP,vs,ho,hE⟩:=hs.ws.uB id _ ((h2 id (by simp)).trans h);rw[hg]at vP;injection vP with vP;subst vP
  have hlen:((eC.drop lo).take n).length=n:=by rw[List.length_take,List.length_drop];omega
  refine⟨_,c-lo,(vs.drop (lo*sz)).take (n*sz),by rw[hlen];exact e,?_,(hE.drop lo).take n⟩;rcases ho.2 with⟨p,hx⟩|⟨b,cap,cur,p,_,q2,q3,q4,q5,q6⟩
  ·have hn:n=0:=by omega
   subst hn;rw[Nat.zero_mul,List.take_zero];exact At.nil _ _
  ·injection p with p1 p2 p3
   subst p1;subst p2;subst p3
   by_cases h0:c-lo=0
   ·have hn:n=0:=by omega
    subst hn;rw[Nat.zero_mul,List.take_zero];exact At.nil _ _
   ·rw[if_neg h0,Option.map_some,Addr.add_lit,Nat.zero_add]
    refine At.mk fun _=>⟨b,lo*sz,rfl,fun j v hj=>?_⟩
    have Jc:=WG ho
    have TD:vs[lo*sz+j]? = some v:=by
     rw[List.getElem?_take]at hj
     split at hj
     ·rw[List.getElem?_drop]at hj;exact hj
     ·cases hj
    have:=Jc.add (lo*sz+j) v TD;rw[Addr.add_lit,Nat.zero_add]at this;exact this
theorem GX{T:TypeId}(o:Oper)(x y:Operand)(ho:o.op = .call ⟨.builtin .append,#[x,y],#[T,T]⟩)(a:Act)(w:World){vx vy v:Value}{w':World}(hx:a.eval x=vx)(hy:a.eval y=vy)(hr:(Builtin.append_ #[T,T] o.type #[vx,vy]).run P w = .ok v w'):(execOp a.eval o).run P w = .ok (.value v) w':=by
 simp[execOp,ho,resolve,invoke,builtin,hx,hy,hr]
theorem QX{T e:TypeId}{sz bytes:Nat}{zd:DV}[hT:oa P T e sz bytes zd]{x y:Operand}{dy:DV}{ys:List DV}{rh:List Nat}(hx:ev σ.env x=some .bq)(hy:ev σ.env y=some dy)(hS:Src σ sz dy ys rh)(hb:ys.length*bytes≤140737488355328∧ys.length≤140737488355328) :
  du P ops ⟨some t,.call ⟨.builtin .append,#[x,y],#[T,T]⟩,ty,pos,af,none⟩ (tm x++tm y) rh σ ⟨[(t,.row t)],[(t,some (.row e sz ys))],[t]⟩ :=
 du.gen rfl rfl fun C F γ σ' a w uL h2 h3 hs=>by
  obtain⟨k1,k2⟩:=AO hs uL hx hy;simp only[Rs]at k1;have hn:t ∉ σ'.used:=h3 t (by simp);obtain⟨A,c,vs,ey,Jc,hE⟩:=hS.read hs h2 k2;obtain⟨z,xF,_⟩:=hT.h;obtain⟨A',c',w',mw,ho,hg,hob⟩:=Sk (P:=P) w xF ty 0 (.slice none 0 0) 0 [] (Ls _ _ _ _) A ys.length c vs hE.len Jc hE.one (by rw[Nat.zero_add];exact hb.1) (by rw[Nat.zero_add];exact hb.2) (Nat.zero_le _);rw[Nat.zero_add,List.nil_append]at ho;have S:vf w w' none:=Qp (by simpa [Value.ownBlock]using hg);refine⟨.slice A' (0+ys.length) c',w',F,γ.up t (.slice A' ys.length c'),GX _ x y rfl a w k1 ey mw,sd.refl _,sS _ (hs.ws.fresh hn),?_,?_⟩
  ·refine(hs.ws.quiet S).add hn ⟨vs,ho,hE⟩ (fun b iO=>?_)
   rw[wW ho]at iO
   have hbs:b=w.heap.size:=by
    rcases hob with h|h
    ·simp only[Value.ownBlock,Nat.zero_add]at h iO;rw[iO]at h;cases h
    ·simp only[Nat.zero_add]at h;rw[iO]at h;injection h
   subst hbs;refine⟨?_,.inr hs.ws.size,fun yd e' g' hh qi AG=>?_⟩
   ·cases hF:F w.heap.size with
    |none=>rfl
    |some cs=>exact absurd (hs.ws.flt hF) (Nat.lt_irrefl _)
   ·obtain⟨g1,q1,q2⟩:=hs.ws.uB yd e' hh
    rw[qi]at q1;injection q1 with q1;subst q1
    exact absurd (q2.lt _ AG) (Nat.lt_irrefl _)
  ·simp only[Rs,Nat.zero_add];exact vi _ _ _
theorem XK{T e:TypeId}{sz bytes:Nat}{zd:DV}[hT:oa P T e sz bytes zd]{x y:Operand}{id:Nat}{xs:List DV}{dy:DV}{ys:List DV}{rh:List Nat}(hx:ev σ.env x=some (.row id))(hh:cB σ.heap id=some (.row e sz xs))(hy:ev σ.env y=some dy)(hS:Src σ sz dy ys rh)
  (hb:(xs.length+ys.length)*bytes≤140737488355328∧xs.length+ys.length≤140737488355328) :
  du P ops ⟨some t,.call ⟨.builtin .append,#[x,y],#[T,T]⟩,ty,pos,af,none⟩ (tm x++tm y) (id::rh) σ ⟨[(t,.row t)],[(t,some (.row e sz (xs++ys))),(id,none)],[t]⟩ :=
 du.gen rfl rfl fun C F γ σ' a w uL h2 h3 hs=>by
  obtain⟨k1,k2⟩:=AO hs uL hx hy;have hn:t ∉ σ'.used:=h3 t (by simp);have sO:=(h2 id (by simp)).trans hh;obtain⟨A0,c0,VF,e0,HT,Ku,hE0⟩:=zq hs k1 sO;obtain⟨A,c,vs,ey,Jc,hE⟩:=hS.read hs (fun i hi=>h2 i (by simp[hi])) k2;obtain⟨z,xF,_⟩:=hT.h;obtain⟨A',c',w',mw,ho,hg,hob⟩:=Sk (P:=P) w xF ty 0 _ xs.length VF Ku A ys.length c vs hE.len Jc hE.one hb.1 hb.2 (Nat.zero_le _);have S:vf w w' (eU (a.eval x)):=by rw[wW Ku];exact Qp hg
  refine⟨.slice A' (xs.length+ys.length) c',w',F,γ.up t (.slice A' (xs.length+ys.length) c'),GX _ x y rfl a w rfl ey mw,sd.refl _,sS _ (hs.ws.fresh hn),?_,?_⟩
  ·have W:=hs.ws.FI sO HT S
   refine W.add hn ⟨VF++vs,by rw[List.length_append];exact ho,hE0.append hE⟩ (fun b iO=>?_);rw[wW ho]at iO;rcases hob with h|h
   ·rw[iO,←wW Ku]at h
    have q:=hs.ws.own id _ _ b sO HT h.symm;refine⟨q.1,q.2,fun yd e' g' CL qi AG=>?_⟩;rw[dj]at CL
    split at CL
    ·cases CL
    ·rename_i pQ;exact pQ (hs.ws.apart id yd _ e' _ g' b sO CL HT qi h.symm AG)
   ·rw[iO]at h;injection h with h;subst h
    refine⟨?_,.inr hs.ws.size,fun yd e' g' CL qi AG=>?_⟩
    ·cases hF:F w.heap.size with
     |none=>rfl
     |some cs=>exact absurd (hs.ws.flt hF) (Nat.lt_irrefl _)
    ·rw[dj]at CL
     split at CL
     ·cases CL
     ·obtain⟨g1,q1,q2⟩:=hs.ws.uB yd e' CL
      rw[qi]at q1;injection q1 with q1;subst q1
      exact absurd (q2.lt _ AG) (Nat.lt_irrefl _)
  ·simp only[Rs];exact vi _ _ _
theorem adv{o:Oper}{rt rh:List Nat}{hp:eY}{nw:List Nat}{E sz:Nat}{eC:List DV}(h:du P ops o rt rh σ ⟨[(t,.row t)],(t,some (.row E sz eC))::hp,nw⟩):du P ops o rt rh σ ⟨[(t,.sl sz eC)],(t,none)::hp,nw⟩:=by
 intro C F γ σ' a w h1 h2 h3 h4 hs K Q hK;refine h C F γ σ' a w h1 h2 h3 h4 hs K Q (fun F' γ' a' w' hF mm=>?_);have hh:cB (((t,some (.row E sz eC))::hp)++σ'.heap) t=some (.row E sz eC):=by rw[List.cons_append,dj,if_pos rfl]
 have hr:=(mm.env t (.row t) (by simp only[AS.app,List.singleton_append];rw[eW,if_pos rfl]));have Kv:=hr.2;simp only[Rs]at Kv;obtain⟨F2,f1,f2,f3⟩:=mm.ws.freeze hh Kv;refine hK F2 γ' a' w' (hF.trans f1) ⟨fun x dx hx=>?_,f2.congr (fun i e hi=>?_) (fun _ h=>h),mm.size,mm.defers⟩
 ·simp only[AS.app,List.singleton_append]at hx
  rw[eW]at hx
  by_cases hxt:t=x
  ·rw[if_pos hxt]at hx;injection hx with hx;subst hx;subst hxt
   exact⟨hr.1,f3⟩
  ·rw[if_neg hxt]at hx
   have:=mm.env x dx (by simp only[AS.app,List.singleton_append];rw[eW,if_neg hxt];exact hx);exact⟨this.1,this.2.mono f1 (rM.refl _)⟩
 ·simp only[AS.app,List.cons_append]at hi ⊢
  rw[dj]at hi ⊢
  by_cases hit:t=i
  ·rw[if_pos hit]at hi;cases hi
  ·rw[if_neg hit]at hi ⊢;rw[dj,if_neg hit];exact hi
theorem BW{z:Value}{zd:DV}(h:Ab z=zd)(ho:∀u∈z.cells.toList,u.oneCell'=true)(F:dI):Rs F fc.no zd z:=by
 subst h;unfold Ab
 split
 ·rename_i cs
  simp only[Rs];exact⟨cs,rfl,zf F _ _ ho⟩
 ·exact uK _ _ _
theorem mT.replicate{F:dI}{sz:Nat}{d:DV}{v:Value}(h1:v.cells.size=sz)(h2:∀u∈v.cells.toList,u.oneCell'=true)(h:Rs F fc.no d v):∀n,mT F sz (List.replicate n d) (List.replicate n v.cells.toList).flatten
 |0=>by simp[mT]
 |n+1=>by
  simp only[List.replicate_succ,List.flatten_cons,mT];exact⟨v,_,rfl,h1,h2,h,mT.replicate h1 h2 h n⟩
end
end Go.Proofs.YtpeihknododmlaaGreatDoor
/-! ### part M -/
/-
 My engine,part M: make,literals,min and max; states that hold others.
-/
namespace Go.Proofs.YtpeihknododmlaaGreatDoor
open Go.RowKit
theorem qM(z:Array Value)(hz:0<z.size)(n:Nat):(madeCells z (n*z.size)).toList=(List.replicate n z.toList).flatten:=by
 apply List.ext_getElem?;intro j
 have Qf:∀n j,(List.replicate n z.toList).flatten[j]? = if j<n*z.size then z.toList[j % z.size]? else none:=by
  intro n
  induction n with
  |zero=>intro j;simp
  |succ n ih=>
   intro j;rw[List.replicate_succ,List.flatten_cons,List.getElem?_append]
   by_cases hj:j<z.toList.length
   ·rw[if_pos hj]
    have Nl:j<z.size:=by simpa using hj
    have:j<(n+1)*z.size:=by rw[Nat.succ_mul];omega
    rw[if_pos this,Nat.mod_eq_of_lt Nl]
   ·rw[if_neg hj,ih]
    have Nl:z.size≤j:=by simpa using hj
    have e:(j-z.toList.length) % z.size=j % z.size:=by
     rw[Array.length_toList]
     conv=>rhs;rw[←Nat.sub_add_cancel Nl]
     rw[Nat.add_mod_right]
    rw[e,Array.length_toList]
    by_cases h:j-z.size<n*z.size
    ·rw[if_pos h,if_pos (by rw[Nat.succ_mul];omega)]
    ·rw[if_neg h,if_neg (by rw[Nat.succ_mul];omega)]
 rw[Qf]
 by_cases hj:j<n*z.size
 ·have hm:j % z.size<z.size:=Nat.mod_lt _ hz
  rw[if_pos hj];simp[madeCells,hj,hm]
 ·rw[if_neg hj]
  rw[List.getElem?_eq_none (by rw[Array.length_toList,size_madeCells];omega)]
section
variable {P:Program} {ops:Array Oper} {σ:AS} {t:Nat} {ty:TypeId} {pos:String} {af:Array Edge}
theorem Bu{T:TypeId}{zd:DV}{z:Value}(h:Ab z=zd)(hz:(zd.cs.all DV.one)=true):∀u∈z.cells.toList,u.oneCell'=true:=by
 subst h;intro u hu
 have e:(Ab z).cs=z.cells.toList.map ox:=by
  unfold Ab;cases z <;> simp only[Value.cells,DV.cs] <;> try (simp[ox,DV.cs];done)
  ·rename_i a n c;cases a <;> (try simp[ox,DV.cs]) <;> (cases n <;> cases c <;> simp[ox,DV.cs])
 rw[e]at hz;exact(uK (fun _=>none) fc.no u).one FX.no (List.all_eq_true.1 hz _ (List.mem_map.2 ⟨u,hu,rfl⟩))
theorem aeI{T e:TypeId}{sz bytes:Nat}{zd:DV}[hT:oa P T e sz bytes zd]{x y:Operand}{k k':IntKind}{l c:Int}(n m:Nat)(hx:ev σ.env x=some (.int k l))(hy:ev σ.env y=some (.int k' c))(hl:l=(n:Int))(hc:c=(m:Int))(Wm:n≤m)(hb:bytes*m≤281474976710656∧m≤281474976710656)(hz:(zd.cs.all DV.one)=true) :
  du P ops ⟨some t,.makeSlice T x y,ty,pos,af,none⟩ (tm x++tm y) [] σ ⟨[(t,.row t)],[(t,some (.row e sz (List.replicate n zd)))],[t]⟩ :=
 du.gen rfl rfl fun C F γ σ' a w uL h2 h3 hs=>by
  obtain⟨k1,k2⟩:=AO hs uL hx hy;simp only[Rs]at k1 k2;have hn:t ∉ σ'.used:=h3 t (by simp);obtain⟨z,xF,TE⟩:=hT.h;obtain⟨i,hi,ZQ,Dp,Je⟩:=xF.info;have ho:=Bu (T:=T) TE hz;subst hl hc;have mw:=run_make (P:=P) w T e i z xF.under hi ZQ k k' (n:Int) (m:Int) (by omega) (by omega) (by rw[Je];have:=hb.1;rw[←Int.natCast_mul];omega) (by omega);simp only[Int.toNat_natCast]at mw;refine⟨.slice (some ⟨w.heap.size,0,none⟩) n m,_,F,γ.up t (.slice (some ⟨w.heap.size,0,none⟩) n m),by simp[execOp,k1,k2,mw];rfl,sd.refl _,sS _ (hs.ws.fresh hn),?_,?_⟩
  ·refine hs.ws.Di hn _ (fun b hb=>by simp[eU]at hb;exact hb.symm) ?_
   have Du:z.cells.size=sz:=xF.Dv;refine⟨(List.replicate n z.cells.toList).flatten,⟨by simp[Du],.inr ⟨w.heap.size,m,_,by simp,Nat.zero_le _,heap_alloc_new w _,by simp;exact Wm,by unfold maxLen;omega,by rw[size_madeCells,Dp],?_⟩⟩,mT.replicate Du ho (BW TE ho F) n⟩;rw[List.length_replicate,Dp,←Du,qM _ (by rw[Du];exact xF.pos)]
   have:∀(n m:Nat) (l:List Value),n≤m→((List.replicate m l).flatten).take (n*l.length)=(List.replicate n l).flatten:=by
    intro n
    induction n with
    |zero=>intro m l _;simp
    |succ n ih=>
     intro m l hm;obtain⟨m,rfl⟩:∃m',m=m'+1:=⟨m-1,by omega⟩;rw[List.replicate_succ,List.replicate_succ,List.flatten_cons,List.flatten_cons,Nat.succ_mul,Nat.add_comm,List.take_append,List.take_of_length_le (by omega),Nat.add_sub_cancel_left,ih m l (by omega)]
   have:=this n m z.cells.toList Wm
   rwa [Array.length_toList]at this
  ·simp only[Rs];exact vi _ _ _
theorem ahz{T1 T2:TypeId}{x y:Operand}{k:IntKind}{a b:Int}(hx:ev σ.env x=some (.int k a))(hy:ev σ.env y=some (.int k b)):du P ops ⟨some t,.call ⟨.builtin .min,#[x,y],#[T1,T2]⟩,ty,pos,af,none⟩ (tm x++tm y) [] σ ⟨[(t,.int k (if b<a then b else a))],[],[]⟩ :=
 du.val rfl rfl fun C F γ σ' ac w uL _ hs=>by
  obtain⟨k1,k2⟩:=AO hs uL hx hy;simp only[Rs]at k1 k2;exact⟨.int k (if b<a then b else a),by simp[execOp,resolve,invoke,builtin,Builtin.min_,k1,k2,Builtin.min2],by simp only[Rs]⟩
theorem ahA{T1 T2:TypeId}{x y:Operand}{k:IntKind}{a b:Int}(hx:ev σ.env x=some (.int k a))(hy:ev σ.env y=some (.int k b)):du P ops ⟨some t,.call ⟨.builtin .max,#[x,y],#[T1,T2]⟩,ty,pos,af,none⟩ (tm x++tm y) [] σ ⟨[(t,.int k (if b>a then b else a))],[],[]⟩ :=
 du.val rfl rfl fun C F γ σ' ac w uL _ hs=>by
  obtain⟨k1,k2⟩:=AO hs uL hx hy;simp only[Rs]at k1 k2;exact⟨.int k (if b>a then b else a),by simp[execOp,resolve,invoke,builtin,Builtin.max_,k1,k2,Builtin.max2],by simp only[Rs]⟩
class tI(P:Program)(t:TypeId)(zs:outParam (List DV))(pl:outParam (List (Nat×Nat))):Prop where
 z:eZ P t zs
 p:(∃fs,P.underlying t=some (.struct fs)∧(∀f∈fs.toList,(P.info? f.type).isSome)∧fs.toList.map (fun f=>(f.offset,P.cellsOf f.type))=pl)∨(∃n e s,P.underlying t=some (.array n e)∧(P.info? e).map (·.size)=some s∧pl=(List.range n).map fun i=>(i*s,s))
def DY(pl:List (Nat×Nat)):List DV→List (Nat×DV)→Option (List DV)
 |cs,[]=>some cs
 |cs,(i,d)::rest=>match pl[i]? with
  |none=>none
  |some (off,size)=>bif Nat.beq d.cs.length size&&Nat.ble (off+size) cs.length&&d.flat then DY pl (vH cs off d.cs) rest else none
def SW(e:List (Nat×DV)):List (Nat×Operand)→Option (List (Nat×DV))
 |[]=>some []
 |(i,x)::xs=>match ev e x,SW e xs with
  |some d,some ds=>some ((i,d)::ds)
  |_,_=>none
theorem Yo(vs:List Value):∀(j off:Nat) (cells:Array Value),off+j+vs.length≤cells.size→((vs.zipIdx j).foldl (fun cs (x:Value×Nat)=>cs.setIfInBounds (off+x.2) x.1) cells)=lay cells (off+j) vs:=by
 induction vs with
 |nil=>intro j off cells _;apply Array.toList_inj.1;rw[zN];simp
 |cons v vs ih=>
  intro j off cells h;simp only[List.length_cons]at h;rw[List.zipIdx_cons,List.foldl_cons,ih (j+1) off _ (by simp;omega)];apply Array.toList_inj.1;rw[zN,zN];have pE:off+j<cells.toList.length:=by simp;omega
  rw[Array.toList_setIfInBounds,List.length_cons];rw[List.set_eq_take_append_cons_drop,if_pos pE]
  have e1:(cells.toList.take (off+j)++v::cells.toList.drop (off+j+1)).take (off+(j+1))=cells.toList.take (off+j)++[v]:=by
   rw[List.take_append,List.take_of_length_le (by simp;omega)];have:off+(j+1)-(List.take (off+j) cells.toList).length=1:=by simp;omega
   rw[this];rfl
  have e2:(cells.toList.take (off+j)++v::cells.toList.drop (off+j+1)).drop (off+(j+1)+vs.length)=cells.toList.drop (off+j+(vs.length+1)):=by
   rw[List.drop_append,List.drop_of_length_le (by simp;omega),List.nil_append];have:off+(j+1)+vs.length-(List.take (off+j) cells.toList).length=vs.length+1:=by simp;omega
   rw[this,List.drop_succ_cons,List.drop_drop];congr 1;omega
  rw[e1,e2];simp
theorem Gs{F:dI}{γ:fc}(hg:FX γ)(place:Nat→Option (Nat×Nat))(pl:List (Nat×Nat)):∀(zU:List (Nat×DV)) (vps:List (Nat×Value)) (zs ds:List DV) (cells:Array Value),
  (zU.map (·.1)=vps.map (·.1))→sM F γ (zU.map (·.2)) (vps.map (·.2))→(∀i∈zU.map (·.1),∀q,pl[i]? = some q→place i=some q)→fG F γ zs cells.toList→DY pl zs zU=some ds→∃cs,Instr.fill place cells vps=some cs∧fG F γ ds cs.toList
 |[],[],zs,ds,cells,_,_,_,hz,hf=>by
  simp only[DY]at hf;injection hf with hf;subst hf;exact⟨cells,rfl,hz⟩
 |[],_::_,zs,ds,cells,h,_,_,_,_=>by simp at h
 |_::_,[],zs,ds,cells,h,_,_,_,_=>by simp at h
 |(i,d)::zU,(i',v)::vps,zs,ds,cells,hk,hv,hp,hz,hf=>by
  simp only[List.map_cons,List.cons.injEq]at hk;obtain⟨rfl,hk⟩:=hk;simp only[List.map_cons,sM,List.cons.injEq]at hv;obtain⟨v',rest,⟨rfl,rfl⟩,hd,hv⟩:=hv;simp only[DY]at hf;cases hq:pl[i]? with
  |none=>rw[hq]at hf;cases hf
  |some q=>
   obtain⟨off,size⟩:=q;rw[hq]at hf;simp only at hf;cases hc:(Nat.beq d.cs.length size&&Nat.ble (off+size) zs.length&&d.flat)with
   |false=>rw[hc]at hf;cases hf
   |true=>
    rw[hc]at hf;simp only[cond_true]at hf;simp only[Bool.and_eq_true]at hc;have c1:d.cs.length=size:=Nat.eq_of_beq_eq_true hc.1.1;have c2:=Nat.le_of_ble_eq_true hc.1.2;have kc:=Bs hd hg hc.2;have hl1:=kc.len;have ZR:=hz.len;have Mt:v.cells.size=size:=by simpa [c1]using hl1
    have yS:cells.size=zs.length:=by simpa using ZR
    have Nk:fG F γ (vH zs off d.cs) (lay cells off v.cells.toList).toList:=by
     rw[zN,vH,←hl1];exact((hz.take off).append kc).append (hz.drop _)
    obtain⟨cs,r1,r2⟩:=Gs hg place pl zU vps _ ds _ hk hv (fun j hj=>hp j (by simp[hj])) Nk hf;refine⟨cs,?_,r2⟩;have Wn:=hp i (by simp) _ hq;simp only[Instr.fill,Wn];have hno:¬(decide (v.cells.size≠size)||decide (off+v.cells.size>cells.size))=true:=by simp;omega
    rw[if_neg hno];have adU:=Yo v.cells.toList 0 off cells (by simp;omega);rw[Nat.add_zero]at adU
    have:(v.cells.zipIdx.foldl (fun cs (x:Value×Nat)=>cs.setIfInBounds (off+x.2) x.1) cells)=lay cells off v.cells.toList:=by
     rw[←adU,←Array.foldl_toList,Array.toList_zipIdx]
    rw[←r1,←this]
theorem Fb{rt:List Nat}{e e':List (Nat×DV)}(h:∀t∈rt,look e' t=look e t):∀{xs:List (Nat×Operand)},(∀t∈xs.flatMap (fun p=>tm p.2),t∈rt)→SW e' xs=SW e xs
 |[],_=>rfl
 |(i,x)::xs,hx=>by
  simp only[List.flatMap_cons,List.mem_append]at hx;rw[SW,SW,cQ h (fun t ht=>hx t (.inl ht)),Fb h (fun t ht=>hx t (.inr ht))]
theorem Sat.evp{C:Ctx}{F:dI}{γ:fc}{σ:AS}{a:Act}{w:World}(H:Sat C F γ σ a w):∀{xs:List (Nat×Operand)} {ds:List (Nat×DV)},SW σ.env xs=some ds→ds.map (·.1)=xs.map (·.1)∧sM F γ (ds.map (·.2)) (xs.map (fun p=>a.eval p.2))
 |[],ds,h=>by simp only[SW]at h;injection h with h;subst h;simp[sM]
 |(i,x)::xs,ds,h=>by
  simp only[SW]at h;cases h1:Proofs.YtpeihknododmlaaGreatDoor.ev σ.env x with
  |none=>rw[h1]at h;cases h
  |some d=>
   cases h2:SW σ.env xs with
   |none=>rw[h1,h2]at h;cases h
   |some vO=>
    rw[h1,h2]at h;injection h with h;subst h
    obtain⟨k1,k2⟩:=H.evp h2;simp only[List.map_cons,sM];exact⟨by rw[k1],_,_,rfl,H.ev h1,k2⟩
theorem NR{α β:Type}{f:α→Sem β}{g:α→β}{w:World}:∀{l:List α},(∀x∈l,(f x).run P w = .ok (g x) w)→(l.mapM f).run P w = .ok (l.map g) w
 |[],_=>by simp
 |x::l,h=>by
  have h1:=h x (by simp);have h2:=NR (l:=l) (fun y hy=>h y (by simp[hy]));rw[List.mapM_cons,Sem.run_bind,h1,Result.andThen_ok,Sem.run_bind,h2];rfl
theorem run_places{fs:Array Field}(hi:∀f∈fs.toList,(P.info? f.type).isSome)(w:World):(fs.mapM fun f=>do pure (f.offset,←sizeOf f.type):Sem (Array (Nat×Nat))).run P w = .ok (fs.toList.map fun f=>(f.offset,P.cellsOf f.type)).toArray w:=by
 rw[Array.mapM_eq_mapM_toList]
 have:=NR (P:=P) (w:=w) (f:=fun f:Field=>(do pure (f.offset,←sizeOf f.type):Sem (Nat×Nat))) (g:=fun f=>(f.offset,P.cellsOf f.type)) (l:=fs.toList) (fun f hf=>by
  obtain⟨i,hq⟩:=Option.isSome_iff_exists.1 (hi f hf);simp[sizeOf,typeInfo,hq,Program.cellsOf])
 show Sem.run P ((fs.toList.mapM _) >>= fun x=>pure x.toArray) w=_;rw[Sem.run_bind,this];rfl
theorem abA{T:TypeId}{zs:List DV}{pl:List (Nat×Nat)}[hP:tI P T zs pl]{ps:Array (Nat×Operand)}{zU:List (Nat×DV)}{ds:List DV}(hz:(zs.all DV.one)=true)(he:SW σ.env ps.toList=some zU)(hf:DY pl zs zU=some ds) :
  du P ops ⟨some t,.build T ps,ty,pos,af,none⟩ (ps.toList.flatMap fun p=>tm p.2) [] σ ⟨[(t,.agg ds)],[],[]⟩ :=
 du.val rfl rfl fun C F γ σ' a w uL _ hs=>by
  obtain⟨k1,k2⟩:=hs.evp ((Fb uL (fun _ h=>h)).trans he);have Nk:=hP.z.h;cases hq:P.info? T with
  |none=>simp[hq]at Nk
  |some i=>
   cases ZO:i.zero with
   |none=>simp[hq,ZO]at Nk
   |some z=>
    simp only[hq,ZO,Option.bind_some,Option.map_some,Option.some.injEq]at Nk
    have afx:∀u∈z.cells.toList,u.oneCell'=true:=by
     intro u hu;have:=List.all_eq_true.1 hz (ox u) (by rw[←Nk];exact List.mem_map.2 ⟨u,hu,rfl⟩);exact(uK F γ u).one hs.ws.gone this
    have Du:fG F γ zs z.cells.toList:=by rw[←Nk];exact zf F γ _ afx
    have hzv:(zeroValue T).run P w = .ok z w:=by simp[zeroValue,typeInfo,hq,ZO]
    have ZS:(ps.map fun(p:Nat×Operand)=>(p.1,a.eval p.2)).toList=ps.toList.map fun p=>(p.1,a.eval p.2):=by simp
    rcases hP.p with⟨fs,hu,Cf,Wn⟩|⟨n,e,s,hu,yQ,Wn⟩
    ·have hpr:=run_places (P:=P) Cf w
     rw[Wn]at hpr;obtain⟨cs,r1,r2⟩:=Gs hs.ws.gone (fun i=>pl[i]?) pl zU (ps.toList.map fun p=>(p.1,a.eval p.2)) zs ds z.cells (by rw[k1];simp) (by rw[List.map_map];exact k2) (fun i _ q h=>h) Du hf;refine⟨.agg cs,?_,by simp only[Rs];exact⟨cs,rfl,r2⟩⟩;simp only[execOp,Instr.build,Sem.run_bind,hzv,Result.andThen_ok,run_underlying hu w,hpr,Sem.run_pure];simp only[ZS]at *;simp[r1]
    ·cases hqe:P.info? e with
     |none=>simp[hqe]at yQ
     |some ie=>
      have hse:(sizeOf e).run P w = .ok s w:=by
       have:ie.size=s:=by simpa [hqe]using yQ
       simp[sizeOf,typeInfo,hqe,this]
      obtain⟨cs,r1,r2⟩:=Gs hs.ws.gone (fun i=>some (i*s,s)) pl zU (ps.toList.map fun p=>(p.1,a.eval p.2)) zs ds z.cells (by rw[k1];simp) (by rw[List.map_map];exact k2) (fun i _ q h=>by
       rw[Wn,List.getElem?_map]at h;cases hr:(List.range n)[i]? with
       |none=>rw[hr]at h;cases h
       |some j=>
        rw[hr]at h
        have:j=i:=by
         obtain⟨_,e⟩:=List.getElem?_eq_some_iff.1 hr;simpa using e.symm
        subst this;exact h) Du hf
      refine⟨.agg cs,?_,by simp only[Rs];exact⟨cs,rfl,r2⟩⟩;simp only[execOp,Instr.build,Sem.run_bind,hzv,Result.andThen_ok,run_underlying hu w,hse,Sem.run_pure];simp only[ZS]at *;simp[r1]
end
end Go.Proofs.YtpeihknododmlaaGreatDoor
/-! ### part N -/
/-
 My engine,part N: slice literals,elements of rows; states that hold others.
-/
namespace Go.Proofs.YtpeihknododmlaaGreatDoor
open Go.RowKit
theorem fG.split{F:dI}{γ:fc}{ds es:List DV}{vs:List Value}(h:fG F γ (ds++es) vs):fG F γ ds (vs.take ds.length)∧fG F γ es (vs.drop ds.length):=by
 have h1:=h.take ds.length;have h2:=h.drop ds.length;rw[List.take_left']at h1
 ·rw[List.drop_left']at h2
  ·exact⟨h1,h2⟩
  ·rfl
 ·rfl
def UY(sz:Nat)(d:DV):Bool:=Nat.beq d.cs.length sz&&d.flat&&d.ids.isEmpty
theorem HJ{F:dI}{γ:fc}{d:DV}{vs:List Value}(hf:d.flat=true)(h:fG F γ d.cs vs):∃v:Value,v.cells.toList=vs∧Rs F γ d v:=by
 by_cases ho:d.one=true
 ·rw[DV.LQ ho]at h
  simp only[fG]at h;obtain⟨v,rest,rfl,h1,h2,rfl⟩:=h;exact⟨v,by rw[wP h1],h2⟩
 ·cases d with
  |agg ds=>exact⟨.agg vs.toArray,rfl,by simp only[Rs];exact⟨vs.toArray,rfl,by simpa [DV.cs]using h⟩⟩
  |_=>exact absurd hf ho
theorem WA{F:dI}{γ:fc}{sz:Nat}:∀{eC:List DV} {vs:List Value},(eC.all (UY sz))=true→fG F γ (eC.flatMap DV.cs) vs→mT F sz eC vs
 |[],vs,_,h=>by simp only[List.flatMap_nil,fG]at h;subst h;simp[mT]
 |d::eC,vs,hk,h=>by
  simp only[List.all_cons,Bool.and_eq_true]at hk;obtain⟨hk1,ZT⟩:=hk;simp only[UY,Bool.and_eq_true]at hk1;have hlen:d.cs.length=sz:=Nat.eq_of_beq_eq_true hk1.1.1;have HP:d.ids = []:=by simpa using hk1.2
  rw[List.flatMap_cons]at h;obtain⟨h1,h2⟩:=h.split;obtain⟨v,e1,e2⟩:=HJ hk1.1.2 h1;simp only[mT];refine⟨v,vs.drop d.cs.length,by rw[e1,List.take_append_drop],?_,?_,BP d v (by rw[HP];simp) e2,WA ZT h2⟩
  ·have:=h1.len
   rw[←e1,Array.length_toList]at this;rw[this,hlen]
  ·rw[e1];exact h1.one
theorem NN{α:Type}(A Y:List α){o n sz p L:Nat}(hY:Y.length=n)(h1:o+n≤sz)(h2:p+sz≤L)(h3:L≤A.length) :
  (A.take (p+o)++Y++A.drop (p+o+n)).take L=(A.take L).take p++((((A.take L).drop p).take sz).take o++Y++(((A.take L).drop p).take sz).drop (o+n))++(A.take L).drop (p+sz):=by
 have e1:(A.take L).take p=A.take p:=by rw[List.take_take,Nat.min_eq_left (by omega)]
 have e2:((A.take L).drop p).take sz=(A.drop p).take sz:=by rw[List.drop_take,List.take_take,Nat.min_eq_left (by omega)]
 have e3:((A.drop p).take sz).take o=(A.drop p).take o:=by rw[List.take_take,Nat.min_eq_left (by omega)]
 have e4:((A.drop p).take sz).drop (o+n)=(A.drop (p+o+n)).take (sz-(o+n)):=by rw[List.drop_take,List.drop_drop,Nat.add_assoc]
 have e5:(A.take L).drop (p+sz)=(A.drop (p+sz)).take (L-(p+sz)):=by rw[List.drop_take]
 have e6:(A.drop (p+o+n)).take (L-(p+o+n))=(A.drop (p+o+n)).take (sz-(o+n))++(A.drop (p+sz)).take (L-(p+sz)):=by
  have:L-(p+o+n)=(sz-(o+n))+(L-(p+sz)):=by omega
  rw[this,List.take_add,List.drop_drop,show p+o+n+(sz-(o+n))=p+sz by omega]
 have e7:A.take (p+o)=A.take p++(A.drop p).take o:=List.take_add;have l1:(A.take (p+o)).length=p+o:=by rw[List.length_take];omega
 rw[e1,e2,e3,e4,e5,List.take_append,List.take_of_length_le (by rw[List.length_append,l1,hY];omega),List.length_append,l1,hY,e6,e7];simp
section
variable {P:Program} {ops:Array Oper} {σ:AS} {t:Nat} {ty:TypeId} {pos:String} {af:Array Edge}
theorem DI{T e:TypeId}{sz bytes:Nat}{zd:DV}[hT:oa P T e sz bytes zd]{n:Nat}{ps:Array (Nat×Operand)}{zU:List (Nat×DV)}(hz:(zd.cs.all DV.one)=true)(hn:Nat.ble (n*sz) 16777216=true)(he:SW σ.env ps.toList=some zU)(hk:Nat.beq zU.length n=true)
  (hf:DY ((List.range n).map fun i=>(i*sz,sz)) (List.replicate n zd.cs).flatten zU=some ((zU.map (·.2)).flatMap DV.cs)) (Cj:(zU.map (·.2)).all (UY sz)=true) :
  du P ops ⟨some t,.buildSlice T n ps,ty,pos,af,none⟩ (ps.toList.flatMap fun p=>tm p.2) [] σ ⟨[(t,.row t)],[(t,some (.row e sz (zU.map (·.2))))],[t]⟩ :=
 du.gen rfl rfl fun C F γ σ' a w uL h2 h3 hs=>by
  obtain⟨k1,k2⟩:=hs.evp ((Fb uL (fun _ h=>h)).trans he);have htn:t ∉ σ'.used:=h3 t (by simp);obtain⟨z,xF,TE⟩:=hT.h;obtain⟨i,hi,ZQ,Dp,Je⟩:=xF.info;have ho:=Bu (T:=T) TE hz;have Du:z.cells.size=sz:=xF.Dv;have UQ:zU.length=n:=Nat.eq_of_beq_eq_true hk;have hle:=Nat.le_of_ble_eq_true hn;have ZS:(ps.map fun(p:Nat×Operand)=>(p.1,a.eval p.2)).toList=ps.toList.map fun p=>(p.1,a.eval p.2):=by simp
  have ZU:fG F γ zd.cs z.cells.toList:=by
   have:=BW TE ho F
   have Qf:zd.flat=true:=by
    rw[←TE]at hz ⊢;unfold Ab at hz ⊢
    split
    ·rfl
    ·rename_i h'
     by_cases h1:(ox z).one=true
     ·cases hc:ox z <;> simp_all [DV.flat,DV.one]
     ·cases hc:ox z <;> simp_all [DV.flat,DV.one,DV.cs,ox]
   exact(Bs this FX.no Qf).mono (sd.refl _) (rM.no _)
  have aiz:fG F γ (List.replicate n zd.cs).flatten (madeCells z.cells (n*z.cells.size)).toList:=by
   rw[qM _ (by rw[Du];exact xF.pos)];clear hn hle hf hk UQ
   induction n with
   |zero=>simp[fG]
   |succ n ih=>rw[List.replicate_succ,List.replicate_succ,List.flatten_cons,List.flatten_cons];exact ZU.append ih
  obtain⟨cs,r1,r2⟩:=Gs hs.ws.gone (fun i=>some (i*sz,sz)) ((List.range n).map fun i=>(i*sz,sz)) zU (ps.toList.map fun p=>(p.1,a.eval p.2)) _ _ _ (by rw[k1];simp) (by rw[List.map_map];exact k2) (fun i _ q h=>by
   rw[List.getElem?_map]at h;cases hr:(List.range n)[i]? with
   |none=>rw[hr]at h;cases h
   |some j=>
    rw[hr]at h
    have:j=i:=by
     obtain⟨_,e⟩:=List.getElem?_eq_some_iff.1 hr;simpa using e.symm
    subst this;exact h) aiz hf
  have hE:=WA (F:=F) (γ:=γ) Cj r2;have Cw:=hE.len;rw[List.length_map,UQ,Array.length_toList]at Cw
  have mw:(execOp a.eval ⟨some t,.buildSlice T n ps,ty,pos,af,none⟩).run P w = .ok (.value (.slice (some ⟨w.heap.size,0,none⟩) n n)) (w.alloc (.cells cs e)):=by
   have hno:¬2^24<n*sz:=by
    have:(2:Nat)^24=16777216:=rfl;omega
   have VH:Instr.fill (fun i=>some (i*sz,sz)) (madeCells z.cells (n*sz)) (ps.toList.map fun p=>(p.1,a.eval p.2))=some cs:=by rw[←Du]at r1 ⊢;exact r1
   by_cases h0:n*sz=0
   ·have hz0:madeCells z.cells (n*sz) = #[]:=by rw[h0];simp[madeCells]
    rw[hz0]at VH;simp only[execOp,Instr.buildSlice,Sem.run_bind,run_underlying xF.under w,Result.andThen_ok,hT.size,Sem.run_pure,h0];simp[ZS,VH,newRow,show(Array.map (fun _=>(default:Value)) (Array.range 0)) = #[] from Array.eq_empty_of_size_eq_zero (by simp)]
   ·have hzv:(zeroValue e).run P w = .ok z w:=by simp[zeroValue,typeInfo,hi,ZQ]
    simp only[execOp,Instr.buildSlice,Sem.run_bind,run_underlying xF.under w,Result.andThen_ok,hT.size,Sem.run_pure];simp only[madeCells]at VH;simp[hno,h0,hzv,ZS,VH,newRow]
  refine⟨_,_,F,γ.up t (.slice (some ⟨w.heap.size,0,none⟩) n n),mw,sd.refl _,sS _ (hs.ws.fresh htn),?_,?_⟩
  ·refine hs.ws.Di htn _ (fun b hb=>by simp[eU]at hb;exact hb.symm) ?_
   refine⟨cs.toList,⟨by rw[Array.length_toList,Cw,List.length_map,UQ],.inr ⟨w.heap.size,n,cs,by rw[List.length_map,UQ],Nat.zero_le _,heap_alloc_new w _,by rw[List.length_map,UQ];exact Nat.le_refl _,?_,Cw,?_⟩⟩,hE⟩
   ·have hp:=xF.pos
    have:n≤n*sz:=Nat.le_mul_of_pos_right n hp;unfold maxLen;omega
   ·rw[List.length_map,UQ,←Cw];exact List.take_of_length_le (by rw[Array.length_toList];exact Nat.le_refl _)
  ·simp only[Rs];exact vi _ _ _
theorem adn{C:Ctx}{F:dI}{γ:fc}{σ':AS}{a:Act}{w:World}(hs:Sat C F γ σ' a w){id i sz o E:Nat}{eC:List DV}{d:DV}{v:Value}(hv:Rs F γ (.rp id i sz o) v)(hh:cB σ'.heap id=some (.row E sz eC))(hd:eC[i]? = some d) :
  ∃b n c cur vs vd,v = .pointer (some ⟨b,i*sz+o,none⟩)∧γ id=some (.slice (some ⟨b,0,none⟩) n c)∧w.heap[b]? = some (.cells cur E (0,0))∧n=eC.length∧n≤c∧c≤maxLen∧cur.size=c*sz∧cur.toList.take (n*sz)=vs∧mT F sz eC vs ∧
   (vs.drop (i*sz)).take sz=vd.cells.toList∧vd.cells.size=sz∧(∀u∈vd.cells.toList,u.oneCell'=true)∧Rs F fc.no d vd:=by
 obtain⟨g,hg,vs,ho,hE⟩:=hs.ws.uB id _ hh;simp only[Rs]at hv;obtain⟨b,n,c,hgb,e⟩:=hv;rw[hg]at hgb;injection hgb with hgb;subst hgb
 have pE:i<eC.length:=by
  rcases Nat.lt_or_ge i eC.length with h|h
  ·exact h
  ·rw[List.getElem?_eq_none h]at hd;cases hd
 rcases ho.2 with⟨h1,h0⟩|⟨b',cap,cur,h1,_,hb,r1,r2,r3,r4⟩
 ·cases h1
 ·injection h1 with q1 q2 q3
  injection q1 with q1;injection q1 with q1 _ _
  subst q1;subst q2;subst q3;obtain⟨vd,p1,p2,p3,p4⟩:=hE.get hd;exact⟨b,_,_,cur,vs,vd,e,hg,hb,rfl,r1,r2,r3,r4,hE,p1,p2,p3,p4⟩
theorem Og{T':TypeId}{x:Operand}{id i sz o E:Nat}{eC:List DV}{d r:DV}(hx:ev σ.env x=some (.rp id i sz o))(hh:cB σ.heap id=some (.row E sz eC))(hd:eC[i]? = some d)(hf:d.flat=true)(hl:AU P T' (d.cs.drop o) r) :
  du P ops ⟨some t,.load T' x,ty,pos,af,none⟩ (tm x) [id] σ ⟨[(t,r)],[],[]⟩ :=
 du.val rfl rfl fun C F γ σ' a w h1 h2 hs=>by
  have k1:=hs.ev ((cQ h1 (fun _ h=>h)).trans hx);obtain⟨b,n,c,cur,vs,vd,e,hg,hb,rfl,r1,r2,r3,r4,hE,p1,p2,p3,p4⟩:=adn hs k1 ((h2 id (by simp)).trans hh) hd
  have pE:i<eC.length:=by
   rcases Nat.lt_or_ge i eC.length with h|h
   ·exact h
   ·rw[List.getElem?_eq_none h]at hd;cases hd
  have yS:=Bs p4 FX.no hf
  have hr:w.rangeAt b (i*sz+o) (vd.cells.toList.drop o):=by
   intro j v hv;rw[List.getElem?_drop]at hv
   have hj:o+j<sz:=by
    have:=(List.getElem?_eq_some_iff.1 hv).1;rw[Array.length_toList,p2]at this;exact this
   rw[←p1,List.getElem?_take,if_pos hj,List.getElem?_drop]at hv;rw[←r4,List.getElem?_take]at hv;have hm:(i+1)*sz≤eC.length*sz:=Nat.mul_le_mul_right _ pE;rw[Nat.succ_mul]at hm;rw[if_pos (by omega)]at hv;rw[cell_of_row w b _ cur E (0,0) hb];rw[Nat.add_assoc];simpa using hv
  obtain⟨v,q1,q2,_⟩:=Gr hl hr (yS.drop o);exact⟨v,by simp[execOp,e,Instr.loadAt,Instr.sureAddr,q1],q2.mono (sd.refl _) (rM.no _)⟩
theorem Uv{T':TypeId}{x:Operand}{id i sz o E:Nat}{eC:List DV}{d r:DV}[hT:qX P T'](hx:ev σ.env x=some (.rp id i sz o))(hh:cB σ.heap id=some (.row E sz eC))(hd:eC[i]? = some d)(hf:d.flat=true)(hl:d.cs[o]? = some r) :
  du P ops ⟨some t,.load T' x,ty,pos,af,none⟩ (tm x) [id] σ ⟨[(t,r)],[],[]⟩:=Og hx hh hd hf (.sc hT.h (by rw[head_drop];exact hl))
theorem Uw{T':TypeId}{x:Operand}{id i sz o E n:Nat}{eC vO:List DV}{d:DV}[hT:kE P T' n](hx:ev σ.env x=some (.rp id i sz o))(hh:cB σ.heap id=some (.row E sz eC))(hd:eC[i]? = some d)(hf:d.flat=true)(hn:Nat.ble n (d.cs.drop o).length=true)(hl:(d.cs.drop o).take n=vO) :
  du P ops ⟨some t,.load T' x,ty,pos,af,none⟩ (tm x) [id] σ ⟨[(t,.agg vO)],[],[]⟩:=Og hx hh hd hf (.row n hT.h (Nat.le_of_ble_eq_true hn) (by rw[hl]))
theorem Us{T':TypeId}{x y:Operand}{id i sz o E n:Nat}{eC:List DV}{d dn e':DV}[hT:dE P T' n](hx:ev σ.env x=some (.rp id i sz o))(hy:ev σ.env y=some dn)(hh:cB σ.heap id=some (.row E sz eC))(hd:eC[i]? = some d)(hf:d.flat=true)(hfn:dn.flat=true)(hn:Nat.beq n dn.cs.length=true)
  (HP:dn.ids = []) (hl:Nat.ble (o+n) sz=true) (he:e'.flat=true) (ZV:vH d.cs o dn.cs=e'.cs) (yQ:0<n) :
  du P ops ⟨none,.store T' x y,ty,pos,af,none⟩ (tm x++tm y) [id] σ ⟨[],[(id,some (.row E sz (eC.set i e')))],[]⟩ :=
 du.skip rfl rfl fun C F γ σ' a w h1 h2 hs=>by
  obtain⟨k1,k2⟩:=AO hs h1 hx hy;have sO:=(h2 id (by simp)).trans hh;obtain⟨b,m,c,cur,vs,vd,e,hg,hb,rfl,r1,r2,r3,r4,hE,p1,p2,p3,p4⟩:=adn hs k1 sO hd
  have pE:i<eC.length:=by
   rcases Nat.lt_or_ge i eC.length with h|h
   ·exact h
   ·rw[List.getElem?_eq_none h]at hd;cases hd
  have kc:=Bs k2 hs.ws.gone hfn;have hn':n=dn.cs.length:=Nat.eq_of_beq_eq_true hn;have hlen:=kc.len;have hle:=Nat.le_of_ble_eq_true hl;have hm:(i+1)*sz≤eC.length*sz:=Nat.mul_le_mul_right _ pE;rw[Nat.succ_mul]at hm;have hmc:eC.length*sz≤c*sz:=Nat.mul_le_mul_right _ r1;have afy:(a.eval y).cells.size=n:=by rw[hn',←hlen];simp
  have mw:=CF (P:=P) (o:=i*sz+o) T' (a.eval y) hb (by rw[hT.h,afy]) (by rw[afy,r3];omega) kc.one;obtain⟨s1,s2⟩:=vf.setRow (lay cur (i*sz+o) (a.eval y).cells.toList) hb;refine⟨_,by simp[execOp,e,Instr.storeAt,Instr.sureAddr,mw];rfl,?_⟩;have W:=hs.ws.FI sO hg (by simpa [eU]using s1)
  -- the element's new value
  have UQ:vd.cells.toList.length=sz:=by rw[Array.length_toList,p2]
  have px:fG F fc.no (vH d.cs o dn.cs) (vd.cells.toList.take o++(a.eval y).cells.toList++vd.cells.toList.drop (o+n)):=by
   have yS:=Bs p4 FX.no hf;rw[vH,←hn']
   exact((yS.take o).append (Gy _ _ (by
    intro x hx
    have:xQ dn.cs=dn.ids:=by
     cases dn <;> simp[DV.cs,DV.ids,xQ]
    rw[this,HP]at hx;cases hx) kc)).append (yS.drop _)
  rw[ZV]at px;obtain⟨ve,ve1,ve2⟩:=HJ he px;have RH:=hE.len;have hyl:(a.eval y).cells.toList.length=n:=by rw[Array.length_toList,afy]
  have aoZ:ve.cells.size=sz:=by
   have:ve.cells.toList.length=sz:=by rw[ve1];simp[hyl,UQ];omega
   simpa using this
  have aiA:=hE.set pE aoZ (by rw[ve1];exact px.one) ve2;have W2:=W.put (id0:=id) (e0:=.row E sz (eC.set i e')) hg ⟨_,⟨?_,.inr ⟨b,c,_,by simp,Nat.zero_le _,s2,by simpa using r1,r2,?_,?_⟩⟩,aiA⟩ (fun b' iO=>?_)
  ·exact W2.congr (fun i e hi=>wA id _ _ i e hi) (fun _ h=>h)
  ·have:=aiA.len;simpa using this
  ·rw[Yd (by rw[hyl,r3];omega)];exact r3
  · -- the cells
   have Cw:cur.toList.length=c*sz:=by rw[←r3];simp
   rw[List.length_set,zN,ve1,hyl,←p1,←r4,Nat.succ_mul];exact NN cur.toList _ hyl hle (by omega) (by omega)
  ·have ho:=hs.ws.own id _ _ b' sO hg iO
   refine⟨ho.1,ho.2,fun i e g pQ hi Pp Pq=>?_⟩;rw[dj]at hi
   split at hi
   ·cases hi
   ·exact pQ (hs.ws.apart i id e _ g _ b' hi sO Pp hg Pq iO)
end
end Go.Proofs.YtpeihknododmlaaGreatDoor
/-! ### part O -/
/-
 My engine,part O: states that hold others.
-/
namespace Go.Proofs.YtpeihknododmlaaGreatDoor
open Go.RowKit
inductive AV(f:Nat→Nat)(e:List (Nat×DV)):List (Nat×DV)→Prop
 |nil:AV f e []
 |cons {t:Nat} {d d':DV} {r:List (Nat×DV)} (h:look e t=some d) (hle:pP d (d'.ua f)) (k:AV f e r):AV f e ((t,d')::r)
inductive HLe:HE→HE→Prop
 |refl (e:HE):HLe e e
 |bC {T:TypeId} {ds vO:List DV} (h:oJ ds vO):HLe (.bC T ds) (.bC T vO)
 |PL {E:TypeId} {sz:Nat} {eC:List DV}:HLe (.row E sz eC) (.PL E sz eC)
theorem HLe.uB{F:dI}{γ:fc}{w:World}{e e':HE}(h:HLe e e'){g:Value}(k:Cv F γ w e g):Cv F γ w e' g:=by
 cases h with
 |refl=>exact k
 |bC h=>obtain⟨b,cs,k1,k2,k3⟩:=k;exact⟨b,cs,k1,k2,h.rsL k3⟩
 | @PL E sz eC=>
  obtain⟨vs,ho,hE⟩:=k;rcases ho.2 with⟨h1,h0⟩|⟨b,cap,cur,h1,_,hb,r1,r2,r3,r4⟩
  ·exact .inl ⟨h1,List.eq_nil_of_length_eq_zero h0⟩
  ·exact .inr ⟨b,0,cap,cur,h1,hb,r1,r2,by omega,by rw[List.drop_zero,r4];exact hE⟩
inductive xE(f:Nat→Nat)(h:eY):eY→Prop
 |nil:xE f h []
 |cons {i:Nat} {e e':HE} {r:eY} (he:cB h (f i)=some e) (hle:HLe e (e'.ua f)) (k:xE f h r):xE f h ((i,some e')::r)
theorem AV.spec{f:Nat→Nat}{e e':List (Nat×DV)}(h:AV f e e'):∀t d',look e' t=some d'→∃d,look e t=some d∧pP d (d'.ua f):=by
 induction h with
 |nil=>intro t d' h;simp[look]at h
 |cons h hle k ih=>
  intro t d' hd;rw[eW]at hd
  split at hd
  ·rename_i e1;subst e1;injection hd with hd;subst hd;exact⟨_,h,hle⟩
  ·exact ih t d' hd
theorem xE.spec{f:Nat→Nat}{h h':eY}(k:xE f h h'):∀i e',cB h' i=some e'→∃e,cB h (f i)=some e∧HLe e (e'.ua f):=by
 induction k with
 |nil=>intro i e he;simp[cB,look]at he
 |cons he hle k ih=>
  intro i e hi;rw[dj]at hi
  split at hi
  ·rename_i e1;subst e1;injection hi with hi;subst hi;exact⟨_,he,hle⟩
  ·exact ih i e hi
def EU(x:Nat)(l:List Nat):Bool:=l.any (Nat.beq x)
def KP(f:Nat→Nat)(u u':List Nat):Bool:=u.all fun i=>Nat.blt i 100000||(Nat.beq (f i) i&&EU i u')
def Oz(σ:AS):Bool:=(σ.env.all fun p=>p.2.ids.all fun i=>EU i σ.used)&&(σ.heap.all fun p=>EU p.1 σ.used&&match p.2 with
 |some e=>e.ids.all fun i=>EU i σ.used
 |none=>true)
theorem oE.of{σ σ':AS}(f:Nat→Nat)(he:AV f σ.env σ'.env)(hh:xE f σ.heap σ'.heap)(hu:KP f σ.used σ'.used=true)(hi:za f (σ'.heap.map (·.1))=true)(hc:Oz σ'=true):oE σ σ':=by
 intro C F γ a w hs;simp only[Oz,Bool.and_eq_true,List.all_eq_true]at hc
 let γ':fc:=fun i=>if i∈σ'.used then γ (f i)else none
 have Jd:∀{i},i∈σ'.used→γ (f i)=γ' i:=fun h=>(if_pos h:γ' _=γ (f _)).symm
 have mem:∀{i e},cB σ'.heap i=some e→i∈σ'.used:=fun h=>any_beq (hc.2 _ (wZ h)).1
 have aiB:∀{i e},cB σ'.heap i=some e→i∈σ'.heap.map (·.1):=fun h=>List.mem_map.2 ⟨_,wZ h,rfl⟩
 have ao0:∀{i e},cB σ'.heap i=some e→∀x∈e.ids,γ (f x)=γ' x:=fun h x hx=>Jd (any_beq (by
  have:=(hc.2 _ (wZ h)).2;simp only[List.all_eq_true]at this;exact this x hx))
 have inj:=Db hi;refine⟨F,γ',fun t d hd=>?_,?_,hs.size,hs.defers⟩
 ·obtain⟨d0,h1,h2⟩:=he.spec t d hd
  have:=hs.env t d0 h1;refine⟨this.1,(HH f d _ (fun x hx=>Jd (any_beq (hc.1 _ (yu hd) x hx)))).1 (h2 _ _ _ this.2)⟩
 ·exact {
   uB:=fun i e h=>by
    obtain⟨e0,h1,h2⟩:=hh.spec i e h;obtain⟨g,k1,k2⟩:=hs.ws.uB _ _ h1;exact⟨g,(Jd (mem h)).symm.trans k1,(Mn f (ao0 h)).1 (h2.uB k2)⟩
   own:=fun i e g b h hg hb=>by
    obtain⟨e0,h1,h2⟩:=hh.spec i e h;exact hs.ws.own _ e0 g b h1 ((Jd (mem h)).trans hg) hb
   apart:=fun i j e e' g g' b h h' hg qi hb iO=>by
    obtain⟨e0,h1,_⟩:=hh.spec i e h;obtain⟨e1,ZM,_⟩:=hh.spec j e' h';exact inj i (aiB h) j (aiB h') (hs.ws.apart _ _ e0 e1 g g' b h1 ZM ((Jd (mem h)).trans hg) ((Jd (mem h')).trans qi) hb iO)
   fs:=hs.ws.fs,f0:=hs.ws.f0,vR:=hs.ws.vR,os:=hs.ws.os,tape:=hs.ws.tape,output:=hs.ws.output,size:=hs.ws.size,uw:=hs.ws.uw
   us:=fun i g h=>by
    simp only[γ']at h
    split at h
    ·assumption
    ·cases h
   gone:=fun i g h=>by
    simp only[γ']at h
    split at h
    ·exact hs.ws.gone _ _ h
    ·cases h
   g0:=fun i g h=>by
    have h1:=hs.ws.g0 i g h;have h2:=hs.ws.gk i g h;have h3:=List.all_eq_true.1 hu i (hs.ws.us i g h1);simp only[Bool.or_eq_true,Bool.and_eq_true,Nat.blt_eq]at h3;rcases h3 with h3|⟨h3,h4⟩
    ·omega
    ·have e:f i=i:=Nat.eq_of_beq_eq_true h3
     show γ' i=some g;rw[←Jd (any_beq h4),e];exact h1
   gk:=hs.ws.gk,kn:=hs.ws.kn }
theorem yg{σ:AS}{t id:Nat}(E sz:Nat)(ht:look σ.env t=some .bq)(hi:EU id σ.used=false):oE σ ⟨(t,.row id)::σ.env,(id,some (.row E sz []))::σ.heap,id::σ.used⟩:=fun C F γ a w hs=>by
 have hn:id ∉ σ.used:=fun h=>by
  have:EU id σ.used=true:=List.any_eq_true.2 ⟨id,h,by simp⟩;rw[hi]at this;cases this
 have hle:=sS (.slice none 0 0) (hs.ws.fresh hn);have W:=hs.ws.add hn (e0:=.row E sz []) (g:=.slice none 0 0) ⟨[],Ls _ _ _ _,by simp[mT]⟩ (fun b hb=>by simp[eU]at hb);refine⟨F,_,fun t' d hd=>?_,W,hs.size,hs.defers⟩;simp only at hd;rw[eW]at hd;have h0:=hs.env t _ ht
 split at hd
 ·rename_i e1;subst e1;injection hd with hd;subst hd
  refine⟨h0.1,?_⟩;have:=h0.2;simp only[Rs]at this ⊢;rw[this];exact vi _ _ _
 ·exact⟨(hs.env t' d hd).1,(hs.env t' d hd).2.mono (sd.refl _) hle⟩
mutual
def DV.SO(id sz:Nat)(eC:List DV):DV→DV
 |.row i=>bif Nat.beq i id then .sl sz eC else .row i
 |.agg ds=>.agg (Hr id sz eC ds)
 |.gW ds=>.gW (Hr id sz eC ds)
 |.Ew b d=>.Ew b (d.SO id sz eC)
 |.Dh f ds=>.Dh f (Hr id sz eC ds)
 |.int k n=>.int k n
 |.bool b=>.bool b
 |.str s=>.str s
 |.val v=>.val v
 |.bq=>.bq
 |.sl s e=>.sl s e
 |.fs s e=>.fs s e
 |.jA ds=>.jA ds
 |.ref i o=>.ref i o
 |.rp i j s o=>.rp i j s o
 |.sp i j s o=>.sp i j s o
 |.Ii i o n=>.Ii i o n
 |.rv i l n z=>.rv i l n z
 |.np i o=>.np i o
def Hr(id sz:Nat)(eC:List DV):List DV→List DV
 |[]=>[]
 |d::ds=>d.SO id sz eC::Hr id sz eC ds
end
mutual
theorem Md{F F':dI}{γ:fc}{id sz:Nat}{eC:List DV}(hF:sd F F')(h:∀v,γ id=some v→Rs F' γ (.sl sz eC) v):∀(d:DV) (v:Value),Rs F γ d v→Rs F' γ (d.SO id sz eC) v
 |.row i,v,hd=>by
  simp only[Rs]at hd;simp only[DV.SO]
  by_cases e:i=id
  ·subst e
   have:Nat.beq i i=true:=by simp
   rw[this];exact h v hd
  ·have:Nat.beq i id=false:=by rw[Bool.eq_false_iff];intro e';exact e (Nat.eq_of_beq_eq_true e')
   rw[this];simp only[cond_false,Rs];exact hd
 |.agg ds,v,hd=>by simp only[Rs,DV.SO]at hd ⊢;obtain⟨cs,rfl,hd⟩:=hd;exact⟨cs,rfl,Mg hF h ds _ hd⟩
 |.gW ds,v,hd=>by simp only[Rs,DV.SO]at hd ⊢;obtain⟨cs,rfl,hd⟩:=hd;exact⟨cs,rfl,Me hF h ds _ hd⟩
 |.Ew b d,v,hd=>by simp only[Rs,DV.SO]at hd ⊢;exact⟨fun e=>Md hF h d v (hd.1 e),hd.2⟩
 |.Dh f ds,v,hd=>by simp only[Rs,DV.SO]at hd ⊢;obtain⟨cs,rfl,hd⟩:=hd;exact⟨cs,rfl,Me hF h ds _ hd⟩
 |.int k n,v,hd=>hd.mono hF (rM.refl _)
 |.bool b,v,hd=>hd.mono hF (rM.refl _)
 |.str s,v,hd=>hd.mono hF (rM.refl _)
 |.val x,v,hd=>hd.mono hF (rM.refl _)
 |.bq,v,hd=>hd.mono hF (rM.refl _)
 |.sl s e,v,hd=>hd.mono hF (rM.refl _)
 |.fs s e,v,hd=>hd.mono hF (rM.refl _)
 |.jA ds,v,hd=>hd.mono hF (rM.refl _)
 |.ref i o,v,hd=>hd.mono hF (rM.refl _)
 |.rp i j s o,v,hd=>hd.mono hF (rM.refl _)
 |.sp i j s o,v,hd=>hd.mono hF (rM.refl _)
 |.Ii i o n,v,hd=>hd.mono hF (rM.refl _)
 |.rv i l n z,v,hd=>hd.mono hF (rM.refl _)
 |.np i o,v,hd=>hd.mono hF (rM.refl _)
theorem Mg{F F':dI}{γ:fc}{id sz:Nat}{eC:List DV}(hF:sd F F')(h:∀v,γ id=some v→Rs F' γ (.sl sz eC) v):∀(ds:List DV) (vs:List Value),fG F γ ds vs→fG F' γ (Hr id sz eC ds) vs
 |[],vs,hd=>by simp only[fG,Hr]at hd ⊢;exact hd
 |d::ds,vs,hd=>by
  simp only[fG,Hr]at hd ⊢;obtain⟨v,rest,h1,h2,h3,h4⟩:=hd;exact⟨v,rest,h1,h2,Md hF h d v h3,Mg hF h ds _ h4⟩
theorem Me{F F':dI}{γ:fc}{id sz:Nat}{eC:List DV}(hF:sd F F')(h:∀v,γ id=some v→Rs F' γ (.sl sz eC) v):∀(ds:List DV) (vs:List Value),sM F γ ds vs→sM F' γ (Hr id sz eC ds) vs
 |[],vs,hd=>by simp only[sM,Hr]at hd ⊢;exact hd
 |d::ds,vs,hd=>by
  simp only[sM,Hr]at hd ⊢;obtain⟨v,rest,h1,h3,h4⟩:=hd;exact⟨v,rest,h1,Md hF h d v h3,Me hF h ds _ h4⟩
end
def HE.SO(id sz:Nat)(eC:List DV):HE→HE
 |.bC T ds=>.bC T (Hr id sz eC ds)
 |.row E s e=>.row E s e
 |.obj o=>.obj o
 |.mp l=>.mp l
 |.PL E sz eC=>.PL E sz eC
 |.it BU n seen=>.it BU n seen
def Ym(id sz:Nat)(eC:List DV)(e:List (Nat×DV)):List (Nat×DV):=e.map fun p=>(p.1,p.2.SO id sz eC)
def UT(id sz:Nat)(eC:List DV)(h:eY):eY:=h.map fun p=>(p.1,p.2.map (HE.SO id sz eC))
theorem BF{α β:Type}(g:α→β):∀(l:List (Nat×α)) (t:Nat),look (l.map fun p=>(p.1,g p.2)) t=(look l t).map g
 |[],t=>rfl
 |(k,x)::l,t=>by
  rw[List.map_cons,eW,eW,BF g l t]
  split <;> rfl
theorem oE.freeze{σ:AS}{id E sz:Nat}{eC:List DV}(hh:cB σ.heap id=some (.row E sz eC)):oE σ ⟨Ym id sz eC σ.env,(id,none)::UT id sz eC σ.heap,σ.used⟩:=fun C F γ a w hs=>by
 obtain⟨g,hg,_⟩:=hs.ws.uB id _ hh;obtain⟨F',f1,f2,f3⟩:=hs.ws.freeze hh hg;have h:∀v,γ id=some v→Rs F' γ (.sl sz eC) v:=fun v hv=>by rw[hg]at hv;injection hv with hv;subst hv;exact f3
 refine⟨F',γ,fun t d hd=>?_,?_,hs.size,hs.defers⟩
 ·simp only[Ym]at hd
  rw[BF (fun d=>DV.SO id sz eC d)]at hd;cases hl:look σ.env t with
  |none=>rw[hl]at hd;cases hd
  |some d0=>
   rw[hl]at hd;injection hd with hd;subst hd
   exact⟨(hs.env t d0 hl).1,Md f1 h d0 _ (hs.env t d0 hl).2⟩
 ·have key:∀i e,cB ((id,none)::UT id sz eC σ.heap) i=some e→∃e0,cB ((id,none)::σ.heap) i=some e0∧e=e0.SO id sz eC:=by
   intro i e hi;rw[dj]at hi ⊢
   split at hi
   ·cases hi
   ·unfold cB at hi ⊢
    simp only[UT]at hi;rw[BF (fun x=>Option.map (HE.SO id sz eC) x)]at hi;cases hl:look σ.heap i with
    |none=>rw[hl]at hi;simp at hi
    |some x=>
     rw[hl]at hi;cases x with
     |none=>simp at hi
     |some e0=>
      simp at hi
      rename_i pQ
      exact⟨e0,by rw[if_neg pQ],hi.symm⟩
  exact {
   uB:=fun i e hi=>by
    obtain⟨e0,k1,rfl⟩:=key i e hi
    have k0:cB σ.heap i=some e0:=by
     rw[dj]at k1
     split at k1
     ·cases k1
     ·exact k1
    obtain⟨g',q1,q2⟩:=hs.ws.uB i e0 k0;refine⟨g',q1,?_⟩;cases e0 with
    |bC T ds=>obtain⟨b,cs,r1,r2,r3⟩:=q2;exact⟨b,cs,r1,r2,Mg f1 h ds _ r3⟩
    |row E' s e'=>obtain⟨vs,r1,r2⟩:=q2;exact⟨vs,r1,r2.mono f1⟩
    |obj o=>exact q2
    |mp l=>obtain⟨b,es,ck,r1,r2,r3,r4⟩:=q2;exact⟨b,es,ck,r1,r2,r3.mono f1,r4⟩
    |PL E sz eC=>
     rcases q2 with q2|⟨b,off,c,cur,r1,r2,r3,r4,r5,r6⟩
     ·exact .inl q2
     ·exact .inr ⟨b,off,c,cur,r1,r2,r3,r4,r5,r6.mono f1⟩
    |it BU n seen=>exact q2
   own:=fun i e g' b hi=>by obtain⟨e0,k1,_⟩:=key i e hi;exact f2.own i e0 g' b k1
   apart:=fun i j e e' g1 g2 b hi hj=>by
    obtain⟨e0,k1,_⟩:=key i e hi;obtain⟨e1,k2,_⟩:=key j e' hj;exact f2.apart i j e0 e1 g1 g2 b k1 k2
   fs:=f2.fs,f0:=f2.f0,vR:=f2.vR,os:=f2.os,tape:=f2.tape,output:=f2.output,size:=f2.size,uw:=f2.uw,us:=f2.us,gone:=f2.gone,g0:=f2.g0,gk:=f2.gk,kn:=f2.kn }
end Go.Proofs.YtpeihknododmlaaGreatDoor
/-! ### part P -/
/-
 My engine,part P: pointers against nil.
-/
namespace Go.Proofs.YtpeihknododmlaaGreatDoor
open Go.RowKit
class Cu(P:Program)(t:TypeId):Prop where
 h:∃e,P.underlying t=some (.pointer e)
section
variable {P:Program} {ops:Array Oper} {σ:AS} {t:Nat} {ty:TypeId} {pos:String} {af:Array Edge}
theorem GW{T:TypeId}[hT:Cu P T](a:Option Addr)(w:World):(Op.equal T (.pointer a) (.pointer none)).run P w = .ok a.isNone w:=by
 obtain⟨e,he⟩:=hT.h;have:∀n,(Op.equalIn (n+1) T (.pointer a) (.pointer none)).run P w = .ok a.isNone w:=fun n=>by cases a <;> simp[Op.equalIn,run_underlying he]
 exact this 9999
theorem BB{T T':TypeId}[hT:Cu P T]{a:Act}{x:Operand}{A:Option Addr}(hx:a.eval x = .pointer A)(w:World):(execOp a.eval ⟨some t,.binOp .eql T x (.const (.pointer none)) T',ty,pos,af,none⟩).run P w = .ok (.value (.bool A.isNone)) w:=by
 have e0:a.eval (.const (.pointer none)) = .pointer none:=rfl;have e:binOp .eql T (.pointer A) (.pointer none)=(do pure (.bool (←Op.equal T (.pointer A) (.pointer none)))):=by cases A <;> rfl
 have e2:eqGuard .eql T x (.const (.pointer none)) (.pointer A) (.pointer none)=pure ():=rfl;simp only[execOp,hx,e0,e,e2,Sem.run_bind,Sem.run_pure,Result.andThen_ok,GW]
theorem Fu{T T':TypeId}[hT:Cu P T]{a:Act}{x:Operand}{A:Option Addr}(hx:a.eval x = .pointer A)(w:World):(execOp a.eval ⟨some t,.binOp .neq T x (.const (.pointer none)) T',ty,pos,af,none⟩).run P w = .ok (.value (.bool (!A.isNone))) w:=by
 have e0:a.eval (.const (.pointer none)) = .pointer none:=rfl;have e:binOp .neq T (.pointer A) (.pointer none)=(do pure (.bool (!(←Op.equal T (.pointer A) (.pointer none))))):=by cases A <;> rfl
 have e2:eqGuard .neq T x (.const (.pointer none)) (.pointer A) (.pointer none)=pure ():=rfl;simp only[execOp,hx,e0,e,e2,Sem.run_bind,Sem.run_pure,Result.andThen_ok,GW]
theorem XF{T T':TypeId}[hT:Cu P T]{x:Operand}{id off:Nat}(hx:ev σ.env x=some (.ref id off)):du P ops ⟨some t,.binOp .eql T x (.const (.pointer none)) T',ty,pos,af,none⟩ (tm x) [] σ ⟨[(t,.bool false)],[],[]⟩ :=
 du.val rfl rfl fun C F γ σ' a w h1 h2 hs=>by
  have k1:=hs.ev ((cQ h1 (fun _ h=>h)).trans hx);simp only[Rs]at k1;obtain⟨b,hg,e⟩:=k1;exact⟨_,BB e w,by simp only[Rs];rfl⟩
theorem XD{T T':TypeId}[hT:Cu P T]{x:Operand}{id off:Nat}(hx:ev σ.env x=some (.ref id off)):du P ops ⟨some t,.binOp .neq T x (.const (.pointer none)) T',ty,pos,af,none⟩ (tm x) [] σ ⟨[(t,.bool true)],[],[]⟩ :=
 du.val rfl rfl fun C F γ σ' a w h1 h2 hs=>by
  have k1:=hs.ev ((cQ h1 (fun _ h=>h)).trans hx);simp only[Rs]at k1;obtain⟨b,hg,e⟩:=k1;exact⟨_,Fu e w,by simp only[Rs];rfl⟩
theorem XG{T T':TypeId}[hT:Cu P T]{x:Operand}(hx:ev σ.env x=some (.val (.pointer none))):du P ops ⟨some t,.binOp .eql T x (.const (.pointer none)) T',ty,pos,af,none⟩ (tm x) [] σ ⟨[(t,.bool true)],[],[]⟩ :=
 du.val rfl rfl fun C F γ σ' a w h1 h2 hs=>by
  have k1:=hs.ev ((cQ h1 (fun _ h=>h)).trans hx);simp only[Rs]at k1;exact⟨_,BB k1 w,by simp only[Rs];rfl⟩
theorem QV{f:FuncId}{xs:Array Operand}{ds:List DV}(hx:Ie σ.env xs.toList=some ds):du P ops ⟨some t,.makeFunc (.func f) #[] xs,ty,pos,af,none⟩ (xs.toList.flatMap tm) [] σ ⟨[(t,.Dh f ds)],[],[]⟩ :=
 du.val rfl rfl fun C F γ σ' a w h1 h2 hs=>by
  have k1:=hs.evs ((yb h1 (fun _ h=>h)).trans hx);refine⟨.func (.func f) #[] (xs.map a.eval),by simp[execOp,Instr.makeFunc],?_⟩;simp only[Rs];exact⟨_,rfl,by rw[Array.toList_map];exact k1⟩
inductive Dl(pre:eY):eY→Prop
 |nil:Dl pre []
 |cons {i:Nat} {e:HE} {r:eY} (h:cB pre i=some e) (k:Dl pre r):Dl pre ((i,some e)::r)
theorem Dl.spec{pre r:eY}(k:Dl pre r):∀p∈r,∃e,p.2=some e∧cB pre p.1=some e:=by
 induction k with
 |nil=>intro p hp;cases hp
 |cons h k ih=>
  intro p hp;rcases List.mem_cons.1 hp with rfl|hp
  ·exact⟨_,rfl,h⟩
  ·exact ih p hp
theorem uR(a b:eY)(i:Nat):cB (a++b) i=match look a i with
  |some x=>x
  |none=>cB b i:=by
 unfold cB;rw[gz];cases look a i with
 |none=>rfl
 |some x=>cases x <;> rfl
theorem Sx{dx:DV}{fn:FuncId}[hf:dq P fn]{x:Operand}{Mu:List DV}{xs:Array Operand}{ats:Array TypeId}{K:RC}(f:Nat→Nat)(n:Nat)(hc:iM P fn K){ds:List DV}(hx:ev σ.env x=some dx)(hdx:pP dx (.Dh fn Mu))(ha:Ie σ.env xs.toList=some ds)(hle:oJ (ds++Mu) (yo f K.args))(vg:xG f σ.heap K.pre)(hi:za f (K.pre.map (·.1)++K.new)=true)(RI:Dl K.pre (K.post.drop n)) :
  du P ops ⟨some t,.call ⟨.value x,xs,ats⟩,ty,pos,af,none⟩ (tm x++xs.toList.flatMap tm) (K.pre.map (fun p=>f p.1)) σ ⟨[(t,K.res.ua f)],sL f (K.post.take n),K.new.map f⟩:=by
 intro C F γ σ' a w h1 h2 h3 h4 hs K' Q hK;simp only[Region.wanted,↓reduceIte];have kx:=hdx _ _ _ (hs.ev ((cQ h1 (fun _ h=>List.mem_append_left _ h)).trans hx));simp only[Rs]at kx;obtain⟨cs,ex,yS⟩:=kx;have ka:=hs.evs ((yb h1 (fun _ h=>List.mem_append_right _ h)).trans ha)
 have mw:(execOp a.eval ⟨some t,.call ⟨.value x,xs,ats⟩,ty,pos,af,none⟩).run P w = .ok (.enter fn (xs.map a.eval++cs)) w:=by
  simp[execOp,resolve,ex,Deferred.ofValue,invoke,Ak]
 refine wI (fun c hc=>by cases hc) mw ?_
 have hv:sM F γ (ds++Mu) (xs.toList.map a.eval++cs.toList):=by
  have gen:∀{d1 d2:List DV} {v1 v2:List Value},sM F γ d1 v1→sM F γ d2 v2→sM F γ (d1++d2) (v1++v2):=by
   intro d1
   induction d1 with
   |nil=>intro d2 v1 v2 q1 q2;simp only[sM]at q1;rw[q1];exact q2
   |cons d d1 ih=>
    intro d2 v1 v2 q1 q2;simp only[sM]at q1;obtain⟨v,rest,rfl,q3,q4⟩:=q1;simp only[List.cons_append,sM];exact⟨v,rest++v2,rfl,q3,ih q4 q2⟩
  exact gen ka yS
 have e:(xs.toList.map a.eval++cs.toList).toArray=xs.map a.eval++cs:=by rw[←Array.toList_map,←Array.toList_append]
 have TF:∀i e,cB K.pre i=some e→cB σ'.heap (f i)=some (e.ua f):=fun i e he=>by
  rw[h2 (f i) (List.mem_map.2 ⟨_,wZ he,rfl⟩)];exact vg.spec i e he
 have:=hc C F γ σ'.heap σ'.used w _ f TF (fun i Cf=>h3 (f i) (List.mem_map.2 ⟨i,Cf,rfl⟩)) (Db hi) hs.ws (hle.rsT hv);rw[e]at this;refine this.mono ?_;rintro e w' ⟨v,F',γ',rfl,k1,k2,k3,k4⟩;refine⟨v,rfl,hK F' γ' _ _ k1 ((hs.mono k1 k2 (k3.congr (fun i e he=>?_) (fun _ h=>h))).put (h4 t rfl) k4)⟩
 have RJ:sL f K.post=sL f (K.post.take n)++sL f (K.post.drop n):=by
  unfold sL;rw[←List.map_append,List.take_append_drop]
 rw[RJ,List.append_assoc,uR];rw[uR]at he;cases hl:look (sL f (K.post.take n)) i with
 |some y=>rw[hl]at he;exact he
 |none=>
  rw[hl]at he;simp only at he ⊢;rw[uR];cases ZR:look (sL f (K.post.drop n)) i with
  |none=>exact he
  |some y=>
   simp only;have hm:=yu ZR;unfold sL at hm;obtain⟨p,hp1,hp2⟩:=List.mem_map.1 hm;obtain⟨e0,q1,q2⟩:=RI.spec p hp1;injection hp2 with r1 r2
   rw[q1]at r2;have:=TF p.1 e0 q2;rw[r1,he]at this;rw[←r2,Option.map_some];exact this.symm
theorem abv{fn:FuncId}[hf:dq P fn]{x:Operand}{Mu:List DV}{xs:Array Operand}{ats:Array TypeId}{K:RC}(f:Nat→Nat)(n:Nat)(hc:iM P fn K){ds:List DV}(hx:ev σ.env x=some (.Dh fn Mu))(ha:Ie σ.env xs.toList=some ds)(hle:oJ (ds++Mu) (yo f K.args))(vg:xG f σ.heap K.pre)(hi:za f (K.pre.map (·.1)++K.new)=true)(RI:Dl K.pre (K.post.drop n)) :
  du P ops ⟨some t,.call ⟨.value x,xs,ats⟩,ty,pos,af,none⟩ (tm x++xs.toList.flatMap tm) (K.pre.map (fun p=>f p.1)) σ ⟨[(t,K.res.ua f)],sL f (K.post.take n),K.new.map f⟩:=Sx f n hc hx (pP.refl _) ha hle vg hi RI
theorem abw{fn:FuncId}[hf:dq P fn]{xs:Array Operand}{ats:Array TypeId}{K:RC}(f:Nat→Nat)(n:Nat)(hc:iM P fn K){ds:List DV}(ha:Ie σ.env xs.toList=some ds)(hle:oJ ds (yo f K.args))(vg:xG f σ.heap K.pre)(hi:za f (K.pre.map (·.1)++K.new)=true)(RI:Dl K.pre (K.post.drop n)) :
  du P ops ⟨some t,.call ⟨.value (.func fn),xs,ats⟩,ty,pos,af,none⟩ (xs.toList.flatMap tm) (K.pre.map (fun p=>f p.1)) σ ⟨[(t,K.res.ua f)],sL f (K.post.take n),K.new.map f⟩:=by
 intro C F γ σ' a w h1 h2 h3 h4 hs K' Q hK;have:=aby (ops:=ops) (σ:=σ) (t:=t) (ty:=ty) (pos:=pos) (af:=af) (xs:=xs) (ats:=ats) f hc ha hle vg hi C F γ σ' a w h1 h2 h3 h4 hs K' Q (fun F' γ' a' w' hF mm=>hK F' γ' a' w' hF ?_)
 ·exact this
 ·refine mm.congr (fun t d h=>h) (fun i e he=>?_) (fun _ h=>h)
  have TF:∀i e,cB K.pre i=some e→cB σ'.heap (f i)=some (e.ua f):=fun i e he=>by
   rw[h2 (f i) (List.mem_map.2 ⟨_,wZ he,rfl⟩)];exact vg.spec i e he
  simp only[AS.app]at he ⊢
  have RJ:sL f K.post=sL f (K.post.take n)++sL f (K.post.drop n):=by
   unfold sL;rw[←List.map_append,List.take_append_drop]
  rw[RJ,List.append_assoc,uR];rw[uR]at he;cases hl:look (sL f (K.post.take n)) i with
  |some y=>rw[hl]at he;exact he
  |none=>
   rw[hl]at he;simp only at he ⊢;rw[uR];cases ZR:look (sL f (K.post.drop n)) i with
   |none=>exact he
   |some y=>
    simp only;have hm:=yu ZR;unfold sL at hm;obtain⟨p,hp1,hp2⟩:=List.mem_map.1 hm;obtain⟨e0,q1,q2⟩:=RI.spec p hp1;injection hp2 with r1 r2
    rw[q1]at r2;have:=TF p.1 e0 q2;rw[r1,he]at this;rw[←r2,Option.map_some];exact this.symm
class uz(P:Program)(t:TypeId)(n:outParam Nat)(e:outParam TypeId)(sz:outParam Nat):Prop where
 u:P.underlying t=some (.array n e)
 s:(P.info? e).map (·.size)=some sz
theorem uz.size{t n e sz:Nat}(h:uz P t n e sz)(w:World):(sizeOf e).run P w = .ok sz w:=by
 have:=h.s;cases hq:P.info? e with
 |none=>simp[hq]at this
 |some i=>
  have hs:i.size=sz:=by simpa [hq]using this
  simp[sizeOf,typeInfo,hq,hs]
theorem CG{T n e sz:Nat}[hT:uz P T n e sz]{x y:Operand}{id off:Nat}{k:IntKind}{m:Int}(i:Nat)(hx:ev σ.env x=some (.ref id off))(hy:ev σ.env y=some (.int k m))(hm:m=(i:Int))(hi:i<n) :
  du P ops ⟨some t,.indexAddr T x y,ty,pos,af,none⟩ (tm x++tm y) [] σ ⟨[(t,.ref id (off+i*sz))],[],[]⟩ :=
 du.val rfl rfl fun C F γ σ' a w uL _ hs=>by
  obtain⟨k1,k2⟩:=AO hs uL hx hy;simp only[Rs]at k1 k2;obtain⟨b,hg,e⟩:=k1;subst hm;refine⟨.pointer (some ⟨b,off+i*sz,none⟩),?_,by simp only[Rs];exact⟨b,hg,rfl⟩⟩
  by_cases h0:i*sz=0
  ·simp[execOp,Instr.indexAt,e,k2,asIntOf,run_underlying hT.u,Instr.sureAddr,hi,hT.size,Addr.add,h0]
  ·simp[execOp,Instr.indexAt,e,k2,asIntOf,run_underlying hT.u,Instr.sureAddr,hi,hT.size,Addr.add,h0]
theorem QS{T':TypeId}{x y:Operand}{id off T:Nat}{ds vO:List DV}{d:DV}[hT:dE P T' 1](hx:ev σ.env x=some (.ref id off))(hy:ev σ.env y=some d)(hh:cB σ.heap id=some (.bC T ds))(ho:d.one=true)(hl:off<ds.length)(hd:ds.set off d=vO) :
  du P ops ⟨none,.store T' x y,ty,pos,af,none⟩ (tm x++tm y) [id] σ ⟨[],[(id,some (.bC T vO))],[]⟩:=by
 refine Lu (n:=1) hx hy hh ?_ ?_ ?_ ?_
 ·cases d <;> first|rfl|exact ho|(simp[DV.one]at ho)
 ·rw[DV.LQ ho];rfl
 ·rw[Nat.ble_eq];omega
 ·rw[←hd,vH,DV.LQ ho,List.set_eq_take_append_cons_drop,if_pos hl];simp
theorem Ur{T':TypeId}{x y:Operand}{id off T:Nat}{ds:List DV}{d:DV}[hT:dE P T' 1](hx:ev σ.env x=some (.ref id off))(hy:ev σ.env y=some d)(hh:cB σ.heap id=some (.bC T ds))(ho:d.one=true)(hl:Nat.blt off ds.length=true) :
  du P ops ⟨none,.store T' x y,ty,pos,af,none⟩ (tm x++tm y) [id] σ ⟨[],[(id,some (.bC T (ds.set off d)))],[]⟩:=QS hx hy hh ho (Nat.blt_eq ▸ hl) rfl
end
section
variable {P:Program} {ops:Array Oper} {σ:AS} {t:Nat} {ty:TypeId} {pos:String} {af:Array Edge}
theorem NY{F:dI}(k:IntKind):∀(l:List Int),mT F 1 (l.map (DV.int k)) (l.map (Value.int k))
 |[]=>by simp[mT]
 |x::l=>by
  simp only[List.map_cons,mT];exact⟨.int k x,l.map (Value.int k),by simp[Value.cells],rfl,by simp[Value.cells,Value.oneCell'],by simp only[Rs],NY k l⟩
end
def aoH(F:dI)(w:World):Prop:=∀b cs,F b=some cs→∃t fz,w.heap[b]? = some (.cells cs t fz)
def xk(w:World):dI:=fun b=>match w.heap[b]? with
 |some (.cells cs _ _)=>some cs
 |_=>none
theorem Zd(w:World):aoH (xk w) w:=by
 intro b cs h;unfold xk at h
 split at h
 ·rename_i c t fz hb;injection h with h;subst h;exact⟨t,fz,hb⟩
 ·cases h
theorem abN{P:Program}{f:FuncId}{args:List DV}{vs:List Value}{W:World}(h:bx P f args (.bool true))(hk:Tbs (xk W))(hv:sM (xk W) fc.no args vs):Calls P f vs.toArray W (fun e W'=>e = .returned (.bool true)∧Ext W W'):=by
 have H:WS ⟨W,fun _=>False,xk W,0,fc.no,none,[]⟩ (xk W) fc.no [] [] W:={
  uB:=fun id e h=>by simp[cB,look]at h
  own:=fun id e g b h=>by simp[cB,look]at h
  apart:=fun id yd e e' g g' b h=>by simp[cB,look]at h
  fs:=Zd W
  f0:=sd.refl _
  vR:=fun b cs h=>.inl h
  os:=rfl,tape:=rfl,output:=rfl
  size:=Nat.le_refl _
  uw:=fun _ _ _=>rfl
  us:=fun id g h=>by cases h
  gone:=FX.no
  g0:=rM.refl _
  gk:=fun id g h=>by cases h
  kn:=hk }
 refine(h _ (xk W) fc.no [] [] W vs H hv).mono ?_;rintro e w' ⟨v,F',rfl,_,K,hr⟩;simp only[Rs]at hr;exact⟨by rw[hr],⟨K.os,K.tape,K.output,K.size,fun k hk=>K.uw k hk (fun h=>h)⟩⟩
end Go.Proofs.YtpeihknododmlaaGreatDoor
namespace Go.Proofs.YtpeihknododmlaaGreatDoor
open Go.ChangeShapes Go.WideShapes Go.ChangeAt Go.RowKit
section
variable {H:Type} {enc:TypeId×Value→H} {P:Program}
theorem CB(hl:laidOutB P=true){W W':World}(hb:Ext W W'):∀(ts:List TypeId) (vs:List Value) (ds:List (DataW H)) (ps:List MemPlace),
  (∀t∈ts,P.readableRec t=true∧t<P.types.size)→DataW.TrodAll enc P W 0 (fun _=>true) true ts vs ds ps→(∀x∈ps,x.block<W.heap.size) →
  DataW.TrodAll enc P W' 0 (fun b=>decide (b<W.heap.size)) true ts vs ds ps
 |[],vs,ds,ps,_,h,_=>by
  obtain⟨rfl,rfl,rfl⟩:=trodAll_nil h;exact trodAll_mk0
 |t::ts,vs,ds,ps,hr,h,pE=>by
  obtain⟨v0,VF,d0,ds0,p0,q0,rfl,rfl,rfl,h0,r0⟩:=trodAll_cons h;have h1:=Below.trod hl (hr t (by simp)).1 (hr t (by simp)).2 h0 hb.below (fun x hx=>pE x (by simp[hx]));have h2:=CB hl hb ts VF ds0 q0 (fun t' Mr=>hr t' (by simp[Mr])) r0 (fun x hx=>pE x (by simp[hx]));exact trodAll_cons_mk h1 h2
theorem Yf{f:Func}{s:ChangeSpec}{W W':World}{args:Array Value}{ds:List (DataW H)}{before:List MemPlace}{tb:TypeId}(hl:laidOutB P=true)
  (hW:DataW.Whole enc P f.params.toList s.vars false W args.toList ds [] before) (adW:s.vars = [])
  (ao1:f.resultTypes = #[tb]) (aiC:P.underlying tb=some .bool) (hr:∀t∈f.params.toList,P.readableRec t=true∧t<P.types.size)
  (hf:s.fn H ds = { results:=[.lit (.bool true)],args:=ds }) (hb:Ext W W') :
  s.post enc P f false true false false W args (.bool true) W':=by
 have hW':=hW;obtain⟨p,q,hA,hV,rfl,hfz,ZF⟩:=hW;rw[adW]at hV;obtain⟨_,rfl⟩:=trodVars_none hV;have pE:∀x∈p,x.block<W.heap.size:=fun x hx=>hW'.lt x (by simp[hx])
 refine⟨ds,[],p++[],[],p,[],hW',?_,?_,?_,hb.below.frame _,fun h=>by cases h⟩
 ·rw[List.append_nil,hf,ao1]
  exact trodAll_cons_mk (shut_bool aiC true) trodAll_mk0
 ·rw[List.append_nil,hf]
  exact CB hl hb _ _ _ _ hr hA pE
 ·rw[List.append_nil,hf,adW];rfl
end
end Go.Proofs.YtpeihknododmlaaGreatDoor

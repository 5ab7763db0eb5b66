/-
  Models of functions and the proofs that the code computes them, printed by gm2.py.
-/
import Derived.Test.YtepkcbalmjnhpaaGreatEngT
import Derived.Test.YtepkcbalmjnhpaaGreatTy
set_option maxRecDepth 100000
set_option maxHeartbeats 4000000
set_option linter.unusedVariables false
set_option linter.unusedSimpArgs false
namespace Go.Proofs.YtepkcbalmjnhpaaGreat
open Go.RowKit
structure api_Event where
  gTick : Int
  gComponent : Int
  gKind : Int
  gPeer : Int
  gN : Int
  gCopy : Int
  gHandler : Int
  gD : Int
  gArgs : List Int
def api_Event.cs (x : api_Event) : List DV := [.int .i64 x.gTick, .int .i64 x.gComponent, .int .u8 x.gKind, .int .i64 x.gPeer, .int .i64 x.gN, .int .i64 x.gCopy, .int .i64 x.gHandler, .int .i64 x.gD, .sl 1 (List.map (DV.int .i64) x.gArgs)]
def api_Event.dv (x : api_Event) : DV := .agg (api_Event.cs x)
def array_16_uint64.cs (x : Nat → Int) : List DV := [.int .u64 (x 0), .int .u64 (x 1), .int .u64 (x 2), .int .u64 (x 3), .int .u64 (x 4), .int .u64 (x 5), .int .u64 (x 6), .int .u64 (x 7), .int .u64 (x 8), .int .u64 (x 9), .int .u64 (x 10), .int .u64 (x 11), .int .u64 (x 12), .int .u64 (x 13), .int .u64 (x 14), .int .u64 (x 15)]
def array_16_uint64.dv (x : Nat → Int) : DV := .agg (array_16_uint64.cs x)
structure vclock_Clock where
  gat : Nat → Int
def vclock_Clock.cs (x : vclock_Clock) : List DV := [.int .u64 (x.gat 0), .int .u64 (x.gat 1), .int .u64 (x.gat 2), .int .u64 (x.gat 3), .int .u64 (x.gat 4), .int .u64 (x.gat 5), .int .u64 (x.gat 6), .int .u64 (x.gat 7), .int .u64 (x.gat 8), .int .u64 (x.gat 9), .int .u64 (x.gat 10), .int .u64 (x.gat 11), .int .u64 (x.gat 12), .int .u64 (x.gat 13), .int .u64 (x.gat 14), .int .u64 (x.gat 15)]
def vclock_Clock.dv (x : vclock_Clock) : DV := .agg (vclock_Clock.cs x)
structure record_Record where
  gComponent : Int
  gSeq : Int
  gClock : vclock_Clock
  gWhat : Int
  gEvent : api_Event
  gCount : Int
def record_Record.cs (x : record_Record) : List DV := [.int .i64 x.gComponent, .int .u64 x.gSeq, .int .u64 (x.gClock.gat 0), .int .u64 (x.gClock.gat 1), .int .u64 (x.gClock.gat 2), .int .u64 (x.gClock.gat 3), .int .u64 (x.gClock.gat 4), .int .u64 (x.gClock.gat 5), .int .u64 (x.gClock.gat 6), .int .u64 (x.gClock.gat 7), .int .u64 (x.gClock.gat 8), .int .u64 (x.gClock.gat 9), .int .u64 (x.gClock.gat 10), .int .u64 (x.gClock.gat 11), .int .u64 (x.gClock.gat 12), .int .u64 (x.gClock.gat 13), .int .u64 (x.gClock.gat 14), .int .u64 (x.gClock.gat 15), .int .u8 x.gWhat, .int .i64 x.gEvent.gTick, .int .i64 x.gEvent.gComponent, .int .u8 x.gEvent.gKind, .int .i64 x.gEvent.gPeer, .int .i64 x.gEvent.gN, .int .i64 x.gEvent.gCopy, .int .i64 x.gEvent.gHandler, .int .i64 x.gEvent.gD, .sl 1 (List.map (DV.int .i64) x.gEvent.gArgs), .int .u64 x.gCount]
def record_Record.dv (x : record_Record) : DV := .agg (record_Record.cs x)
structure frame_Part where
  gOff : Int
  gLen : Int
  gBody : List Int
  gGood : Bool
def frame_Part.cs (x : frame_Part) : List DV := [.int .i64 x.gOff, .int .i64 x.gLen, .sl 1 (List.map (DV.int .u8) x.gBody), .bool x.gGood]
def frame_Part.dv (x : frame_Part) : DV := .agg (frame_Part.cs x)
structure collect_span where
  gfrom : Int
  gto : Int
def collect_span.cs (x : collect_span) : List DV := [.int .u64 x.gfrom, .int .u64 x.gto]
def collect_span.dv (x : collect_span) : DV := .agg (collect_span.cs x)
structure collect_part where
  gentries : List record_Record
  glost : List collect_span
  gknown : Bool
  gtotal : Int
def collect_part.cs (x : collect_part) : List DV := [.sl 29 (List.map record_Record.dv x.gentries), .sl 2 (List.map collect_span.dv x.glost), .bool x.gknown, .int .u64 x.gtotal]
def collect_part.dv (x : collect_part) : DV := .agg (collect_part.cs x)
structure collect_Collector where
  gparts : List collect_part
def collect_Collector.cs (x : collect_Collector) : List DV := [.sl 4 (List.map collect_part.dv x.gparts)]
def collect_Collector.dv (x : collect_Collector) : DV := .agg (collect_Collector.cs x)
structure rootcauselaw30_Raw where
  gWhat : Int
  gSeq : Int
  gId : Int
  gCount : Int
def rootcauselaw30_Raw.cs (x : rootcauselaw30_Raw) : List DV := [.int .u8 x.gWhat, .int .u8 x.gSeq, .int .u8 x.gId, .int .u8 x.gCount]
def rootcauselaw30_Raw.dv (x : rootcauselaw30_Raw) : DV := .agg (rootcauselaw30_Raw.cs x)
structure rootcauselaw30_File where
  gComponent : Int
  gRecords : List rootcauselaw30_Raw
def rootcauselaw30_File.cs (x : rootcauselaw30_File) : List DV := [.int .u8 x.gComponent, .sl 4 (List.map rootcauselaw30_Raw.dv x.gRecords)]
def rootcauselaw30_File.dv (x : rootcauselaw30_File) : DV := .agg (rootcauselaw30_File.cs x)
structure rootcauseref30_Record where
  gWhat : Int
  gSeq : Int
  gId : Int
  gCount : Int
def rootcauseref30_Record.cs (x : rootcauseref30_Record) : List DV := [.int .i64 x.gWhat, .int .i64 x.gSeq, .int .i64 x.gId, .int .i64 x.gCount]
def rootcauseref30_Record.dv (x : rootcauseref30_Record) : DV := .agg (rootcauseref30_Record.cs x)
def array_48_int.cs (x : Nat → Int) : List DV := [.int .i64 (x 0), .int .i64 (x 1), .int .i64 (x 2), .int .i64 (x 3), .int .i64 (x 4), .int .i64 (x 5), .int .i64 (x 6), .int .i64 (x 7), .int .i64 (x 8), .int .i64 (x 9), .int .i64 (x 10), .int .i64 (x 11), .int .i64 (x 12), .int .i64 (x 13), .int .i64 (x 14), .int .i64 (x 15), .int .i64 (x 16), .int .i64 (x 17), .int .i64 (x 18), .int .i64 (x 19), .int .i64 (x 20), .int .i64 (x 21), .int .i64 (x 22), .int .i64 (x 23), .int .i64 (x 24), .int .i64 (x 25), .int .i64 (x 26), .int .i64 (x 27), .int .i64 (x 28), .int .i64 (x 29), .int .i64 (x 30), .int .i64 (x 31), .int .i64 (x 32), .int .i64 (x 33), .int .i64 (x 34), .int .i64 (x 35), .int .i64 (x 36), .int .i64 (x 37), .int .i64 (x 38), .int .i64 (x 39), .int .i64 (x 40), .int .i64 (x 41), .int .i64 (x 42), .int .i64 (x 43), .int .i64 (x 44), .int .i64 (x 45), .int .i64 (x 46), .int .i64 (x 47)]
def array_48_int.dv (x : Nat → Int) : DV := .agg (array_48_int.cs x)
def array_48_bool.cs (x : Nat → Bool) : List DV := [.bool (x 0), .bool (x 1), .bool (x 2), .bool (x 3), .bool (x 4), .bool (x 5), .bool (x 6), .bool (x 7), .bool (x 8), .bool (x 9), .bool (x 10), .bool (x 11), .bool (x 12), .bool (x 13), .bool (x 14), .bool (x 15), .bool (x 16), .bool (x 17), .bool (x 18), .bool (x 19), .bool (x 20), .bool (x 21), .bool (x 22), .bool (x 23), .bool (x 24), .bool (x 25), .bool (x 26), .bool (x 27), .bool (x 28), .bool (x 29), .bool (x 30), .bool (x 31), .bool (x 32), .bool (x 33), .bool (x 34), .bool (x 35), .bool (x 36), .bool (x 37), .bool (x 38), .bool (x 39), .bool (x 40), .bool (x 41), .bool (x 42), .bool (x 43), .bool (x 44), .bool (x 45), .bool (x 46), .bool (x 47)]
def array_48_bool.dv (x : Nat → Bool) : DV := .agg (array_48_bool.cs x)
structure rootcauseref30_Known where
  gIds : Nat → Int
  gLost : Nat → Bool
  gTotal : Int
def rootcauseref30_Known.cs (x : rootcauseref30_Known) : List DV := [.int .i64 (x.gIds 0), .int .i64 (x.gIds 1), .int .i64 (x.gIds 2), .int .i64 (x.gIds 3), .int .i64 (x.gIds 4), .int .i64 (x.gIds 5), .int .i64 (x.gIds 6), .int .i64 (x.gIds 7), .int .i64 (x.gIds 8), .int .i64 (x.gIds 9), .int .i64 (x.gIds 10), .int .i64 (x.gIds 11), .int .i64 (x.gIds 12), .int .i64 (x.gIds 13), .int .i64 (x.gIds 14), .int .i64 (x.gIds 15), .int .i64 (x.gIds 16), .int .i64 (x.gIds 17), .int .i64 (x.gIds 18), .int .i64 (x.gIds 19), .int .i64 (x.gIds 20), .int .i64 (x.gIds 21), .int .i64 (x.gIds 22), .int .i64 (x.gIds 23), .int .i64 (x.gIds 24), .int .i64 (x.gIds 25), .int .i64 (x.gIds 26), .int .i64 (x.gIds 27), .int .i64 (x.gIds 28), .int .i64 (x.gIds 29), .int .i64 (x.gIds 30), .int .i64 (x.gIds 31), .int .i64 (x.gIds 32), .int .i64 (x.gIds 33), .int .i64 (x.gIds 34), .int .i64 (x.gIds 35), .int .i64 (x.gIds 36), .int .i64 (x.gIds 37), .int .i64 (x.gIds 38), .int .i64 (x.gIds 39), .int .i64 (x.gIds 40), .int .i64 (x.gIds 41), .int .i64 (x.gIds 42), .int .i64 (x.gIds 43), .int .i64 (x.gIds 44), .int .i64 (x.gIds 45), .int .i64 (x.gIds 46), .int .i64 (x.gIds 47), .bool (x.gLost 0), .bool (x.gLost 1), .bool (x.gLost 2), .bool (x.gLost 3), .bool (x.gLost 4), .bool (x.gLost 5), .bool (x.gLost 6), .bool (x.gLost 7), .bool (x.gLost 8), .bool (x.gLost 9), .bool (x.gLost 10), .bool (x.gLost 11), .bool (x.gLost 12), .bool (x.gLost 13), .bool (x.gLost 14), .bool (x.gLost 15), .bool (x.gLost 16), .bool (x.gLost 17), .bool (x.gLost 18), .bool (x.gLost 19), .bool (x.gLost 20), .bool (x.gLost 21), .bool (x.gLost 22), .bool (x.gLost 23), .bool (x.gLost 24), .bool (x.gLost 25), .bool (x.gLost 26), .bool (x.gLost 27), .bool (x.gLost 28), .bool (x.gLost 29), .bool (x.gLost 30), .bool (x.gLost 31), .bool (x.gLost 32), .bool (x.gLost 33), .bool (x.gLost 34), .bool (x.gLost 35), .bool (x.gLost 36), .bool (x.gLost 37), .bool (x.gLost 38), .bool (x.gLost 39), .bool (x.gLost 40), .bool (x.gLost 41), .bool (x.gLost 42), .bool (x.gLost 43), .bool (x.gLost 44), .bool (x.gLost 45), .bool (x.gLost 46), .bool (x.gLost 47), .int .i64 x.gTotal]
def rootcauseref30_Known.dv (x : rootcauseref30_Known) : DV := .agg (rootcauseref30_Known.cs x)
structure gap_Gap where
  gComponent : Int
  gFirst : Int
  gCount : Int
  gOpen : Bool
  gFrom : Int
  gTo : Int
def gap_Gap.cs (x : gap_Gap) : List DV := [.int .i64 x.gComponent, .int .u64 x.gFirst, .int .u64 x.gCount, .bool x.gOpen, .int .i64 x.gFrom, .int .i64 x.gTo]
def gap_Gap.dv (x : gap_Gap) : DV := .agg (gap_Gap.cs x)
structure rootcauseref32_Gap where
  gComponent : Int
  gFirst : Int
  gCount : Int
  gOpen : Bool
  gFrom : Int
  gTo : Int
def rootcauseref32_Gap.cs (x : rootcauseref32_Gap) : List DV := [.int .i64 x.gComponent, .int .u64 x.gFirst, .int .u64 x.gCount, .bool x.gOpen, .int .i64 x.gFrom, .int .i64 x.gTo]
def rootcauseref32_Gap.dv (x : rootcauseref32_Gap) : DV := .agg (rootcauseref32_Gap.cs x)
end Go.Proofs.YtepkcbalmjnhpaaGreat

/-
  Models of functions and the proofs that the code computes them, printed by gm.py.
-/
import Derived.Test.YtkadjbpmnpcfhaaEngT
import Derived.Test.YtkadjbpmnpcfhaaTy
set_option maxRecDepth 100000
set_option maxHeartbeats 4000000
set_option linter.unusedVariables false
set_option linter.unusedSimpArgs false
namespace Go.Proofs.Ytkadjbpmnpcfhaa
open Go.RowKit
structure api_Event where
  gTick : Int
  gComponent : Int
  gKind : Int
  gPeer : Int
  gN : Int
  gCopy : Int
  gHandler : Int
  gD : Int
  gArgs : List Int
def api_Event.cs (x : api_Event) : List DV := [.int .i64 x.gTick, .int .i64 x.gComponent, .int .u8 x.gKind, .int .i64 x.gPeer, .int .i64 x.gN, .int .i64 x.gCopy, .int .i64 x.gHandler, .int .i64 x.gD, .sl 1 (List.map (DV.int .i64) x.gArgs)]
def api_Event.dv (x : api_Event) : DV := .agg (api_Event.cs x)
def array_16_uint64.cs (x : Nat → Int) : List DV := [.int .u64 (x 0), .int .u64 (x 1), .int .u64 (x 2), .int .u64 (x 3), .int .u64 (x 4), .int .u64 (x 5), .int .u64 (x 6), .int .u64 (x 7), .int .u64 (x 8), .int .u64 (x 9), .int .u64 (x 10), .int .u64 (x 11), .int .u64 (x 12), .int .u64 (x 13), .int .u64 (x 14), .int .u64 (x 15)]
def array_16_uint64.dv (x : Nat → Int) : DV := .agg (array_16_uint64.cs x)
structure vclock_Clock where
  gat : Nat → Int
def vclock_Clock.cs (x : vclock_Clock) : List DV := [.int .u64 (x.gat 0), .int .u64 (x.gat 1), .int .u64 (x.gat 2), .int .u64 (x.gat 3), .int .u64 (x.gat 4), .int .u64 (x.gat 5), .int .u64 (x.gat 6), .int .u64 (x.gat 7), .int .u64 (x.gat 8), .int .u64 (x.gat 9), .int .u64 (x.gat 10), .int .u64 (x.gat 11), .int .u64 (x.gat 12), .int .u64 (x.gat 13), .int .u64 (x.gat 14), .int .u64 (x.gat 15)]
def vclock_Clock.dv (x : vclock_Clock) : DV := .agg (vclock_Clock.cs x)
structure record_Record where
  gComponent : Int
  gSeq : Int
  gClock : vclock_Clock
  gWhat : Int
  gEvent : api_Event
  gCount : Int
def record_Record.cs (x : record_Record) : List DV := [.int .i64 x.gComponent, .int .u64 x.gSeq, .int .u64 (x.gClock.gat 0), .int .u64 (x.gClock.gat 1), .int .u64 (x.gClock.gat 2), .int .u64 (x.gClock.gat 3), .int .u64 (x.gClock.gat 4), .int .u64 (x.gClock.gat 5), .int .u64 (x.gClock.gat 6), .int .u64 (x.gClock.gat 7), .int .u64 (x.gClock.gat 8), .int .u64 (x.gClock.gat 9), .int .u64 (x.gClock.gat 10), .int .u64 (x.gClock.gat 11), .int .u64 (x.gClock.gat 12), .int .u64 (x.gClock.gat 13), .int .u64 (x.gClock.gat 14), .int .u64 (x.gClock.gat 15), .int .u8 x.gWhat, .int .i64 x.gEvent.gTick, .int .i64 x.gEvent.gComponent, .int .u8 x.gEvent.gKind, .int .i64 x.gEvent.gPeer, .int .i64 x.gEvent.gN, .int .i64 x.gEvent.gCopy, .int .i64 x.gEvent.gHandler, .int .i64 x.gEvent.gD, .sl 1 (List.map (DV.int .i64) x.gEvent.gArgs), .int .u64 x.gCount]
def record_Record.dv (x : record_Record) : DV := .agg (record_Record.cs x)
structure rootcauseref27_Item where
  gClass : Int
  gSize : Int
def rootcauseref27_Item.cs (x : rootcauseref27_Item) : List DV := [.int .i64 x.gClass, .int .i64 x.gSize]
def rootcauseref27_Item.dv (x : rootcauseref27_Item) : DV := .agg (rootcauseref27_Item.cs x)
structure rootcauselaw27_Raw where
  gWhat : Int
  gKind : Int
  gFailed : Bool
  gTick : Int
  gArgs : List Int
def rootcauselaw27_Raw.cs (x : rootcauselaw27_Raw) : List DV := [.int .u8 x.gWhat, .int .u8 x.gKind, .bool x.gFailed, .int .u8 x.gTick, .sl 1 (List.map (DV.int .i64) x.gArgs)]
def rootcauselaw27_Raw.dv (x : rootcauselaw27_Raw) : DV := .agg (rootcauselaw27_Raw.cs x)
end Go.Proofs.Ytkadjbpmnpcfhaa

/- The data of the walks: what the program's structs hold. Plain Lean. -/
import Derived.Test.YtmjieefhjmiagaaDoorGRow
set_option linter.all false
namespace Go.Proofs.YtmjieefhjmiagaaDoor.G
open Go Go.RowKit
structure Arc where
  src : Int
  dst : Int
  inp : Int
  out : Int
  deriving DecidableEq
def Arc.cells (x : Arc) : List Value := [.int .i64 x.src, .int .i64 x.dst, .int .i32 x.inp, .int .i32 x.out]
structure Pair where
  p : Int
  q : Int
  deriving DecidableEq
def Pair.cells (x : Pair) : List Value := [.int .i64 x.p, .int .i64 x.q]
structure Edge where
  src : Pair
  dst : Pair
  inp : Int
  out : Int
  deriving DecidableEq
def Edge.cells (x : Edge) : List Value := [.int .i64 x.src.p, .int .i64 x.src.q, .int .i64 x.dst.p, .int .i64 x.dst.q, .int .i32 x.inp, .int .i32 x.out]
structure Config where
  p : Int
  i : Int
  q : Int
  j : Int
  deriving DecidableEq
def Config.cells (x : Config) : List Value := [.int .i64 x.p, .int .i64 x.i, .int .i64 x.q, .int .i64 x.j]
structure Pos where
  state : Int
  read : Int
  deriving DecidableEq
def Pos.cells (x : Pos) : List Value := [.int .i64 x.state, .int .i64 x.read]
structure Place where
  state : Int
  inn : Int
  out : Int
  deriving DecidableEq
def Place.cells (x : Place) : List Value := [.int .i64 x.state, .int .i64 x.inn, .int .i64 x.out]
structure Tra where
  states : Int
  start : Int
  finals : List Int
  arcs : List Arc
  deriving DecidableEq
/-- A transducer as an element of a slice. -/
structure RTra where
  states : Int
  start : Int
  fin : SV
  arc : SV
def RTra.cells (x : RTra) : List Value := [.int .i64 x.states, .int .i64 x.start, sv x.fin, sv x.arc]
end Go.Proofs.YtmjieefhjmiagaaDoor.G

/- Helpers of the laws of rational numbers: brief. -/
import Derived.Test.YtcdbgincfdejkaaGreatDoorRatJ
namespace Go.Proofs.YtcdbgincfdejkaaGreatDoor
open Go.RowKit
open Go.Lib (decDigits)
structure NC where
  b : Value
  p : Option Addr
  l : Nat
  c : Nat
  q : Option Addr
  m : Nat
  d : Nat
def NC.cells (x : NC) : List Value := [x.b, .slice x.p x.l x.c, .slice x.q x.m x.d]
end Go.Proofs.YtcdbgincfdejkaaGreatDoor

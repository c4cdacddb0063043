/- How the reference reads a prefix. -/
import Derived.Test.YtbbjjjaclbkolaaGreatDoorPfxE
namespace Go.Proofs.YtbbjjjaclbkolaaGreatDoor
open Go.RowKit
open Go.Lib (decDigits)
def upd (f : Nat → Int) (j : Nat) (v : Int) (i : Nat) : Int := if i = j then v else f i
def dgt (z : Int) (c : UInt8) : Int := wrap64 (wrap64 (z * 10) + ((c.toNat - 48 : Nat) : Int))
def stR (p : Nat × (Nat → Int)) (c : UInt8) : Nat × (Nat → Int) := if isDig c = true then (p.1, upd p.2 p.1 (dgt (p.2 p.1) c)) else if p.1 < 4 then (p.1 + 1, p.2) else p
def Fin (s : List UInt8) (f : Nat → Int) : Prop := ∀ b m, TextOf s b m → (∀ i, i < 4 → f i = (byt b i : Int)) ∧ f 4 = m
end Go.Proofs.YtbbjjjaclbkolaaGreatDoor

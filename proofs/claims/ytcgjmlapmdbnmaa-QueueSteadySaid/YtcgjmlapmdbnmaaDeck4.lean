/- Contracts of functions of the program, proved in a small separation logic. Conditions: those that each theorem states. -/
import Derived.Test.YtcgjmlapmdbnmaaDeck3
namespace Go.Proofs.Ytcgjmlapmdbnmaa
open Go Go.Sl
set_option maxHeartbeats 4000000
set_option maxRecDepth 100000
set_option linter.unusedVariables false
/-! A label's deck: its hands, who comes, who waits, its picks. -/
structure Hand where
  room : Nat
  q : List AT
  held : AT
  full : Bool
instance : Dfl Hand := ⟨⟨0, [], zA, false⟩⟩
abbrev handL (r : Nat) (t : S_api_Task) (full : Bool) : List Value := [.pointer (some ⟨r, 0, none⟩), .int .i32 t.f_Id, .int .i64 t.f_Func, .int .i64 t.f_Pc, t.f_Stack, .int .i32 t.f_Vars0, .int .i32 t.f_Vars1, .int .i32 t.f_Vars2, .int .i32 t.f_Vars3, .int .i64 t.f_Label, .int .i64 t.f_Clear, .int .u32 t.f_Privs, .int .i64 t.f_Worker, .bool full]
/-- What stays as it is. -/
structure DX where
  vh : Value
  bs : List Nat
  qp : Nat
  pp : Nat
  pk : Nat
structure DK where
  label : Int
  half : Bool
  fuel : Int
  hands : List Hand
  picks : PS
abbrev dOk (x : DX) (d : DK) : Prop := d.hands.length = x.bs.length ∧ 1 ≤ x.bs.length ∧ x.bs.length ≤ 8
def DK.hasB (d : DK) (w : Int) : Bool := decide (0 ≤ w ∧ w < (d.hands.length : Int))
def DK.hand (d : DK) (w : Int) : Hand := rd d.hands w
def DK.setH (d : DK) (w : Int) (h : Hand) : DK := { d with hands := d.hands.set w.toNat h }
def DK.pushB (d : DK) (w : Int) : Bool := d.hasB w && decide ((d.hand w).q.length < (d.hand w).room)
def Hand.push (h : Hand) (a : AT) : Hand := { h with q := if h.q.length < h.room then h.q ++ [a] else h.q }
def DK.push (d : DK) (w : Int) (a : AT) : DK := match d.hasB w with | true => d.setH w ((d.hand w).push a) | false => d
-- FN (*confidant/deck.Deck).Room
def DK.room (d : DK) (w : Int) : Int := match d.hasB w with | true => ((d.hand w).room : Int) - (d.hand w).q.length | false => 0
-- FN (*confidant/deck.Deck).Drop
def DK.drop (d : DK) (w : Int) : DK := match d.hasB w with | true => d.setH w { d.hand w with held := zA, full := false } | false => d
-- FN (*confidant/deck.Deck).Hold
def DK.hold (d : DK) (w : Int) (a : AT) : DK := match d.hasB w with | true => d.setH w { d.hand w with held := a, full := true } | false => d
-- FN (*confidant/deck.Deck).Held
def DK.heldB (d : DK) (w : Int) : Bool := d.hasB w && (d.hand w).full
def DK.heldA (d : DK) (w : Int) : AT := match d.heldB w with | true => (d.hand w).held | false => zA
end Go.Proofs.Ytcgjmlapmdbnmaa


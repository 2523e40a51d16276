/-
  More words for the walks: a guard of a region that is not decided is parted on; draws; equal structs. No program in sight.
-/
import Derived.Test.YtheioedggjbphaaMix
import Derived.Test.YtheioedggjbphaaKit
namespace Sk
open Go Go.RowKit Go.Sort

section
variable {P : Program} {C : World → Prop} {Q : Act → Prop} {o : Oper} {a : Act} {l : List Oper} {rest : List Oper}
/-- number i of a list of values -/
def pickV : List Value → Nat → Value
  | [], _ => undef
  | v :: _, 0 => v
  | _ :: l, i + 1 => pickV l i
/-- the value on which an operation's guard leans -/
def gval (l : List Oper) (o : Oper) (a : Act) : Value := match o.guard with
  | some (i, _) => match pick l i with
    | some o' => match o'.dst with
      | some d => pickV a.tmps.toList d
      | none => undef
    | none => undef
  | none => undef
theorem q_split {p : Bool} (_h : gval l o a = .bool p) (h : ∀ q, p = q → wpQuiet P l.toArray C Q (o :: rest) a) : wpQuiet P l.toArray C Q (o :: rest) a := h p rfl
theorem e_split {p : Bool} {Q : Exit → Act → World → Prop} {w : World} (_h : gval l o a = .bool p) (h : ∀ q, p = q → wpList P l.toArray Q (o :: rest) a w) : wpList P l.toArray Q (o :: rest) a w := h p rfl
end

theorem wpl_id {P : Program} {ops : Array Oper} {Q : Exit → Act → World → Prop} {l : List Oper} {a : Act} {w : World} (h : wpList P ops Q l a w) : wpList P ops Q l a w := h
theorem grown_of_below {W W' : World} (h : Below W.heap.size W W') : W.grownBy W' none := ⟨h.os, h.tape, h.output, h.size, fun b hb _ => h.block b hb⟩
theorem below_undrew {w w' : World} {n : Nat} (h : Below w.heap.size { w with drawn := n } w') : Below w.heap.size w w' := ⟨h.os, h.tape, h.output, h.size, h.block⟩
theorem below_drew {w : World} {n : Nat} : Below w.heap.size w { w with drawn := n } := ⟨rfl, rfl, rfl, Nat.le_refl _, fun _ _ => rfl⟩
end Sk

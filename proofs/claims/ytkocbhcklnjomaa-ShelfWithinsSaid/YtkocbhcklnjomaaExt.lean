/- A region that draws its order, that only reads, and whose callees leave the old blocks as they were: one walk in the order of the text, over the class of all later worlds. -/
import Derived.Test.YtkocbhcklnjomaaBack
import Derived.BigQuiet
namespace Go.Proofs.Ytkocbhcklnjomaa
open Go.RowKit

/-- a later world: the old blocks are as they were -/
structure Ext (w0 : World) where
  w : World
  h : Below w0.heap.size w0 w
instance extSome (w0 : World) : Nonempty (Ext w0) := ⟨⟨w0, Below.refl _ _⟩⟩
theorem wp_region_ext {P : Program} {id : Nat} {Q : Exit → Act → World → Prop} {a : Act} {w : World} {l : List Oper} (hm : P.follows .mixedOrders = true) (hB : Region.lexB .any l.toArray = true)
    (h : wpQuiet P l.toArray (fun w' => ∃ x : Ext w, w' = x.w) (fun a' => ∀ w', (∃ x : Ext w, w' = x.w) → Q .normal a' w') l a) : (Code.region id l.toArray true).wp P Q a w :=
  wp_region_quiet (C := fun w' => ∃ x : Ext w, w' = x.w) hm hB ⟨⟨_, bdraw (Below.refl _ _)⟩, rfl⟩ (by simpa using h)
theorem ext_out {w0 w' : World} (h : ∃ x : Ext w0, w' = x.w) : Below w0.heap.size w0 w' := by
  obtain ⟨x, rfl⟩ := h
  exact x.h
theorem ext_call {P : Program} {f : FuncId} {args : Array Value} {w0 : World} {x : Ext w0} {v : Value} (h : Calls P f args x.w fun e w' => e = .returned v ∧ Below x.w.heap.size x.w w') :
    Calls P f args x.w fun e w'' => e = .returned v ∧ ∃ y : Ext w0, w'' = y.w := h.mono fun _ w' ⟨he, hb⟩ => ⟨he, ⟨w', bstep x.h hb⟩, rfl⟩
theorem ext_call_same {P : Program} {f : FuncId} {args : Array Value} {w0 : World} {x : Ext w0} {v : Value} (h : Calls P f args x.w fun e w' => e = .returned v ∧ x.w = w') :
    Calls P f args x.w fun e w'' => e = .returned v ∧ ∃ y : Ext w0, w'' = y.w := h.mono fun _ _ ⟨he, hb⟩ => ⟨he, x, hb.symm⟩
end Go.Proofs.Ytkocbhcklnjomaa

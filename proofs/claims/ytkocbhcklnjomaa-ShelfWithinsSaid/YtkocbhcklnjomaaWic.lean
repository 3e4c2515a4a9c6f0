/- A drawn region in a round, out of a plain walk over all its orders. -/
import Derived.Test.YtkocbhcklnjomaaWia
import Derived.Test.YtkocbhcklnjomaaExt
set_option linter.unusedSimpArgs false
namespace Go.Proofs.Ytkocbhcklnjomaa
open Go.RowKit Go.Shelf

theorem uponIn_round {lr n : Nat} {P : Program} {o : Oper} {a : Act} {K : Act → World → Prop} {Q : Exit → Act → World → Prop} {r : Result Next} (h : o.upon P a K Q r) : o.uponIn (Fence.wide.inRound lr) n P a K Q r := by
  cases r with
  | ok v w' =>
    cases v with
    | value v => exact h
    | skip => exact h
    | defer d => exact h
    | enter f args => exact ⟨fun hd => (by cases hd), CallsIn.inRound lr (callsIn_wide.2 h)⟩
    | row row args => exact ⟨fun hd => (by cases hd), fun c cs _ => let ⟨v, w'', r, s⟩ := h c cs; ⟨v, w'', r, stepsIn_wide.2 s⟩⟩
    | _ => exact h.elim
  | halt hh w' =>
    cases hh with
    | panic v => exact h
    | _ => exact h.elim
def noDefer (o : Oper) : Bool := match o.op with | .defer _ => false | _ => true
theorem noDefer_ne {o : Oper} (h : noDefer o = true) : ∀ c, o.op ≠ .defer c := by
  intro c e
  unfold noDefer at h
  rw [e] at h
  cases h
theorem wpIn_round {lr n : Nat} {P : Program} {o : Oper} {a : Act} {w : World} {K : Act → World → Prop} {Q : Exit → Act → World → Prop} (hd : noDefer o = true) (h : o.wp P a w K Q) : o.wpIn (Fence.wide.inRound lr) n P a w K Q := by
  refine ⟨fun _ _ => trivial, ?_⟩
  have e : o.semAt (Fence.wide.inRound lr).round a.eval = execOp a.eval o := Oper.semAt_some lr a.eval o (noDefer_ne hd)
  rw [e]
  exact uponIn_round h
theorem wpOpIn_quiet {lr n : Nat} {P : Program} {ops : Array Oper} {C : World → Prop} {i : Nat} {a : Act} {K : Act → Prop} {K' : Act → World → Prop} {Q : Exit → Act → World → Prop} {w : World} (hd : ops.all noDefer = true) (hC : C w)
    (h : ∀ a w', C w' → K a → K' a w') (hh : qOp P ops C i K a) : wpOpIn (Fence.wide.inRound lr) n P ops Q i K' a w := by
  unfold qOp at hh
  unfold wpOpIn
  split
  · rename_i ho; simp only [ho] at hh; exact h _ _ hC hh
  · rename_i o ho
    have hn : noDefer o = true := (Array.all_eq_true_iff_forall_mem.1 hd) o (Array.mem_of_getElem? ho)
    simp only [ho] at hh
    split
    · rename_i hw; simp only [hw, if_true] at hh; exact wpIn_round hn (Oper.wp_of_quiet hC h hh)
    · rename_i hw; simp only [hw] at hh; exact ⟨fun _ _ => trivial, h _ _ hC hh⟩
theorem wpAnyIn_quiet {lr n : Nat} {P : Program} {md : Region.Mode} {ops : Array Oper} {C : World → Prop} {Q : Act → Prop} {Q' : Exit → Act → World → Prop} (hd : ops.all noDefer = true) (hQ : ∀ a w, C w → Q a → Q' .normal a w) :
    ∀ (fuel : Nat) (listed : Array Bool) (a : Act) (w : World), C w → wpAnyQ P md ops C Q fuel listed a → wpAnyIn (Fence.wide.inRound lr) n P md ops Q' fuel listed a w
  | 0, _, _, _, hw, h => ⟨h.1, hQ _ _ hw h.2⟩
  | fuel + 1, _, _, _, hw, h => ⟨fun h0 => hQ _ _ hw (h.1 h0), fun i hi => wpOpIn_quiet hd hw (fun a' w' hw' => wpAnyIn_quiet hd hQ fuel _ a' w' hw') (h.2 i hi)⟩
theorem wpIn_region_ext {lr n : Nat} {P : Program} {id : Nat} {Q : Exit → Act → World → Prop} {a : Act} {w : World} {l : List Oper} (hm : P.follows .mixedOrders = true) (hB : Region.lexB .any l.toArray = true) (hd : l.toArray.all noDefer = true)
    (h : wpQuiet P l.toArray (fun w' => ∃ x : Ext w, w' = x.w) (fun a' => ∀ w', (∃ x : Ext w, w' = x.w) → Q .normal a' w') l a) : (Code.region id l.toArray true).wpIn (Fence.wide.inRound lr) n P Q a w := by
  simp only [Region.lexB, Bool.and_eq_true] at hB
  refine wpIn_region_any hm ?_
  refine wpAnyIn_quiet hd (C := fun w' => ∃ x : Ext w, w' = x.w) (Q := fun a' => ∀ w', (∃ x : Ext w, w' = x.w) → Q .normal a' w') (fun _ w' hw' h => h w' hw') _ _ _ _ ⟨⟨_, bdraw (Below.refl _ _)⟩, rfl⟩ ?_
  have := wpAnyQ_lex (C := fun w' => ∃ x : Ext w, w' = x.w) (md := .any) hB.1 l.toArray.toList 0 (Array.replicate l.toArray.size false) a (by simp) (by simpa using hB.2) (by simpa using h)
  simpa using this
end Go.Proofs.Ytkocbhcklnjomaa

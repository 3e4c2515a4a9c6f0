/- A region that draws its order and ends in one operation that waits for all others: the others in whatever order, under a condition on the world, then the last one. No program in sight. -/
import Derived.Deep.RegionHeld3
import Derived.StillTail
namespace Go.Proofs.YtbahiohlhhdkcaaDoor
open Go

/-- behind the others: the last one, then Q -/
def lastQ (P : Program) (ops : Array Oper) (Q : Exit → Act → World → Prop) (n : Nat) : Exit → Act → World → Prop
  | .normal, a, w => wpOp P ops Q n (fun a w => Q .normal a w) a w
  | e, a, w => Q e a w
theorem lastQ_imp {P : Program} {ops : Array Oper} {Q : Exit → Act → World → Prop} {n : Nat} {e : Exit} {a : Act} {w : World} (he : e ≠ .normal) (h : lastQ P ops Q n e a w) : Q e a w := by
  cases e <;> first | exact h | exact absurd rfl he
theorem operQ {P : Program} {o : Oper} {a : Act} {w : World} {K : Act → World → Prop} {Q Q' : Exit → Act → World → Prop} (hq : ∀ e a w, e ≠ .normal → Q' e a w → Q e a w) (h : o.wp P a w K Q') : o.wp P a w K Q := by
  unfold Oper.wp at *
  generalize (execOp a.eval o).run P w = r at *
  have hl : LetsOut Q' → LetsOut Q := fun ⟨a, w, h⟩ => ⟨a, w, hq _ _ _ (by simp) h⟩
  cases r with
  | ok n w' =>
    cases n <;> first
      | exact h
      | (refine Calls.mono h fun e w'' he => ?_
         cases e with
         | returned v => exact he
         | panicked c => exact hq _ _ _ (by simp) he
         | outgrown => exact hl he)
  | halt hh w' =>
    cases hh <;> first | exact h | exact hq _ _ _ (by simp) h

def pushB (md : Region.Mode) (l : List Oper) (n : Nat) : Bool :=
  decide (l.length = n + 1) && ((l.take n).all fun o => o.guard.isNone) && ((List.range (n + 1)).all fun i => match l[i]? with | some o => o.after.all fun e => !Region.binds md e || decide (e.on < i) | none => true) &&
    ((List.range n).all fun i => (List.range (n + 1)).any fun j => decide (i < j) && (match l[j]? with | some o => o.after.any fun e => Region.binds md e && e.on == i | none => false))
/-- whatever is listed, all that it waits for is listed -/
def Clsd (md : Region.Mode) (l : List Oper) (n : Nat) (listed : Array Bool) : Prop :=
  ∀ j o, l[j]? = some o → j < n → listed.getD j false = true → ∀ e ∈ o.after, Region.binds md e = true → listed.getD e.on false = true

section
variable {P : Program} {md : Region.Mode} {l : List Oper} {n : Nat} {Q : Exit → Act → World → Prop}

theorem push_get (i : Nat) (hi : i < n) : (l.take n).toArray[i]? = l.toArray[i]? := by
  simp [hi]
theorem getD_push (listed : Array Bool) (i : Nat) : (listed.push false).getD i false = listed.getD i false := by
  simp only [Array.getD_eq_getD_getElem?, Array.getElem?_push]
  split
  · rename_i h
    rw [Array.getElem?_eq_none (by omega)]; rfl
  · rfl
theorem getD_push_t (listed : Array Bool) (i : Nat) (hi : i < listed.size) : (listed.push false).getD i true = listed.getD i true := by
  simp only [Array.getD_eq_getD_getElem?, Array.getElem?_push]
  rw [if_neg (by omega)]
theorem push_ready {listed : Array Bool} (hs : listed.size = n) {i : Nat} (hi : i < n) : i ∈ Region.ready md l.toArray (listed.push false) ↔ i ∈ Region.ready md (l.take n).toArray listed := by
  rw [mem_ready, mem_ready, push_get i hi, getD_push_t listed i (by omega)]
  simp only [getD_push]
theorem push_wpOp (hg : ∀ o ∈ l.take n, o.guard = none) {K K' : Act → World → Prop} (hK : ∀ a w, K a w → K' a w) {i : Nat} (hi : i < n) (hl : n < l.length) {a : Act} {w : World} (h : wpOp P (l.take n).toArray (lastQ P l.toArray Q n) i K a w) :
    wpOp P l.toArray Q i K' a w := by
  have hil : i < l.length := by omega
  have hm : l[i] ∈ l.take n := by
    rw [List.mem_iff_getElem?]
    exact ⟨i, by rw [List.getElem?_take, if_pos hi]; exact List.getElem?_eq_getElem hil⟩
  have hw : ∀ y, Region.wanted l[i] y = true := fun y => by simp [Region.wanted, hg _ hm]
  have e1 : l.toArray[i]? = some l[i] := by simp [hil]
  have e2 : (l.take n).toArray[i]? = some l[i] := (push_get i hi).trans e1
  unfold wpOp at *
  rw [e2] at h
  rw [e1]
  simp only [hw, if_true] at h ⊢
  rcases h with h | ⟨h, a1, w1, h2⟩
  · exact .inl (operQ (fun e a w he h => lastQ_imp he h) (Oper.wp_mono hK h))
  · exact .inr ⟨h, a1, w1, lastQ_imp (by simp) h2⟩

theorem push_all (hB : pushB md l n = true) {listed : Array Bool} (hs : listed.size = n) (hr : Region.ready md (l.take n).toArray listed = []) : ∀ i, i < n → listed.getD i false = true := by
  intro i
  induction i using Nat.strongRecOn with
  | _ i ih =>
    intro hi
    cases hl : listed.getD i false with
    | true => rfl
    | false =>
      exfalso
      simp only [pushB, Bool.and_eq_true, decide_eq_true_eq, List.all_eq_true, List.mem_range] at hB
      obtain ⟨⟨⟨hlen, _⟩, hac⟩, _⟩ := hB
      have hil : i < l.length := by omega
      have h1 := hac i (by omega)
      rw [List.getElem?_eq_getElem hil] at h1
      simp only [Array.all_eq_true', Bool.or_eq_true, Bool.not_eq_true', decide_eq_true_eq] at h1
      have : i ∈ Region.ready md (l.take n).toArray listed := by
        rw [mem_ready, push_get i hi]
        refine ⟨?_, l[i], by simp [hil], fun e he hb => ?_⟩
        · have hsz : i < listed.size := by omega
          simp only [Array.getD_eq_getD_getElem?, Array.getElem?_eq_getElem hsz, Option.getD_some] at hl ⊢
          exact hl
        · rcases h1 e he with h | h
          · rw [h] at hb; cases hb
          · exact ih e.on h (by omega)
      rw [hr] at this
      cases this
theorem push_last (hB : pushB md l n = true) {listed : Array Bool} (hs : listed.size = n) (hcl : Clsd md l n listed) (hr : n ∈ Region.ready md l.toArray (listed.push false)) : Region.ready md (l.take n).toArray listed = [] := by
  simp only [pushB, Bool.and_eq_true, decide_eq_true_eq, List.all_eq_true, List.mem_range] at hB
  obtain ⟨_, hw⟩ := hB
  obtain ⟨_, st, hst, hall⟩ := mem_ready.1 hr
  have hst' : l[n]? = some st := by simpa using hst
  have key : ∀ d i, n - i = d → i < n → listed.getD i false = true := by
    intro d
    induction d using Nat.strongRecOn with
    | _ d ih =>
      intro i hd hi
      have h1 := hw i hi
      rw [List.any_eq_true] at h1
      obtain ⟨j, hj, h2⟩ := h1
      rw [List.mem_range] at hj
      simp only [Bool.and_eq_true, decide_eq_true_eq] at h2
      obtain ⟨hij, h2⟩ := h2
      cases ho : l[j]? with
      | none => rw [ho] at h2; cases h2
      | some o =>
        rw [ho] at h2
        simp only [Array.any_eq_true', Bool.and_eq_true, beq_iff_eq] at h2
        obtain ⟨e, he, hb, hon⟩ := h2
        rcases Nat.lt_or_ge j n with hjn | hjn
        · have := hcl j o ho hjn (ih (n - j) (by omega) j rfl hjn) e he hb
          rw [hon] at this; exact this
        · have : j = n := by omega
          subst this
          rw [hst'] at ho
          cases ho
          have := hall e he hb
          rw [getD_push, hon] at this; exact this
  rw [List.eq_nil_iff_forall_not_mem]
  intro i hi
  obtain ⟨hun, o, ho, _⟩ := mem_ready.1 hi
  have hin : i < n := by
    have := (Array.getElem?_eq_some_iff.1 ho).1
    simp at this; omega
  have h2 := key _ i rfl hin
  have hsz : i < listed.size := by omega
  simp only [Array.getD_eq_getD_getElem?, Array.getElem?_eq_getElem hsz, Option.getD_some] at hun h2
  rw [hun] at h2
  cases h2
theorem Clsd.set {listed : Array Bool} (h : Clsd md l n listed) {i : Nat} (hi : i ∈ Region.ready md (l.take n).toArray listed) : Clsd md l n (listed.setIfInBounds i true) := by
  obtain ⟨_, o, ho, hall⟩ := mem_ready.1 hi
  intro j oj hoj hj hl e he hb
  by_cases hij : i = j
  · subst hij
    rw [push_get i hj] at ho
    have ho' : l[i]? = some o := by simpa using ho
    rw [hoj] at ho'
    cases ho'
    exact getD_set_true (hall e he hb)
  · rw [getD_set_ne false hij] at hl
    exact getD_set_true (h j oj hoj hj hl e he hb)

theorem push_done (hB : pushB md l n = true) {listed : Array Bool} (hs : listed.size = n) (hr : Region.ready md (l.take n).toArray listed = []) {a : Act} {w : World} (h : lastQ P l.toArray Q n .normal a w) (f : Nat) :
    wpAny P md l.toArray Q (f + 1) (listed.push false) a w := by
  have hall := push_all hB hs hr
  have hlen : l.length = n + 1 := by
    simp only [pushB, Bool.and_eq_true, decide_eq_true_eq] at hB
    exact hB.1.1.1
  have hnext : Region.ready md l.toArray ((listed.push false).setIfInBounds n true) = [] := by
    rw [List.eq_nil_iff_forall_not_mem]
    intro i hi
    obtain ⟨hun, o, ho, _⟩ := mem_ready.1 hi
    have hil := (Array.getElem?_eq_some_iff.1 ho).1
    simp only [List.size_toArray] at hil
    rcases Nat.lt_or_ge i n with h | h
    · have := hall i h
      have hsz : i < listed.size := by omega
      simp only [Array.getD_eq_getD_getElem?, Array.getElem?_setIfInBounds, Array.size_push, Array.getElem?_push] at hun
      rw [if_neg (by omega), if_neg (by omega)] at hun
      simp only [Array.getD_eq_getD_getElem?, Array.getElem?_eq_getElem hsz, Option.getD_some] at hun this
      rw [this] at hun; cases hun
    · have hin : i = n := by omega
      subst hin
      have hz : i < (listed.push false).size := by simp; omega
      rw [Array.getD_eq_getD_getElem?, Array.getElem?_setIfInBounds, if_pos rfl, if_pos hz] at hun
      cases hun
  have hst : n ∈ Region.ready md l.toArray (listed.push false) := by
    have hnl : n < l.length := by omega
    rw [mem_ready]
    refine ⟨?_, l[n], by simp [hnl], fun e he hb => ?_⟩
    · simp only [Array.getD_eq_getD_getElem?, Array.getElem?_push]
      rw [if_pos (by omega)]; rfl
    · rw [getD_push]
      simp only [pushB, Bool.and_eq_true, decide_eq_true_eq, List.all_eq_true, List.mem_range] at hB
      have h1 := hB.1.2 n (by omega)
      rw [List.getElem?_eq_getElem hnl] at h1
      simp only [Array.all_eq_true', Bool.or_eq_true, Bool.not_eq_true', decide_eq_true_eq] at h1
      rcases h1 e he with h2 | h2
      · rw [h2] at hb; cases hb
      · exact hall e.on h2
  have hn0 : Region.ready md l.toArray (listed.push false) ≠ [] := fun h0 => by rw [h0] at hst; cases hst
  refine ⟨fun h0 => absurd h0 hn0, fun i hi => ?_⟩
  obtain ⟨hun, o, ho, _⟩ := mem_ready.1 hi
  have hil := (Array.getElem?_eq_some_iff.1 ho).1
  simp only [List.size_toArray] at hil
  have hin : i = n := by
    rcases Nat.lt_or_ge i n with h1 | h1
    · rw [push_ready hs h1, hr] at hi; cases hi
    · omega
  subst hin
  refine wpOp_mono (fun a' w' h' => ?_) h
  cases f with
  | zero => exact ⟨hnext, h'⟩
  | succ f => exact ⟨fun _ => h', fun j hj => by rw [hnext] at hj; cases hj⟩

theorem push_any (hB : pushB md l n = true) : ∀ (f : Nat) (listed : Array Bool) (a : Act) (w : World), listed.size = n → Clsd md l n listed → wpAny P md (l.take n).toArray (lastQ P l.toArray Q n) f listed a w → wpAny P md l.toArray Q (f + 1) (listed.push false) a w
  | 0, listed, a, w, hs, _, h => push_done hB hs h.1 h.2 0
  | f + 1, listed, a, w, hs, hcl, h => by
    have hlen : l.length = n + 1 ∧ ∀ o ∈ l.take n, o.guard = none := by
      simp only [pushB, Bool.and_eq_true, decide_eq_true_eq, List.all_eq_true] at hB
      exact ⟨hB.1.1.1, fun o ho => by simpa using hB.1.1.2 o ho⟩
    by_cases hr : Region.ready md (l.take n).toArray listed = []
    · exact push_done hB hs hr (h.1 hr) (f + 1)
    · obtain ⟨j, hj⟩ := List.exists_mem_of_ne_nil _ hr
      have hjn : j < n := by
        obtain ⟨_, o, ho, _⟩ := mem_ready.1 hj
        have := (Array.getElem?_eq_some_iff.1 ho).1
        simp at this; omega
      have hn1 : Region.ready md l.toArray (listed.push false) ≠ [] := fun h0 => by have := (push_ready (l := l) hs hjn).2 hj; rw [h0] at this; cases this
      refine ⟨fun h0 => absurd h0 hn1, fun i hi => ?_⟩
      have hin : i < n := by
        obtain ⟨_, o, ho, _⟩ := mem_ready.1 hi
        have hil := (Array.getElem?_eq_some_iff.1 ho).1
        simp only [List.size_toArray] at hil
        rcases Nat.lt_or_ge i n with h1 | h1
        · exact h1
        · have : i = n := by omega
          subst this
          exact absurd (push_last hB hs hcl hi) hr
      refine push_wpOp hlen.2 (fun a' w' h' => ?_) hin (by omega) (h.2 i ((push_ready hs hin).1 hi))
      have := push_any hB f (listed.setIfInBounds i true) a' w' (by simpa using hs) (hcl.set ((push_ready hs hin).1 hi)) h'
      rwa [show (listed.setIfInBounds i true).push false = (listed.push false).setIfInBounds i true by
        apply Array.ext_getElem?
        intro k
        simp only [Array.getElem?_push, Array.getElem?_setIfInBounds, Array.size_setIfInBounds, Array.size_push]
        by_cases hk : k = listed.size
        · subst hk; rw [if_pos rfl, if_neg (by omega), if_pos rfl]
        · rw [if_neg hk, if_neg hk]
          by_cases hik : i = k
          · rw [if_pos hik, if_pos hik]
            by_cases hkl : k < listed.size
            · rw [if_pos (by omega), if_pos (by omega)]
            · rw [if_neg (by omega), if_neg (by omega)]
          · rw [if_neg hik, if_neg hik]] at this
theorem lastQ_step {ops : Array Oper} {o : Oper} {a : Act} {w : World} (ho : ops[n]? = some o)
    (h : ∀ K : Act → World → Prop, Shut (∀ a w, Q .normal a w → K a w) → if Region.wanted o (yielded ops a.tmps) = true then Oper.wp P o a w K Q else K (a.put o.dst undef) w) : lastQ P ops Q n .normal a w :=
  wpOp_step ho (fun K hK => h K (fun a w hq => hK a w hq))
/-- THE LAW: the others go in whatever order, S standing; then the last one. -/
theorem region_push {id : Nat} {a : Act} {w : World} {S : World → Prop} (n : Nat) (hm : P.follows .mixedOrders = true) (hB : pushB .any l n = true) (hS : S w.drew)
    (h : S w.drew → wpAnyH P .any (l.take n).toArray (lastQ P l.toArray Q n) S n (Array.replicate n false) a w.drew) : (Code.region id l.toArray true).wp P Q a w := by
  have hlen : l.length = n + 1 := by
    simp only [pushB, Bool.and_eq_true, decide_eq_true_eq] at hB
    exact hB.1.1.1
  refine wp_region_any hm ?_
  have h1 := push_any hB n (Array.replicate n false) a w.drew (by simp) (fun j o _ _ hl => by rw [getD_replicate_false] at hl; cases hl) (wpAny_of_held _ _ _ _ (h hS))
  rw [show (Array.replicate n false).push false = Array.replicate (n + 1) false from Array.replicate_succ.symm] at h1
  simpa [hlen] using h1
end
end Go.Proofs.YtbahiohlhhdkcaaDoor

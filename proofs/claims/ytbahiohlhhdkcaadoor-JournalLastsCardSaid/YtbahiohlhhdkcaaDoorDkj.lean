/- Disks: bytes appended to a file, in plain words; a file put in; a file's bytes grown. -/
import Derived.Test.YtbahiohlhhdkcaaDoorDki
namespace Go.Proofs.YtbahiohlhhdkcaaDoor
open Go.RowKit

/-- results: a struct of its own cells, and a slot -/
theorem results_cell_tmp1 {P : Program} {fn : Func} {p x : Tmp} {ty : TypeId} (h : fn.results = #[.cell p ty, .tmp x]) (tmps : Array Value) (w : World) (g : Nat) (t : TypeId) (cs : Array Value) (fr : Nat × Nat) (d : TypeDesc)
    (hp : tmps.getD p undef = .pointer (some ⟨g, 0, none⟩)) (hg : w.heap[g]? = some (.cells cs t fr))
    (hu : P.underlying ty = some d) (hd : (match d with | .struct _ | .array _ _ => true | _ => false) = true) (hi : (P.info? ty).map (·.size) = some cs.size) :
    (results fn tmps).run P w = .ok (.tuple #[.agg cs, tmps.getD x undef]) w := by
  have hp' : tmps[p]?.getD undef = .pointer (some ⟨g, 0, none⟩) := by simpa using hp
  simp [results, h, hp', asAddr, run_loadVar_row w g t ty cs fr d hg hu hd hi]
theorem step_append_sl {α : Type} {E : Enc α} {P : Program} (w : World) {ops : Array Oper} {o : Oper} {ac : Act} {K : Act → World → Prop} {Q : Exit → Act → World → Prop} {X : Prop} (hgd : o.guard = none) (s y : Operand) (t : TypeId)
    (ho : o.op = .call { callee := .builtin .append, args := #[s, y], argTypes := #[t, t] })
    {S S' : Foot} {base : Nat} {e : TypeId} {i : TypeInfo} {z : Value} {bytes : Nat} (ht : P.underlying t = some (.slice e)) (hi : P.info? e = some i) (hz : i.zero = some z)
    (hsize : i.size = E.k) (hby : i.bytes = bytes) (hzs : z.cells.size = E.k)
    {v x : Value} {l m : List α} (hown : Own E S' w base e v l) (hx : Sl E S w x m) (hs : ac.eval s = v) (hxv : ac.eval y = x)
    (h63 : l.length + m.length ≤ maxLen) (hbytes : (l.length + m.length) * bytes ≤ 140737488355328) (hbase : base ≤ w.heap.size)
    (h : ∀ v' w' xs ys, Reps E S' w xs l → w'.ownsRow base e E.k v' (l ++ m).length (xs ++ ys) → Reps E S w ys m → w.grownBy w' v.ownBlock → (v'.ownBlock = v.ownBlock ∨ v'.ownBlock = some w.heap.size) → K (ac.put o.dst v') w') : if Region.wanted o (yielded ops ac.tmps) = true then Oper.wp P o ac w K Q else X := by
  have hw : Region.wanted o (yielded ops ac.tmps) = true := by simp [Region.wanted, hgd]
  rw [if_pos hw]
  obtain ⟨xs, ho', hr⟩ := hown
  exact wp_append_sl (P := P) w s y t ho ht hi hz hsize hby hzs ho' hx hs hxv h63 hbytes hbase fun v' w' ys h2 h3 h4 h5 => h v' w' xs ys hr h2 h3 h4 h5
def app1 : List Fi → Int → List UInt8 → List Fi
  | [], n, b => [⟨n, b, 0⟩]
  | f :: r, n, b => if n < f.n then ⟨n, b, 0⟩ :: f :: r else if f.n = n then ⟨f.n, f.b ++ b, f.s⟩ :: r else f :: app1 r n b
theorem app1_miss {l : List Fi} {n : Int} {b : List UInt8} {i : Nat} (hi : i ≤ l.length) (hl : Lows l n i) (hh : Highs l n i) (hn : ¬ ∃ h : i < l.length, l[i].n = n) : app1 l n b = (l.insertIdx i ⟨n, [], 0⟩).set i ⟨n, b, 0⟩ := by
  induction l generalizing i with
  | nil => simp at hi; subst hi; rfl
  | cons y l ih =>
    cases i with
    | zero =>
      have h1 := hh 0 (by simp) (Nat.le_refl _)
      have h2 : y.n ≠ n := fun e => hn ⟨by simp, e⟩
      simp at h1
      simp only [app1]
      rw [if_pos (by omega)]; rfl
    | succ i =>
      have h1 := hl 0 (by simp) (by omega)
      simp at h1 hi
      simp only [app1]
      rw [if_neg (by omega), if_neg (by omega), ih hi (fun m h hm => hl (m + 1) (by simpa using h) (by omega)) (fun m h hm => hh (m + 1) (by simpa using h) (by omega)) (fun ⟨h, e⟩ => hn ⟨by simpa using h, by simpa using e⟩)]
      rfl
theorem app1_hit {l : List Fi} {n : Int} {b : List UInt8} {i : Nat} (hi : i < l.length) (hl : Lows l n i) (he : l[i].n = n) : app1 l n b = l.set i ⟨l[i].n, l[i].b ++ b, l[i].s⟩ := by
  induction l generalizing i with
  | nil => simp at hi
  | cons y l ih =>
    cases i with
    | zero =>
      simp at he
      simp only [app1]
      rw [if_neg (by omega), if_pos he]; rfl
    | succ i =>
      have h1 := hl 0 (by simp) (by omega)
      simp at h1 hi he
      simp only [app1]
      rw [if_neg (by omega), if_neg (by omega), ih hi (fun m h hm => hl (m + 1) (by simpa using h) (by omega)) he]
      simp
theorem fineF_up : ∀ {l : List Fi} {last left : Int}, fineF last left l = true → Up l
  | [], _, _, _ => by intro i j _ hj; simp at hj
  | x :: l, last, left, h => by
    simp only [fineF, Bool.and_eq_true, decide_eq_true_eq] at h
    have ih := fineF_up h.2
    intro i j hij hj
    cases j with
    | zero => omega
    | succ j =>
      simp at hj
      cases i with
      | zero => exact (fineF_low h.2 _ (List.getElem_mem hj)).1
      | succ i => exact ih i j (by omega) hj
theorem formedD_up {room : Int} {l : List Fi} (h : formedD room l = true) : Up l := by
  simp only [formedD, Bool.and_eq_true] at h
  exact fineF_up h.2
def apE (room : Int) (l : List Fi) (n : Int) (b : List UInt8) : Int := if formedD room l = true ∧ 0 ≤ n ∧ n ≤ 1048576 then (if (b.length : Int) ≤ room - sizeD l then 0 else 7) else 1
def apF (room : Int) (l : List Fi) (n : Int) (b : List UInt8) : List Fi := if apE room l n b = 0 then app1 l n b else []
def apR (room : Int) (l : List Fi) (n : Int) (b : List UInt8) : Int := if apE room l n b = 0 then room else 0

theorem tris_insert : ∀ (fs : List Fi) (us : List Value) (i : Nat) (f : Fi) (u : Value), us.length = fs.length → tris (fs.insertIdx i f) (us.insertIdx i u) = (tris fs us).insertIdx i ⟨.int .i64 f.n, u, .int .i64 f.s⟩
  | fs, us, 0, f, u, _ => by simp [tris]
  | [], [], i + 1, f, u, _ => by simp [tris]
  | f' :: fs, u' :: us, i + 1, f, u, h => by simp [tris, tris_insert fs us i f u (by simpa using h)]
  | [], _ :: _, _ + 1, _, _, h => by simp at h
  | _ :: _, [], _ + 1, _, _, h => by simp at h
theorem insert_get {α : Type} {l : List α} {i j : Nat} {x y : α} (_ : i ≤ l.length) (h : (l.insertIdx i x)[j]? = some y) : (j < i ∧ l[j]? = some y) ∨ (j = i ∧ y = x) ∨ (i < j ∧ l[j - 1]? = some y) := by
  rw [List.getElem?_insertIdx] at h
  split at h
  · rename_i h1; exact .inl ⟨h1, h⟩
  · split at h
    · rename_i h1 h2
      split at h
      · exact .inr (.inl ⟨h2, (Option.some.inj h).symm⟩)
      · cases h
    · rename_i h1 h2; exact .inr (.inr ⟨by omega, h⟩)
/-- an empty file is put in -/
theorem FP.insert {B : Nat} {w w' : World} {v v' : Value} {fs : List Fi} {us : List Value} {i : Nat} {n : Int} (h : FP (BO B) B w v fs us fs.length) (hi : i ≤ fs.length)
    (ho : Own trE Any w' B 50 v' ((tris fs us).insertIdx i ⟨.int .i64 n, .slice none 0 0, .int .i64 0⟩)) (hg : w.grownBy w' v.ownBlock) (hv : v'.ownBlock = v.ownBlock ∨ v'.ownBlock = some w.heap.size) :
    FP (BO B) B w' v' (fs.insertIdx i ⟨n, [], 0⟩) (us.insertIdx i (.slice none 0 0)) (fs.insertIdx i ⟨n, [], 0⟩).length := by
  have hiu : i ≤ us.length := by rw [h.len]; exact hi
  have hlt : ∀ {j : Nat} {u : Value}, us[j]? = some u → j < fs.length := fun hj => by have := (List.getElem?_eq_some_iff.1 hj).1; rw [← h.len]; exact this
  have hnil : (Value.slice none 0 0).ownBlock = none := rfl
  have hb : ∀ {j : Nat} {u : Value} {g : Nat}, us[j]? = some u → u.ownBlock = some g → w'.heap[g]? = w.heap[g]? ∧ v'.ownBlock ≠ some g := fun {j u g} hu hgg => by
    have h1 := (h.lt (BO.ok B) hu (hlt hu) hgg).2
    have h2 := h.rn j u g hu (hlt hu) hgg
    refine ⟨hg.block g h1 (fun e => h2 e.symm), ?_⟩
    rcases hv with hv | hv
    · rw [hv]; exact h2
    · rw [hv]; intro e; injection e with e; omega
  refine ⟨by rw [List.length_insertIdx_of_le_length hi, List.length_insertIdx_of_le_length hiu, h.len], ?_, fun j u f hu hf _ => ?_, fun j m u u1 g hu hu1 _ _ hgg hgg1 => ?_, fun j u g hu _ hgg => ?_, fun j u f hu hf hj => ?_⟩
  · rw [tris_insert fs us i ⟨n, [], 0⟩ _ h.len]; exact ho
  · have key : ∀ {j' : Nat}, us[j']? = some u → fs[j']? = some f → BO B w' u f.b := fun hu hf => (BO.ok B).keep (h.own _ u f hu hf (hlt hu)) fun g hgg => (hb hu hgg).1
    rcases insert_get hiu hu with ⟨h1, h2⟩ | ⟨h1, h2⟩ | ⟨h1, h2⟩
    · rcases insert_get hi hf with ⟨_, k2⟩ | ⟨k1, _⟩ | ⟨k1, _⟩
      · exact key h2 k2
      · omega
      · omega
    · rcases insert_get hi hf with ⟨k1, _⟩ | ⟨_, k2⟩ | ⟨k1, _⟩
      · omega
      · subst h2 k2; exact Own.nil
      · omega
    · rcases insert_get hi hf with ⟨k1, _⟩ | ⟨k1, _⟩ | ⟨_, k2⟩
      · omega
      · omega
      · exact key h2 k2
  · have dn : ∀ {j : Nat} {u : Value} {g : Nat}, (us.insertIdx i (.slice none 0 0))[j]? = some u → u.ownBlock = some g → ∃ j', us[j']? = some u ∧ j' = (if j < i then j else j - 1) ∧ j ≠ i := fun {j u g} hu hgg => by
      rcases insert_get hiu hu with ⟨h1, h2⟩ | ⟨h1, h2⟩ | ⟨h1, h2⟩
      · exact ⟨j, h2, by rw [if_pos h1], by omega⟩
      · subst h2; rw [hnil] at hgg; cases hgg
      · exact ⟨j - 1, h2, by rw [if_neg (by omega)], by omega⟩
    obtain ⟨j', a1, a2, a3⟩ := dn hu hgg
    obtain ⟨m', c1, c2, c3⟩ := dn hu1 hgg1
    have := h.ne j' m' u u1 g a1 c1 (hlt a1) (hlt c1) hgg hgg1
    split at a2 <;> split at c2 <;> omega
  · rcases insert_get hiu hu with ⟨h1, h2⟩ | ⟨h1, h2⟩ | ⟨h1, h2⟩
    · exact (hb h2 hgg).2
    · subst h2; rw [hnil] at hgg; cases hgg
    · exact (hb h2 hgg).2
  · have := (List.getElem?_eq_some_iff.1 hf).1
    omega

/-- one file's bytes have grown, in place or anew; then the row's cell is written -/
theorem FP.grow {B : Nat} {w w3 : World} {g cap n i : Nat} {fs : List Fi} {us : List Value} {f : Fi} {u u' : Value} {b' : List UInt8} (h : FP (BO B) B w (.slice (some ⟨g, 0, none⟩) n cap) fs us fs.length) (hf : fs[i]? = some f) (hu : us[i]? = some u)
    (hg : w.grownBy w3 u.ownBlock) (o : Own u8E Any w3 B 5 u' b') (hv : u'.ownBlock = u.ownBlock ∨ u'.ownBlock = some w.heap.size) :
    FP (BO B) B (w3.setCell ⟨g, i * 3 + 1, none⟩ u') (.slice (some ⟨g, 0, none⟩) n cap) (fs.set i ⟨f.n, b', f.s⟩) (us.set i u') fs.length := by
  have hi := (List.getElem?_eq_some_iff.1 hf).1
  obtain ⟨hg1, hg2⟩ := h.row.lt g rfl
  have hug : u.ownBlock ≠ some g := fun e => h.rn i u g hu hi e rfl
  have hu'g : ∀ g', u'.ownBlock = some g' → g' ≠ g := fun g' hg' e => by
    subst e
    rcases hv with hv | hv
    · rw [hv] at hg'; exact hug hg'
    · rw [hv] at hg'; injection hg' with e; omega
  have hlo : ∀ b, b < B → u.ownBlock ≠ some b := fun b hb e => by have := (h.lt (BO.ok B) hu hi e).1; omega
  refine h.put (BO.ok B) hi (.inl ⟨rfl, hi⟩) ?_ ?_ (fun b hb => ?_) (fun j uj gj huj hj hji hgj => ?_) (fun g' hg' => ?_)
  · have hrow := (h.row.tri (S' := fun _ _ => False)).keep (w' := w3) (fun g' hg' => by have e1 : g' = g := some_blk (g := g) hg'; subst e1; exact hg.block _ hg2 (fun e => hug e.symm)) (fun _ _ h _ => h.elim)
    have := (hrow.tri (S' := Any)).triSet (tris_get hf hu) 1 u' (x' := ⟨.int .i64 f.n, u', .int .i64 f.s⟩) rfl rfl (oneCell_slice o.slAny) rfl (by omega)
    rw [tris_set fs us i ⟨f.n, b', f.s⟩ u'] at this
    exact this
  · exact oset (p := ⟨g, i * 3 + 1, none⟩) (u := u') o (fun g' hg' => hu'g g' hg')
  · exact (heap_setCell_other w3 ⟨g, i * 3 + 1, none⟩ b u' (by simp; omega)).trans (hg.block b (by omega) (fun e => hlo b hb e.symm))
  · have hlt := h.lt (BO.ok B) huj hj hgj
    have hne : gj ≠ g := fun e => h.rn j uj gj huj hj hgj (by rw [e]; rfl)
    have hne2 : u.ownBlock ≠ some gj := fun e => hji (h.ne j i uj u gj huj hu hj hi hgj e)
    refine ⟨(heap_setCell_other w3 ⟨g, i * 3 + 1, none⟩ gj u' hne).trans (hg.block gj hlt.2 (fun e => hne2 e.symm)), fun e => ?_⟩
    rcases hv with hv | hv
    · rw [hv] at e; exact hne2 e
    · rw [hv] at e; injection e with e; omega
  · intro e
    injection e with e
    exact hu'g g' hg' e.symm
end Go.Proofs.YtbahiohlhhdkcaaDoor

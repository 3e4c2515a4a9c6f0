/- From what the row reads of an argument to the walk's own words: an integer, bytes, slices, structs; with the two bounds that a row gives. -/
import Derived.Test.YtameigjggdagpaaDoorByte
import Derived.Test.YtameigjggdagpaaDoorRows
import Derived.ProofKit
import Derived.OpenShut
import Derived.Deep.DeepHandedRow
import Derived.Lib.LaidTab
import Derived.SizedLaws
namespace Go.Proofs.YtameigjggdagpaaDoor
open Go.RowKit Go.ChangeShapes Go.WideShapes Go.ChangeAt

/-- What is read at type t reads as an element; its size is at most the bulk; what the form's reach gives of it. -/
def Opens {α : Type} (E : Enc α) (t : TypeId) (m : α → Nat) (fit : α → Prop) : Prop :=
  ∀ {H : Type} (enc : TypeId × Value → H) (w : World) (base : Nat) (spare : Nat → Bool) (held : Bool) (fuel : Nat) (cs : List Value) (x : DataW H × List MemPlace),
    DataW.trod enc Tryd.prog w base spare held fuel t cs = some x →
    ∃ a, E.rd Any w cs a ∧ m a ≤ Rows.uptoBulk x.1 ∧ ((DataW.weights Tryd.prog t x.1).all (· ≤ reachBytes) = true → fit a)


theorem opens_u8 : Opens u8E 5 (fun _ => 1) (fun _ => True) := by
  intro H enc w base spare held fuel cs x h
  obtain ⟨n, rfl, rfl, hw⟩ := DataW.trod_int Tryd.underlying5 h
  have hx : 0 ≤ n ∧ n ≤ 255 := by simpa [Lit.wf, IntKind.min, IntKind.max, IntKind.signed, IntKind.bits] using hw
  refine ⟨UInt8.ofNat n.toNat, ?_, by simp [Rows.uptoBulk], fun _ => trivial⟩
  show [Value.int .u8 n] = [Value.int .u8 ((UInt8.ofNat n.toNat).toNat : Int)]
  have : (UInt8.ofNat n.toNat).toNat = n.toNat := by simp; omega
  rw [this]
  congr 2
  omega

theorem sum_le_bulk {H α : Type} (m : α → Nat) : ∀ (xs : List (DataW H)) (ls : List α), ls.length = xs.length → (∀ (i : Nat) (a : α) (x : DataW H), ls[i]? = some a → xs[i]? = some x → m a ≤ Rows.uptoBulk x) → (ls.map m).sum ≤ Rows.uptoBulkAll xs
  | [], [], _, _ => by simp
  | x :: xs, a :: ls, hl, h => by
    have ih := sum_le_bulk m xs ls (by simpa using hl) (fun i a x ha hx => h (i + 1) a x (by simpa using ha) (by simpa using hx))
    have h0 := h 0 a x rfl rfl
    simp only [List.map_cons, List.sum_cons, Rows.uptoBulkAll]
    omega
  | [], _ :: _, hl, _ => by simp at hl
  | _ :: _, [], hl, _ => by simp at hl

theorem flat_get {k n : Nat} (f : Nat → List Value) (hf : ∀ i, i < n → (f i).length = k) : ((List.range n).flatMap f).length = n * k ∧ ∀ i, i < n → (((List.range n).flatMap f).drop (i * k)).take k = f i := by
  induction n with
  | zero => simp
  | succ n ih =>
    obtain ⟨hl, hg⟩ := ih (fun i hi => hf i (by omega))
    have e : (List.range (n + 1)).flatMap f = (List.range n).flatMap f ++ f n := by rw [List.range_succ, List.flatMap_append]; simp
    rw [e]
    refine ⟨by rw [List.length_append, hl, hf n (by omega), Nat.add_mul, Nat.one_mul], fun i hi => ?_⟩
    rcases Nat.lt_or_ge i n with h | h
    · have hle : i * k + k ≤ n * k := by rw [← Nat.succ_mul]; exact Nat.mul_le_mul_right _ h
      rw [List.drop_append_of_le_length (by omega), List.take_append_of_le_length (by rw [List.length_drop]; omega)]
      exact hg i h
    · have : i = n := by omega
      subst this
      rw [← hl, List.drop_left, ← hf i (by omega), List.take_length]

theorem weightsAll_mem {H : Type} {P : Program} {e : TypeId} : ∀ (xs : List (DataW H)) (i : Nat) (x : DataW H), xs[i]? = some x → (DataW.weightsAll P e xs).all (· ≤ reachBytes) = true → (DataW.weights P e x).all (· ≤ reachBytes) = true
  | y :: ys, 0, x, h, ha => by
    simp at h; subst h
    rw [DataW.weightsAll, List.all_append, Bool.and_eq_true] at ha
    exact ha.1
  | y :: ys, i + 1, x, h, ha => by
    rw [DataW.weightsAll, List.all_append, Bool.and_eq_true] at ha
    exact weightsAll_mem ys i x (by simpa using h) ha.2

theorem opens_slice {α : Type} [Inhabited α] {E : Enc α} {t e : TypeId} {m : α → Nat} {fit : α → Prop} (ht : Tryd.prog.underlying t = some (.slice e)) (hk : Tryd.prog.cellsOf e = E.k) (ho : Opens E e m fit) :
    Opens (slE E) t (fun l => (l.map m).sum + 1) (fun l => l.length * Tryd.prog.bytesOf e ≤ reachBytes ∧ ∀ a ∈ l, fit a) := by
  intro H enc w base spare held fuel cs x h
  have hpos := E.pos
  rcases DataW.trod_slice ht h with ⟨rfl, rfl⟩ | ⟨a, len, cap, elems, rest, n, _, rfl, rfl, hb, hl, hm, hlen, hel, _, _⟩
  · exact ⟨[], ⟨_, rfl, Sl.nil⟩, by simp [Rows.uptoBulk], fun _ => by simp⟩
  rw [hk] at hel
  have hx : ∀ i, i < len → ∃ y : List Value × α, w.cells? base (a.add (i * E.k)) E.k = some y.1 ∧ E.rd Any w y.1 y.2 ∧
      (∀ z, elems[i]? = some z → m y.2 ≤ Rows.uptoBulk z.1 ∧ ((DataW.weights Tryd.prog e z.1).all (· ≤ reachBytes) = true → fit y.2)) := by
    intro i hi
    have h1 := hel i hi
    rw [List.getElem?_eq_getElem (by omega)] at h1
    obtain ⟨cs', hcs, htr⟩ := Option.bind_eq_some_iff.1 h1
    obtain ⟨b, hrd, hmb, hfb⟩ := ho enc w base spare held n cs' _ htr
    refine ⟨(cs', b), hcs, hrd, fun z hz => ?_⟩
    rw [List.getElem?_eq_getElem (by omega)] at hz
    injection hz with hz
    subst hz
    exact ⟨hmb, hfb⟩
  obtain ⟨f, hf⟩ := Deep.choose_lt hx
  have hflen : ∀ i, i < len → (f i).1.length = E.k := fun i hi => E.len (hf i hi).2.1
  obtain ⟨hL, hG⟩ := flat_get (n := len) (fun i => (f i).1) hflen
  have hget : ∀ (i : Nat) (b : α), ((List.range len).map fun i => (f i).2)[i]? = some b → i < len ∧ b = (f i).2 := by
    intro i b hib
    obtain ⟨hil, rfl⟩ := List.getElem?_eq_some_iff.1 hib
    have : i < len := by simpa using hil
    exact ⟨this, by simp⟩
  have hcell : ∀ j u, ((List.range len).flatMap fun i => (f i).1)[j]? = some u → w.cell? (a.add j) = some u := by
    intro j u hu
    have hj : j < len * E.k := by rw [← hL]; exact (List.getElem?_eq_some_iff.1 hu).1
    have hdl : j / E.k < len := by rw [Nat.div_lt_iff_lt_mul hpos]; exact hj
    have hml := Nat.mod_lt j hpos
    have hdm := Nat.div_add_mod' j E.k
    have h1 := hG _ hdl
    have h2 : (f (j / E.k)).1[j % E.k]? = some u := by
      rw [← h1, List.getElem?_take, if_pos hml, List.getElem?_drop, hdm]
      exact hu
    obtain ⟨_, _, h3⟩ := World.cells?_some (hf _ hdl).1
    rw [← h2, ← h3 _ hml, Deep.add_add, hdm]
  refine ⟨(List.range len).map fun i => (f i).2, ⟨_, rfl, some a, cap, (List.range len).flatMap fun i => (f i).1, by simp, by simpa using hl, hm, by simp, ⟨by simpa using hL, ?_⟩, ?_⟩, ?_, ?_⟩
  · intro i b hib
    obtain ⟨hil, rfl⟩ := hget i b hib
    rw [hG i hil]
    exact (hf i hil).2.1
  · intro j u hu
    obtain ⟨b, off, sp⟩ := a
    have h0l : 0 < ((List.range len).flatMap fun i => (f i).1).length := by
      have := (List.getElem?_eq_some_iff.1 hu).1
      omega
    have h0 := hcell 0 _ (List.getElem?_eq_getElem h0l)
    have hz : (⟨b, off, sp⟩ : Addr).add 0 = ⟨b, off, sp⟩ := by simp [Addr.add]
    rw [hz] at h0
    obtain ⟨hsp, _⟩ := At.of_cell h0
    subst hsp
    refine ⟨b, off, rfl, ?_⟩
    have hju := hcell j u hu
    rw [add_lit'] at hju
    exact (At.of_cell hju).2
  · show _ + 1 ≤ _
    have := sum_le_bulk m (elems.map (·.1)) ((List.range len).map fun i => (f i).2) (by simp [hlen]) (by
      intro i b d hib hid
      obtain ⟨hil, rfl⟩ := hget i b hib
      rw [List.getElem?_map] at hid
      obtain ⟨z, hz, rfl⟩ := Option.map_eq_some_iff.1 hid
      exact ((hf i hil).2.2 z hz).1)
    simp only [Rows.uptoBulk]
    omega
  · intro hw
    simp only [DataW.weights, ht, List.all_cons, List.all_append, Bool.and_eq_true, decide_eq_true_eq] at hw
    obtain ⟨h1, h2, _⟩ := hw
    refine ⟨?_, ?_⟩
    · simp only [List.length_map, hlen] at h1
      simp only [List.length_map, List.length_range]
      exact Nat.le_trans (Nat.mul_le_mul_right _ (by omega)) h1
    · intro b hb
      obtain ⟨i, hi, rfl⟩ := List.mem_map.1 hb
      have hil : i < len := by simpa using hi
      have hz : elems[i]? = some (elems[i]'(by omega)) := List.getElem?_eq_getElem (by omega)
      exact ((hf i hil).2.2 _ hz).2 (weightsAll_mem (elems.map (·.1)) i _ (by rw [List.getElem?_map, hz]; rfl) h2)

/-- An argument that is a slice. -/
theorem arg_slice {α : Type} {E : Enc α} {t : TypeId} {m : List α → Nat} {fit : List α → Prop} {H : Type} {enc : TypeId × Value → H} {w : World} {base : Nat} {spare : Nat → Bool} {held : Bool} {v : Value} {d : DataW H} {p : List MemPlace}
    (ho : Opens (slE E) t m fit) {A : Option Addr} {n c : Nat} (hv : v = .slice A n c) (h : DataW.Trod enc Tryd.prog w base spare held t v d p) :
    ∃ l, Sl E Any w v l ∧ m l ≤ Rows.uptoBulk d ∧ ((DataW.weights Tryd.prog t d).all (· ≤ reachBytes) = true → fit l) := by
  obtain ⟨fuel, hf⟩ := h
  subst hv
  obtain ⟨l, ⟨v', hv', hs⟩, hm, hfit⟩ := ho enc w base spare held fuel _ _ hf
  have : v' = .slice A n c := by simpa [Value.cells] using hv'.symm
  subst this
  exact ⟨l, hs, hm, hfit⟩
end Go.Proofs.YtameigjggdagpaaDoor

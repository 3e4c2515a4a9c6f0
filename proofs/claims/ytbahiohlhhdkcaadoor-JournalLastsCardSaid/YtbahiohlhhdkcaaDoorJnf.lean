/- The journal: Scan. -/
import Derived.Test.YtbahiohlhhdkcaaDoorJnq
set_option linter.unusedSimpArgs false
namespace Go.Proofs.YtbahiohlhhdkcaaDoor
open Go.RowKit

theorem results_tmp_cell_tmp {P : Program} {fn : Func} {p x y : Tmp} {ty : TypeId} (h : fn.results = #[.tmp x, .cell p ty, .tmp y]) (tmps : Array Value) (w : World) (g : Nat) (t : TypeId) (cs : Array Value) (fr : Nat × Nat) (d : TypeDesc)
    (hp : tmps.getD p undef = .pointer (some ⟨g, 0, none⟩)) (hg : w.heap[g]? = some (.cells cs t fr))
    (hu : P.underlying ty = some d) (hd : (match d with | .struct _ | .array _ _ => true | _ => false) = true) (hi : (P.info? ty).map (·.size) = some cs.size) :
    (results fn tmps).run P w = .ok (.tuple #[tmps.getD x undef, .agg cs, tmps.getD y undef]) w := by
  have hp' : tmps[p]?.getD undef = .pointer (some ⟨g, 0, none⟩) := by simpa using hp
  simp [results, h, hp', asAddr, run_loadVar_row w g t ty cs fr d hg hu hd hi]
/-- a scan's answer: the records, the disk, the error -/
def AnsL (L : List (List UInt8)) (R : Int) (F : List Fi) (E : Int) (w : World) (e : Ending) (w' : World) : Prop :=
  ∃ v u, e = .returned (.tuple #[v, .agg #[.int .i64 R, u], .int .i64 E]) ∧ Sl (slE u8E) (Hi w.heap.size) w' v L ∧ Sl fiE (Hi w.heap.size) w' u F ∧ Below w.heap.size w w'
theorem sa_bad {room : Int} {l : List Fi} (h : formedD room l = false) : saE room l = 1 ∧ saL room l = [] ∧ saF room l = [] ∧ saR room l = 0 := by
  unfold saE saL saF saR; rw [h]; exact ⟨rfl, rfl, rfl, rfl⟩
theorem sa_ok {room : Int} {l : List Fi} (h : formedD room l = true) : saE room l = 0 ∧ saL room l = scL l ∧ saF room l = scF l ∧ saR room l = room := by
  unfold saE saL saF saR; rw [h]; exact ⟨rfl, rfl, rfl, rfl⟩
theorem whole_same {l : List Fi} {k : Nat} (hk : k < l.length) (h : ¬ ctN l[k].b < l[k].b.length) : (synced l).set k ⟨l[k].n, l[k].b.take (ctN l[k].b), (ctN l[k].b : Int)⟩ = synced l := by
  obtain ⟨t1, t2⟩ := take_all_ct h
  have hks : k < (synced l).length := by rw [synced_len]; exact hk
  rw [t1, t2, ← synced_get hk hks]
  exact List.set_getElem_self hks
/-- a row owned from block B on is not in a box below -/
theorem Own.notIn {α : Type} {E : Enc α} {w : World} {B g o : Nat} {r : Option Nat} {t : TypeId} {v u : Value} {l : List α} (h : Own E (HiN B r) w B t v l) (hg : g < B) : Own E (HiN B r) (w.setCell ⟨g, o, none⟩ u) B t v l :=
  ofarN h (p := ⟨g, o, none⟩) hg

theorem cut_t {S : Foot} {v : Value} {l : List UInt8} {w : World} (hp : Sl u8E S w v l) (ht : Tab w) (hl : l.length ≤ 17592186044416) :
    Calls Tryd.prog 35 #[v] w fun e w' => ∃ A c, e = .returned (.tuple #[.slice A (ctL l).length c, .int .i64 (ctN l : Int)]) ∧ Own (slE u8E) (HiN w.heap.size (Value.slice A (ctL l).length c).ownBlock) w' w.heap.size 25 (.slice A (ctL l).length c) (ctL l) ∧ Below w.heap.size w w' :=
  (cut_c hp ht hl).mono fun _ _ ⟨v', k, h1, h2, h3, h4⟩ => by
    have e : cutK l k = ct l := ct_of h1
    rw [e] at h2 h3
    obtain ⟨A, c, rfl, _⟩ := h3.slAny.shape
    exact ⟨A, c, h2, h3, h4⟩

set_option maxHeartbeats 8000000 in
theorem jscan_c {S : Foot} {v : Value} {room : Int} {l : List Fi} {w : World} (hp : Sl fiE S w v l) (ht : Tab w) :
    Calls Tryd.prog 15 #[.agg #[.int .i64 room, v]] w (AnsL (saL room l) (saR room l) (saF room l) (saE room l) w) := by
  have hp := hp.any
  obtain ⟨i0, hi0, hy0, hy1, hy2⟩ := info_parts sl_info
  obtain ⟨A, cap, rfl, hc1, hc2, _⟩ := hp.shape
  unfold maxLen at hc2
  have q0 : ((w.alloc (.cells #[.int .i64 room, .slice A l.length cap] 24)).alloc (.cells #[.int .i64 0, .slice none 0 0] 24)).heap[w.heap.size]? = some (.cells #[.int .i64 room, .slice A l.length cap] 24 (0, 0)) := heap_alloc2_old _ _ _
  have q1 : ((w.alloc (.cells #[.int .i64 room, .slice A l.length cap] 24)).alloc (.cells #[.int .i64 0, .slice none 0 0] 24)).heap[w.heap.size + 1]? = some (.cells #[.int .i64 0, .slice none 0 0] 24 (0, 0)) := by
    have := heap_alloc_new (w.alloc (.cells #[.int .i64 room, .slice A l.length cap] 24)) (.cells #[.int .i64 0, .slice none 0 0] 24)
    rwa [World.size_alloc] at this
  have HS := fun (w' : World) (bb : Below w.heap.size w w') => Lib.hid ((sync_c (room := room) (w := w') (hp.below (by (repeat (first | with_reducible exact Below.refl _ _ | with_reducible assumption | with_reducible refine bdraw ?_ | with_reducible refine bdrewN ?_ _ | with_reducible refine balloc ?_ _ | with_reducible refine bset ?_ (by simp <;> omega) | with_reducible refine bstep ?_ (by assumption) | with_reducible refine btrans ?_ (by assumption)))) (Nat.le_refl _))).mono fun _ _ h => (Ans.s h).s)
  cases hE : formedD room l
  · have HR := Lib.hid (sa_bad hE)
    have hsy : syE room l = 1 ∧ syF room l = [] ∧ syR room l = 0 := by simp [syE, syF, syR, hE]
    rw [hsy.1, hsy.2.1, hsy.2.2] at HS
    clear hE hsy
    go_enter Tryd.func15, Tryd.ntmps15
    go_wp2_with fail
    refine (HS _ (by (repeat (first | with_reducible exact Below.refl _ _ | with_reducible assumption | with_reducible refine bdraw ?_ | with_reducible refine bdrewN ?_ _ | with_reducible refine balloc ?_ _ | with_reducible refine bset ?_ (by simp <;> omega) | with_reducible refine bstep ?_ (by assumption) | with_reducible refine btrans ?_ (by assumption))))).out.mono ?_
    rintro e w1 ⟨A1, c1, rfl, s1, b1⟩
    clear s1
    generalize ([] : List Fi).length = n1
    have z3 := blkb q1 (w' := (w1.alloc (.cells #[.int .i64 0, .slice A1 n1 c1] 24))) (by (repeat (first | with_reducible exact Below.refl _ _ | with_reducible assumption | with_reducible refine bdraw ?_ | with_reducible refine bdrewN ?_ _ | with_reducible refine balloc ?_ _ | with_reducible refine bset ?_ (by simp <;> omega) | with_reducible refine bstep ?_ (by assumption) | with_reducible refine btrans ?_ (by assumption))))
    have xc0 : (w1.alloc (.cells #[.int .i64 0, .slice A1 n1 c1] 24)).cell? ⟨w.heap.size + 1, 0, none⟩ = some (.int .i64 0) := cell_of_row _ _ 0 _ _ _ z3; have fc0 : (w1.alloc (.cells #[.int .i64 0, .slice A1 n1 c1] 24)).frozen? ⟨w.heap.size + 1, 0, none⟩ = false := frozen_of_row _ _ 0 _ _ z3; have xc1 : (w1.alloc (.cells #[.int .i64 0, .slice A1 n1 c1] 24)).cell? ⟨w.heap.size + 1, 1, none⟩ = some (.slice none 0 0) := cell_of_row _ _ 1 _ _ _ z3; have fc1 : (w1.alloc (.cells #[.int .i64 0, .slice A1 n1 c1] 24)).frozen? ⟨w.heap.size + 1, 1, none⟩ = false := frozen_of_row _ _ 1 _ _ z3
    go_wp2
    refine bodyPost_ret (results_tmp_cell_tmp rfl _ _ (w.heap.size + 1) 24 #[.int .i64 0, .slice none 0 0] (0, 0) _ rfl (set2 z3) Tryd.underlying24 rfl (by kernel_rfl)) rfl ?_
    exact ⟨_, _, by rw [HR.out.1, HR.out.2.2.2]; rfl, by rw [HR.out.2.1]; exact Sl.nil, by rw [HR.out.2.2.1]; exact Sl.nil, by (repeat (first | with_reducible exact Below.refl _ _ | with_reducible assumption | with_reducible refine bdraw ?_ | with_reducible refine bdrewN ?_ _ | with_reducible refine balloc ?_ _ | with_reducible refine bset ?_ (by simp <;> omega) | with_reducible refine bstep ?_ (by assumption) | with_reducible refine btrans ?_ (by assumption)))⟩
  have HE := Lib.hid hE
  have HR := Lib.hid (sa_ok hE)
  have hsy : syE room l = 0 ∧ syF room l = synced l ∧ syR room l = room := by simp [syE, syF, syR, hE]
  rw [hsy.1, hsy.2.1, hsy.2.2] at HS
  have hsz := formedD_size hE
  have HB : Hid (∀ k, (hk : k < l.length) → l[k].b.length ≤ 16777216) := Lib.hid (fun k hk => by have := sizeD_mem (List.getElem_mem hk); omega)
  have HSZ := Lib.hid hsz
  clear hE hsy hsz
  go_enter Tryd.func15, Tryd.ntmps15
  go_wp2_with fail
  refine (HS _ (by (repeat (first | with_reducible exact Below.refl _ _ | with_reducible assumption | with_reducible refine bdraw ?_ | with_reducible refine bdrewN ?_ _ | with_reducible refine balloc ?_ _ | with_reducible refine bset ?_ (by simp <;> omega) | with_reducible refine bstep ?_ (by assumption) | with_reducible refine btrans ?_ (by assumption))))).out.mono ?_
  rintro e w3 ⟨A3, c3, rfl, s3, b3⟩
  have hsl : (synced l).length = l.length := synced_len l
  obtain ⟨cur0, hcur0⟩ : ∃ cur, synced l = cur := ⟨_, rfl⟩
  rw [hcur0] at s3
  have HC0 := Lib.hid hcur0
  rw [hcur0]
  clear hcur0 hsl
  obtain ⟨W, hW⟩ : ∃ W, w3.alloc (.cells #[.int .i64 room, .slice A3 cur0.length c3] 24) = W := ⟨_, rfl⟩
  have hz3 : w.heap.size + 2 ≤ w3.heap.size := by have := b3.size; simp at this; omega
  have hzW : W.heap.size = w3.heap.size + 1 := by rw [← hW]; simp
  have qn : W.heap[w3.heap.size]? = some (.cells #[.int .i64 room, .slice A3 cur0.length c3] 24 (0, 0)) := by rw [← hW]; exact heap_alloc_new w3 _
  have b3W : Below w3.heap.size w3 W := by rw [← hW]; exact (Below.refl _ _).alloc (Nat.le_refl _) _
  have q4 := blkb (blkb q0 (w' := w3) b3) b3W
  have z4 := blkb (blkb q1 (w' := w3) b3) b3W
  have bw3 : Below w.heap.size w w3 := by (repeat (first | with_reducible exact Below.refl _ _ | with_reducible assumption | with_reducible refine bdraw ?_ | with_reducible refine bdrewN ?_ _ | with_reducible refine balloc ?_ _ | with_reducible refine bset ?_ (by simp <;> omega) | with_reducible refine bstep ?_ (by assumption) | with_reducible refine btrans ?_ (by assumption)))
  have bw4 : Below w.heap.size w W := bw3.trans (b3W.mono (by omega))
  have sn : Sl fiE (HiN (w.heap.size + 2) (some w3.heap.size)) W (.slice A3 cur0.length c3) cur0 := (s3.mono (fun b fr h hl => ⟨by have := h.1; simp at this; omega, h.2, fun e => by injection e with e; omega⟩)).below b3W (Nat.le_refl _)
  have s30 : Sl fiE (fun b fr => b < w3.heap.size ∧ w.heap.size + 2 ≤ b ∧ fr = (0, 0)) W (.slice A3 cur0.length c3) cur0 := (s3.mono (S' := fun b fr => b < w3.heap.size ∧ w.heap.size + 2 ≤ b ∧ fr = (0, 0)) (fun b fr h hl => ⟨hl, by have := h.1; simp at this; omega, h.2⟩)).below b3W (Nat.le_refl _)
  have HW := Lib.hid hW
  have qW := q4
  rw [← hW] at qW
  clear hW HS s3 q0 q1
  have xa0 : (w3.alloc (.cells #[.int .i64 room, .slice A3 cur0.length c3] 24)).cell? ⟨w.heap.size, 0, none⟩ = some (.int .i64 room) := cell_of_row _ _ 0 _ _ _ qW; have fa0 : (w3.alloc (.cells #[.int .i64 room, .slice A3 cur0.length c3] 24)).frozen? ⟨w.heap.size, 0, none⟩ = false := frozen_of_row _ _ 0 _ _ qW; have xa1 : (w3.alloc (.cells #[.int .i64 room, .slice A3 cur0.length c3] 24)).cell? ⟨w.heap.size, 1, none⟩ = some (.slice A l.length cap) := cell_of_row _ _ 1 _ _ _ qW; have fa1 : (w3.alloc (.cells #[.int .i64 room, .slice A3 cur0.length c3] 24)).frozen? ⟨w.heap.size, 1, none⟩ = false := frozen_of_row _ _ 1 _ _ qW
  go_wp2
  rw [HW.out]
  clear HW
  have HQ := Lib.hid (And.intro q4 z4)
  clear q4 z4 qW xa0 xa1 fa0 fa1
  go_loopw [7, 8, 10, 11, 12, 25] (fun rv tv _ _ _ iv wr => ∃ (k : Nat) (vn : Value) (cur : List Fi) (rec : List (List UInt8)) (tn : Bool), k ≤ l.length ∧ iv = .int .i64 k ∧ tv = .bool tn ∧ Hid (tnK l k = tn ∧ nwK l k = cur ∧ rcK l k = rec ∧ (tn = false → vn = .slice A3 cur0.length c3)) ∧
    Own (slE u8E) (HiN (w3.heap.size + 1) rv.ownBlock) wr (w3.heap.size + 1) 25 rv rec ∧ Hid (wr.heap[w3.heap.size]? = some (.cells #[.int .i64 room, vn] 24 (0, 0))) ∧
    Sl fiE (HiN (w.heap.size + 2) (some w3.heap.size)) wr vn cur ∧ Below w3.heap.size W wr) (fun _ _ _ _ _ iv _ => l.length - (intOf iv).toNat)
  case atStart => exact ⟨0, _, cur0, [], false, Nat.zero_le _, by go_num, rfl, Lib.hid ⟨tnK_zero l, (nwK_zero l).trans HC0.out, rcK_zero l, fun _ => rfl⟩, Own.nil, Lib.hid qn, sn, Below.refl _ _⟩
  case round =>
    obtain ⟨k, vn, cur, rec, tn, hk, rfl, rfl, HST, orec, HQn, sv, hbr⟩ := hrel
    have hz := hbr.size
    have hbw : Below w.heap.size w wr := bw4.trans (hbr.mono (by omega))
    have hqn := HQn.out
    obtain ⟨An, cn, rfl, hcn1, hcn2, _⟩ := sv.shape
    by_cases hlt2 : k < l.length
    · have hkI : (k : Int) < (l.length : Int) := by omega
      have hk0 : (0 : Int) ≤ (k : Int) := by omega
      obtain ⟨bb, off, Av, cv, rfl, k0, k1, k2, hv⟩ := (hp.below hbw (Nat.le_refl _)).fi hlt2
      have HRM := Lib.hid (fun h => rm_round (room := room) HE.out h hlt2)
      have HWS := Lib.hid (fun h => whole_step (l := l) (k := k) h hlt2)
      have HCT := Lib.hid (ct_round (room := room) HE.out hlt2)
      have HSM := Lib.hid (whole_same hlt2)
      have hxl := HB.out k hlt2
      generalize l[k] = x at *
      obtain ⟨_, _, e, hcv1, hcv2, _⟩ := hv.shape
      injection e with e1 e0 e2
      subst e1 e2
      clear e0
      unfold maxLen at hcv2
      have d2 := k0.cell
      have d3 := k1.cell
      have d4 := k2.cell
      clear k0 k1 k2
      have e5 := heap_alloc_new wr (.cells #[.int .i64 x.n, .slice Av x.b.length cv, .int .i64 x.s] 50)
      have b5 : Below wr.heap.size wr (wr.alloc (.cells #[.int .i64 x.n, .slice Av x.b.length cv, .int .i64 x.s] 50)) := (Below.refl _ _).alloc (Nat.le_refl _) _
      have qn5 := blkb hqn b5
      have sv5 := sv.below b5 (Nat.le_refl _)
      have or5 := orec.below b5 (Nat.le_refl _)
      have hb5 := hbr.trans (b5.mono (by omega))
      have xu0 : (wr.alloc (.cells #[.int .i64 x.n, .slice Av x.b.length cv, .int .i64 x.s] 50)).cell? ⟨wr.heap.size, 0, none⟩ = some (.int .i64 x.n) := cell_of_row _ _ 0 _ _ _ e5; have fu0 : (wr.alloc (.cells #[.int .i64 x.n, .slice Av x.b.length cv, .int .i64 x.s] 50)).frozen? ⟨wr.heap.size, 0, none⟩ = false := frozen_of_row _ _ 0 _ _ e5; have xu1 : (wr.alloc (.cells #[.int .i64 x.n, .slice Av x.b.length cv, .int .i64 x.s] 50)).cell? ⟨wr.heap.size, 1, none⟩ = some (.slice Av x.b.length cv) := cell_of_row _ _ 1 _ _ _ e5; have fu1 : (wr.alloc (.cells #[.int .i64 x.n, .slice Av x.b.length cv, .int .i64 x.s] 50)).frozen? ⟨wr.heap.size, 1, none⟩ = false := frozen_of_row _ _ 1 _ _ e5; have xu2 : (wr.alloc (.cells #[.int .i64 x.n, .slice Av x.b.length cv, .int .i64 x.s] 50)).cell? ⟨wr.heap.size, 2, none⟩ = some (.int .i64 x.s) := cell_of_row _ _ 2 _ _ _ e5; have fu2 : (wr.alloc (.cells #[.int .i64 x.n, .slice Av x.b.length cv, .int .i64 x.s] 50)).frozen? ⟨wr.heap.size, 2, none⟩ = false := frozen_of_row _ _ 2 _ _ e5
      cases tn with
      | true =>
        have xv0 : (wr.alloc (.cells #[.int .i64 x.n, .slice Av x.b.length cv, .int .i64 x.s] 50)).cell? ⟨w3.heap.size, 0, none⟩ = some (.int .i64 room) := cell_of_row _ _ 0 _ _ _ qn5; have fv0 : (wr.alloc (.cells #[.int .i64 x.n, .slice Av x.b.length cv, .int .i64 x.s] 50)).frozen? ⟨w3.heap.size, 0, none⟩ = false := frozen_of_row _ _ 0 _ _ qn5; have xv1 : (wr.alloc (.cells #[.int .i64 x.n, .slice Av x.b.length cv, .int .i64 x.s] 50)).cell? ⟨w3.heap.size, 1, none⟩ = some (.slice An cur.length cn) := cell_of_row _ _ 1 _ _ _ qn5; have fv1 : (wr.alloc (.cells #[.int .i64 x.n, .slice Av x.b.length cv, .int .i64 x.s] 50)).frozen? ⟨w3.heap.size, 1, none⟩ = false := frozen_of_row _ _ 1 _ _ qn5
        have hrm := HRM.out HST.out.1
        obtain ⟨u1, u2, u3⟩ := tnK_up HST.out.1
        obtain ⟨nx, hnx⟩ : ∃ nx, nwK l (k + 1) = nx := ⟨_, rfl⟩
        have hcu := HST.out.2.1
        rw [hcu, hnx] at hrm
        have hC := (remove_c (room := room) (n := x.n) sv5).mono fun _ _ h => h.s
        rw [hrm.1, hrm.2.1, hrm.2.2] at hC
        have HC := Lib.hid hC
        have HNX := Lib.hid (And.intro u1 (And.intro hnx (u2.trans HST.out.2.2.1)))
        clear HRM HWS HCT HSM hrm u1 u2 u3 hnx hcu hC hcn1
        go_wp2_with fail
        refine HC.out.mono ?_
        rintro e w6 ⟨A6, c6, rfl, s6, b6⟩
        have qn6 := blkb qn5 b6
        have hz6 := b6.size
        simp only [World.size_alloc] at hz6
        have s6' : Sl fiE (HiN (w.heap.size + 2) (some w3.heap.size)) w6 (.slice A6 nx.length c6) nx := s6.mono (fun b fr h _ => ⟨by have := h.1; simp only [World.size_alloc] at this; omega, h.2, fun e => by have := h.1; simp only [World.size_alloc] at this; injection e with e; omega⟩)
        clear xv0 xv1 fv0 fv1
        have xv0 : w6.cell? ⟨w3.heap.size, 0, none⟩ = some (.int .i64 room) := cell_of_row _ _ 0 _ _ _ qn6; have fv0 : w6.frozen? ⟨w3.heap.size, 0, none⟩ = false := frozen_of_row _ _ 0 _ _ qn6; have xv1 : w6.cell? ⟨w3.heap.size, 1, none⟩ = some (.slice An cur.length cn) := cell_of_row _ _ 1 _ _ _ qn6; have fv1 : w6.frozen? ⟨w3.heap.size, 1, none⟩ = false := frozen_of_row _ _ 1 _ _ qn6
        have hb6 := hb5.trans (b6.mono (by simp only [World.size_alloc]; omega))
        have or6 := or5.below b6 (Nat.le_refl _)
        go_wp2
        go_roundw
        case rel => exact ⟨k + 1, _, nx, rec, true, by omega, by go_num, rfl, Lib.hid ⟨HNX.out.1, HNX.out.2.1, HNX.out.2.2, fun h => by cases h⟩, (or6.notIn (by omega)).notIn (by omega), Lib.hid (set2 qn6), snot (snot s6' 0 _) 1 _, bset (bset hb6 (Nat.le_refl _)) (Nat.le_refl _)⟩
        case measure => simp [intOf]; omega
      | false =>
        obtain ⟨y1, y2, y3, y4, y5⟩ := HWS.out HST.out.1
        have hcu : cur = cur0 := by rw [← HST.out.2.1, y1, HC0.out]
        subst hcu
        have hvn := HST.out.2.2.2 rfl
        injection hvn with e1 e2 e3
        subst e1 e3
        clear e2
        have hrcl := rcK_len l k
        have hctl := ctL_len x.b
        have hctn := ctN_le x.b
        have hszz := HSZ.out
        rw [HST.out.2.2.1] at hrcl
        obtain ⟨nx, hnx⟩ : ∃ nx, nwK l (k + 1) = nx := ⟨_, rfl⟩
        have hrc : rcK l (k + 1) = rec ++ ctL x.b := by rw [y2, HST.out.2.2.1]
        have HX := Lib.hid (And.intro y4 (And.intro hnx hrc))
        have htr := ht.below (hbw.trans (b5.mono (by omega))) (Nat.le_refl _)
        have HC := Lib.hid (cut_t (hv.below b5 (Nat.le_refl _)) htr (by omega))
        have HD := fun (w' : World) (bb : Below w3.heap.size W w') => Lib.hid ((dcut_c (room := room) (n := x.n) (m := (ctN x.b : Int)) (s30.keep fun b _ hs _ => bb.block b hs.1)).mono fun _ _ h => h.s)
        have hne := orec.lt
        clear HRM HWS htr y1 y2 y3 y4 hrc
        have hrl7 : rec.length ≤ 2097152 := by omega
        have hctl7 : (ctL x.b).length ≤ 2097152 := by omega
        have hzz5 : (wr.alloc (.cells #[.int .i64 x.n, .slice Av x.b.length cv, .int .i64 x.s] 50)).heap.size = wr.heap.size + 1 := by simp
        by_cases htn : ctN x.b < x.b.length
        · have dt : decide ((ctN x.b : Int) < (x.b.length : Int)) = true := decide_eq_true (by omega)
          have dt2 : decide (ctN x.b < x.b.length) = true := decide_eq_true htn
          have hct := HCT.out htn
          rw [HC0.out] at hct y5
          rw [← y5, hnx] at hct
          rw [hct.1, hct.2.1, hct.2.2] at HD
          have htk : tnK l (k + 1) = true := by rw [HX.out.1]; exact decide_eq_true htn
          have HTK := Lib.hid htk
          clear HCT hct y5 hnx htk htn HSM hcn1 hrcl hctl hctn hszz
          go_wp2_with fail
          refine HC.out.mono ?_
          rintro e w6 ⟨A6, c6, rfl, o6, b6⟩
          have hz6 := b6.size
          rw [hzz5] at hz6
          have qn6 := blkb qn5 b6
          have e6 := blkb e5 b6
          have hb6 := hb5.trans (b6.mono (by omega))
          have hsl6 : Sl (slE u8E) (HiN (w3.heap.size + 1) u7.ownBlock) w6 (.slice A6 (ctL x.b).length c6) (ctL x.b) := Own.besideO o6 (by omega) (fun g hg => by have := hne g hg; omega)
          obtain ⟨xsr, hor, hrr⟩ := or5.below b6 (Nat.le_refl _)
          clear xu0 xu1 xu2 fu0 fu1 fu2
          go_wp2_with (at_builtin; refine wpList_append_sl _ rfl (.tmp 43) (.tmp 44) 34 rfl (E := slE u8E) (base := w3.heap.size + 1) Tryd.underlying34 hi0 hy0 hy1 hy2 rfl hor hsl6 rfl rfl (by unfold maxLen; omega) (by omega) (by omega) ?_; intro v7 w7 ys7 ho7 hr7 hg7 hb7; have hz7 := hg7.size; have qn7 := blkg qn6 hg7 (fun g hg => by have := hne g hg; omega); have e7 := blkg e6 hg7 (fun g hg => by have := hne g hg; omega); have hb7w : Below w3.heap.size W w7 := hb6.trans (bgrown hg7 (by omega) (fun g hg => by have := hne g hg; omega)); have xv0 : w7.cell? ⟨w3.heap.size, 0, none⟩ = some (.int .i64 room) := cell_of_row _ _ 0 _ _ _ qn7; have fv0 : w7.frozen? ⟨w3.heap.size, 0, none⟩ = false := frozen_of_row _ _ 0 _ _ qn7; have xv1 : w7.cell? ⟨w3.heap.size, 1, none⟩ = some (.slice An cur.length cn) := cell_of_row _ _ 1 _ _ _ qn7; have fv1 : w7.frozen? ⟨w3.heap.size, 1, none⟩ = false := frozen_of_row _ _ 1 _ _ qn7; have xu0 : w7.cell? ⟨wr.heap.size, 0, none⟩ = some (.int .i64 x.n) := cell_of_row _ _ 0 _ _ _ e7; have fu0 : w7.frozen? ⟨wr.heap.size, 0, none⟩ = false := frozen_of_row _ _ 0 _ _ e7; have xu1 : w7.cell? ⟨wr.heap.size, 1, none⟩ = some (.slice Av x.b.length cv) := cell_of_row _ _ 1 _ _ _ e7; have fu1 : w7.frozen? ⟨wr.heap.size, 1, none⟩ = false := frozen_of_row _ _ 1 _ _ e7; have xu2 : w7.cell? ⟨wr.heap.size, 2, none⟩ = some (.int .i64 x.s) := cell_of_row _ _ 2 _ _ _ e7; have fu2 : w7.frozen? ⟨wr.heap.size, 2, none⟩ = false := frozen_of_row _ _ 2 _ _ e7)
          have o7 : Own (slE u8E) (HiN (w3.heap.size + 1) v7.ownBlock) w7 (w3.heap.size + 1) 25 v7 (rec ++ ctL x.b) := Own.appended hrr hr7 ho7 hg7 hb7
          clear hor hrr ho7 hr7 hb7 hg7
          refine (HD _ hb7w).out.mono ?_
          rintro e w8 ⟨A8, c8, rfl, s8, b8⟩
          have hz8 := b8.size
          have qn8 := blkb qn7 b8
          clear xv0 xv1 fv0 fv1
          have xv0 : w8.cell? ⟨w3.heap.size, 0, none⟩ = some (.int .i64 room) := cell_of_row _ _ 0 _ _ _ qn8; have fv0 : w8.frozen? ⟨w3.heap.size, 0, none⟩ = false := frozen_of_row _ _ 0 _ _ qn8; have xv1 : w8.cell? ⟨w3.heap.size, 1, none⟩ = some (.slice An cur.length cn) := cell_of_row _ _ 1 _ _ _ qn8; have fv1 : w8.frozen? ⟨w3.heap.size, 1, none⟩ = false := frozen_of_row _ _ 1 _ _ qn8
          have o8 := o7.below b8 (Nat.le_refl _)
          have hb8 := hb7w.trans (b8.mono (by omega))
          have s8' : Sl fiE (HiN (w.heap.size + 2) (some w3.heap.size)) w8 (.slice A8 nx.length c8) nx := s8.mono (fun b fr h _ => ⟨by have := h.1; omega, h.2, fun e => by have := h.1; injection e with e; omega⟩)
          go_wp2
          go_roundw
          case rel => exact ⟨k + 1, _, nx, rec ++ ctL x.b, true, by omega, by go_num, rfl, Lib.hid ⟨HTK.out, HX.out.2.1, HX.out.2.2, fun h => by cases h⟩, (o8.notIn (by omega)).notIn (by omega), Lib.hid (set2 qn8), snot (snot s8' 0 _) 1 _, bset (bset hb8 (Nat.le_refl _)) (Nat.le_refl _)⟩
          case measure => simp [intOf]; omega
        · have dt : decide ((ctN x.b : Int) < (x.b.length : Int)) = false := decide_eq_false (by omega)
          have dt2 : decide (ctN x.b < x.b.length) = false := decide_eq_false htn
          have hsm := HSM.out htn
          rw [← y5, hnx, HC0.out] at hsm
          have htk : tnK l (k + 1) = false := by rw [HX.out.1]; exact decide_eq_false htn
          have HTK := Lib.hid (And.intro htk hsm)
          clear HCT hsm y5 hnx htk htn HSM hcn1 hrcl hctl hctn hszz HD
          go_wp2_with fail
          refine HC.out.mono ?_
          rintro e w6 ⟨A6, c6, rfl, o6, b6⟩
          have hz6 := b6.size
          rw [hzz5] at hz6
          have qn6 := blkb qn5 b6
          have e6 := blkb e5 b6
          have hb6 := hb5.trans (b6.mono (by omega))
          have hsl6 : Sl (slE u8E) (HiN (w3.heap.size + 1) u7.ownBlock) w6 (.slice A6 (ctL x.b).length c6) (ctL x.b) := Own.besideO o6 (by omega) (fun g hg => by have := hne g hg; omega)
          obtain ⟨xsr, hor, hrr⟩ := or5.below b6 (Nat.le_refl _)
          clear xu0 xu1 xu2 fu0 fu1 fu2
          go_wp2_with (at_builtin; refine wpList_append_sl _ rfl (.tmp 43) (.tmp 44) 34 rfl (E := slE u8E) (base := w3.heap.size + 1) Tryd.underlying34 hi0 hy0 hy1 hy2 rfl hor hsl6 rfl rfl (by unfold maxLen; omega) (by omega) (by omega) ?_; intro v7 w7 ys7 ho7 hr7 hg7 hb7; have hz7 := hg7.size; have qn7 := blkg qn6 hg7 (fun g hg => by have := hne g hg; omega); have e7 := blkg e6 hg7 (fun g hg => by have := hne g hg; omega); have hb7w : Below w3.heap.size W w7 := hb6.trans (bgrown hg7 (by omega) (fun g hg => by have := hne g hg; omega)); have xv0 : w7.cell? ⟨w3.heap.size, 0, none⟩ = some (.int .i64 room) := cell_of_row _ _ 0 _ _ _ qn7; have fv0 : w7.frozen? ⟨w3.heap.size, 0, none⟩ = false := frozen_of_row _ _ 0 _ _ qn7; have xv1 : w7.cell? ⟨w3.heap.size, 1, none⟩ = some (.slice An cur.length cn) := cell_of_row _ _ 1 _ _ _ qn7; have fv1 : w7.frozen? ⟨w3.heap.size, 1, none⟩ = false := frozen_of_row _ _ 1 _ _ qn7; have xu0 : w7.cell? ⟨wr.heap.size, 0, none⟩ = some (.int .i64 x.n) := cell_of_row _ _ 0 _ _ _ e7; have fu0 : w7.frozen? ⟨wr.heap.size, 0, none⟩ = false := frozen_of_row _ _ 0 _ _ e7; have xu1 : w7.cell? ⟨wr.heap.size, 1, none⟩ = some (.slice Av x.b.length cv) := cell_of_row _ _ 1 _ _ _ e7; have fu1 : w7.frozen? ⟨wr.heap.size, 1, none⟩ = false := frozen_of_row _ _ 1 _ _ e7; have xu2 : w7.cell? ⟨wr.heap.size, 2, none⟩ = some (.int .i64 x.s) := cell_of_row _ _ 2 _ _ _ e7; have fu2 : w7.frozen? ⟨wr.heap.size, 2, none⟩ = false := frozen_of_row _ _ 2 _ _ e7)
          have o7 : Own (slE u8E) (HiN (w3.heap.size + 1) v7.ownBlock) w7 (w3.heap.size + 1) 25 v7 (rec ++ ctL x.b) := Own.appended hrr hr7 ho7 hg7 hb7
          have s7 := (s30.keep fun b _ hs _ => hb7w.block b hs.1).mono (S' := HiN (w.heap.size + 2) (some w3.heap.size)) (fun b fr h _ => ⟨h.2.1, h.2.2, fun e => by injection e with e; have := h.1; omega⟩)
          go_roundw
          case rel => exact ⟨k + 1, _, cur, rec ++ ctL x.b, false, by omega, by go_num, rfl, Lib.hid ⟨HTK.out.1, HX.out.2.1.trans HTK.out.2, HX.out.2.2, fun _ => rfl⟩, o7, Lib.hid qn7, s7, hb7w⟩
          case measure => simp [intOf]; omega
    · have hkI : ¬ (k : Int) < (l.length : Int) := by omega
      have hkl : k = l.length := by omega
      subst hkl
      have hnw := HST.out.2.1
      have hrc := HST.out.2.2.1
      rw [nwK_all] at hnw
      rw [rcK_all] at hrc
      rw [hnw, hrc] at HR
      have z5 := (hbr.block (w.heap.size + 1) (by omega)).trans HQ.out.2
      clear hnw hrc hcn1
      have xv0 : wr.cell? ⟨w3.heap.size, 0, none⟩ = some (.int .i64 room) := cell_of_row _ _ 0 _ _ _ hqn; have fv0 : wr.frozen? ⟨w3.heap.size, 0, none⟩ = false := frozen_of_row _ _ 0 _ _ hqn; have xv1 : wr.cell? ⟨w3.heap.size, 1, none⟩ = some (.slice An cur.length cn) := cell_of_row _ _ 1 _ _ _ hqn; have fv1 : wr.frozen? ⟨w3.heap.size, 1, none⟩ = false := frozen_of_row _ _ 1 _ _ hqn
      have xz0 : wr.cell? ⟨w.heap.size + 1, 0, none⟩ = some (.int .i64 0) := cell_of_row _ _ 0 _ _ _ z5; have fz0 : wr.frozen? ⟨w.heap.size + 1, 0, none⟩ = false := frozen_of_row _ _ 0 _ _ z5; have xz1 : wr.cell? ⟨w.heap.size + 1, 1, none⟩ = some (.slice none 0 0) := cell_of_row _ _ 1 _ _ _ z5; have fz1 : wr.frozen? ⟨w.heap.size + 1, 1, none⟩ = false := frozen_of_row _ _ 1 _ _ z5
      have sv' : Sl fiE (Hi (w.heap.size + 2)) wr (.slice An cur.length cn) cur := sv.mono (fun b fr h _ => ⟨h.1, h.2.1⟩)
      go_wp2_with fail
      go_region
      all_goals
        go_wp2
        refine bodyPost_ret (results_tmp_cell_tmp rfl _ _ (w.heap.size + 1) 24 #[.int .i64 room, .slice An cur.length cn] (0, 0) _ rfl (set2 z5) Tryd.underlying24 rfl (by kernel_rfl)) rfl ?_
        refine ⟨_, _, by rw [HR.out.1, HR.out.2.2.2]; rfl, ?_, ?_, by (repeat (first | with_reducible exact Below.refl _ _ | with_reducible assumption | with_reducible refine bdraw ?_ | with_reducible refine bdrewN ?_ _ | with_reducible refine balloc ?_ _ | with_reducible refine bset ?_ (by simp <;> omega) | with_reducible refine bstep ?_ (by assumption) | with_reducible refine btrans ?_ (by assumption)))⟩
        · rw [HR.out.2.1]
          have o9 := (orec.notIn (g := w.heap.size + 1) (o := 0) (u := .int .i64 room) (by omega)).notIn (g := w.heap.size + 1) (o := 1) (u := .slice An cur.length cn) (by omega)
          exact (odraw o9).slHi.mono (fun b fr h _ => ⟨by have := h.1; omega, h.2⟩)
        · rw [HR.out.2.2.1]
          exact (sdraw (sfar (sfar sv' (p := ⟨w.heap.size + 1, 0, none⟩) (u := .int .i64 room) (by simp)) (p := ⟨w.heap.size + 1, 1, none⟩) (u := .slice An cur.length cn) (by simp))).mono (fun b fr h _ => ⟨by have := h.1; omega, h.2⟩)
end Go.Proofs.YtbahiohlhhdkcaaDoor

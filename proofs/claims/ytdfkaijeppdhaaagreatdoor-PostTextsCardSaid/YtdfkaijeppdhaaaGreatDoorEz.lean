/- Texts of this claim, laid together: Ey, Ez. -/
import Derived.Test.YtdfkaijeppdhaaaGreatDoorEw
import Derived.Laws.StructEq

/- Contracts: slices.Equal and slices.Clone at entries. -/
namespace Go.Proofs.YtdfkaijeppdhaaaGreatDoor
open Go.RowKit Go.Shelf Go.Proofs

def eqE (x y : Ent) : Bool := x.1 == y.1 && (x.2.1 == y.2.1 && (x.2.2.1 == y.2.2.1 && x.2.2.2.toList == y.2.2.2.toList))
theorem eqE_iff (x y : Ent) : eqE x y = true ↔ x = y := by
  obtain ⟨a, b, c, d⟩ := x
  obtain ⟨a', b', c', d'⟩ := y
  unfold eqE
  simp only [Bool.and_eq_true, beq_iff_eq, Prod.mk.injEq]
  refine and_congr_right fun _ => and_congr_right fun _ => and_congr_right fun _ => ⟨fun h => ?_, fun h => by rw [h]⟩
  rw [ba_list, ba_list] at h
  exact ba_ext h
set_option maxHeartbeats 1000000 in
theorem neqE : NeqAt Tryz.prog 43 (fun x : Ent => .agg (entC x).toArray) eqE := by
  refine ⟨fun x y w => ?_, GuardAt.agg _ (by kernel_rfl)⟩
  have u3 := Tryz.underlying3
  have a3 := Tryz.isAgg3
  have z3 := Tryz.sizeOf3
  have u9 := Tryz.underlying9
  have a9 := Tryz.isAgg9
  have z9 := Tryz.sizeOf9
  have hS : Tryz.prog.underlying 43 = some (.struct (Tryz.prog.fieldsOf 43)) := by kernel_rfl
  have hp : Tryz.prog.stoodInHeld 43 = false := by kernel_rfl
  obtain ⟨a, b, c, d⟩ := x
  obtain ⟨a', b', c', d'⟩ := y
  simp only [entC, ePost, eNum, eCnt, eLine, eqE]
  rw [run_neq_struct, show (10000 : Nat) = 9999 + 1 from rfl, run_equalIn_agg w 9999 43 _ _ hS hp]
  simp only [Program.fieldsOf, Tryz.underlying43]
  go_simp
  by_cases h1 : a = a' <;> by_cases h2 : b = b' <;> by_cases h3 : c = c' <;> by_cases h4 : d.toList = d'.toList <;> simp [h1, h2, h3, h4]
theorem allEq_iff : ∀ (xs ys : List Ent), xs.length = ys.length → (Lib.allEq eqE xs ys = true ↔ xs = ys)
  | [], [], _ => by simp [Lib.allEq]
  | x :: xs, y :: ys, h => by
    have ih := allEq_iff xs ys (by simpa using h)
    unfold Lib.allEq
    rw [Bool.and_eq_true, eqE_iff, ih, List.cons.injEq]
set_option maxHeartbeats 1000000 in
/-- slices.Equal of as many entries. -/
theorem equal_any (xs ys : List Ent) (n c1 c2 : Nat) (a1 a2 : Option Addr) (hn : xs.length = n) (hn2 : ys.length = n) (hbig : n ≤ 1000) (w : World) (h1 : EntsAt w (.slice a1 n c1) xs) (h2 : EntsAt w (.slice a2 n c2) ys) :
    Calls Tryz.prog 96 #[.slice a1 n c1, .slice a2 n c2] w fun e w' => e = .returned (.bool (decide (xs = ys))) ∧ Below w.heap.size w w' := by
  by_cases h0 : 0 < n
  · obtain ⟨b1, o1, k1, e1, hc1⟩ := h1.cells (by omega)
    obtain ⟨b2, o2, k2, e2, hc2⟩ := h2.cells (by omega)
    simp only [Value.slice.injEq] at e1 e2
    obtain ⟨rfl, _, rfl⟩ := e1
    obtain ⟨rfl, _, rfl⟩ := e2
    have key : ∀ (l : List Ent) (b o : Nat), (∀ j, j < l.length → w.cell? ⟨b, o + j * 4, none⟩ = some (.int .i64 (ePost (l.getD j (0, 0, 0, ⟨#[]⟩)))) ∧ w.cell? ⟨b, o + j * 4 + 1, none⟩ = some (.int .i64 (eNum (l.getD j (0, 0, 0, ⟨#[]⟩)))) ∧
      w.cell? ⟨b, o + j * 4 + 2, none⟩ = some (.int .i64 (eCnt (l.getD j (0, 0, 0, ⟨#[]⟩)))) ∧ w.cell? ⟨b, o + j * 4 + 3, none⟩ = some (.string (eLine (l.getD j (0, 0, 0, ⟨#[]⟩))))) →
      ∀ j, j < l.length → ∀ i v, (entC l[j]!)[i]? = some v → w.cell? ⟨b, o + j * 4 + i, none⟩ = some v := by
      intro l b o h j hj i v hv
      obtain ⟨q0, q1, q2, q3⟩ := h j hj
      have he : l.getD j (0, 0, 0, ⟨#[]⟩) = l[j]! := by
        rw [List.getD_eq_getElem?_getD, List.getElem?_eq_getElem hj, getElem!_pos l j hj]; rfl
      rw [he] at q0 q1 q2 q3
      have hi : i < 4 := (List.getElem?_eq_some_iff.1 hv).1
      rcases (show i = 0 ∨ i = 1 ∨ i = 2 ∨ i = 3 by omega) with rfl | rfl | rfl | rfl <;> simp only [entC, List.getElem?_cons_zero, List.getElem?_cons_succ, Option.some.injEq] at hv <;> subst hv <;> assumption
    refine (AnyQ.slices_Equal Tryz.equalE 4 Tryz.isAgg43 Tryz.sizeOf43 entC (fun _ => rfl) eqE neqE b1 o1 n c1 b2 o2 n c2 xs ys w (by omega) (by omega) (by omega) (by omega) (key xs b1 o1 hc1) (key ys b2 o2 hc2)).mono ?_
    rintro e w' ⟨rfl, q, rfl⟩
    refine ⟨?_, belowD (Below.refl _ _) _⟩
    rw [List.take_of_length_le (by omega), List.take_of_length_le (by omega)]
    congr 2
    rw [Bool.eq_iff_iff, allEq_iff xs ys (by omega), decide_eq_true_eq]
  · have hz : n = 0 := by omega
    have e1 : xs = [] := List.length_eq_zero_iff.1 (by omega)
    have e2 : ys = [] := List.length_eq_zero_iff.1 (by omega)
    subst e1 e2 hz
    clear h1 h2 hn hn2
    go_enter Tryz.func96, Tryz.ntmps96
    go_wp2
    go_loopw [13] (fun i wr => i = .int .i64 0 ∧ w = wr) (fun _ _ => 0)
    case atStart => exact ⟨rfl, rfl⟩
    case round =>
      obtain ⟨rfl, rfl⟩ := hrel
      go_wp2
      go_ret
      exact ⟨rfl, Below.refl _ _⟩
/-- slices.Clone of a list of a book. -/
def ClonePost (l : List Ent) (w : World) (e : Ending) (w' : World) : Prop := ∃ v, e = .returned v ∧ w'.ownsRow w.heap.size 43 4 v l.length (rowE l) ∧ Below w.heap.size w w'
theorem clone_any (v : Value) (l : List Ent) (w : World) (h : ListAt w v l) (hl : l.length ≤ 1000) : Calls Tryz.prog 97 #[v] w (ClonePost l w) := by
  obtain ⟨i0, hi0, hz0, hz1, hz2⟩ := info_parts Tryz.infoEnt
  rcases h.forms with ⟨rfl, rfl⟩ | ⟨g, cap, rfl, hc⟩
  · refine (AnyE.slices_Clone_nil Tryz.cloneE 0 0 w).mono ?_
    rintro e w' ⟨rfl, rfl⟩
    exact ⟨_, rfl, World.ownsRow_nil _ _ _ _, Below.refl _ _⟩
  · refine (AnyE.slices_Clone Tryz.cloneE i0 _ 4 40 hi0 hz0 hz1 hz2 rfl (by decide) Tryz.sizeOf43 g 0 l.length cap (rowE l) w h.1 (by unfold maxLen; omega) (by omega) (fun j u hj => ?_) (rowE_one l)).mono ?_
    · have hjl := (List.getElem?_eq_some_iff.1 hj).1
      rw [rowE_len] at hjl
      rw [h.cellAt (0 + j) (by omega), Nat.zero_add, hj]
    · rintro e w' ⟨v', rfl, ho, _, hb⟩
      exact ⟨v', rfl, ho, hb⟩
end Go.Proofs.YtdfkaijeppdhaaaGreatDoor

/- Contracts: joined. -/
namespace Go.Proofs.YtdfkaijeppdhaaaGreatDoor
open Go.RowKit Go.Shelf

theorem fit_long {l m : List Ent} (h : m.length < l.length) : fitL l m = decide (m = l.take m.length) := by
  unfold fitL
  rw [Bool.eq_iff_iff, Bool.or_eq_true, decide_eq_true_eq, decide_eq_true_eq, decide_eq_true_eq]
  constructor
  · rintro (h1 | h1)
    · have := h1.length_le; omega
    · exact List.prefix_iff_eq_take.1 h1
  · intro h1; exact .inr (List.prefix_iff_eq_take.2 h1)
theorem fit_short {l m : List Ent} (h : ¬ m.length < l.length) : fitL l m = decide (l = m.take l.length) := by
  unfold fitL
  rw [Bool.eq_iff_iff, Bool.or_eq_true, decide_eq_true_eq, decide_eq_true_eq, decide_eq_true_eq]
  constructor
  · rintro (h1 | h1)
    · exact List.prefix_iff_eq_take.1 h1
    · have h2 := h1.length_le
      have h3 := h1.eq_of_length (by omega)
      rw [h3, List.take_length]
  · intro h1; exact .inl (List.prefix_iff_eq_take.2 h1)
theorem ListAt.ents_take {w : World} {a : Option Addr} {n cap k : Nat} {l : List Ent} (h : ListAt w (.slice a n cap) l) (hn : l.length = n) (hk : k ≤ n) (hbig : n ≤ 1000) : EntsAt w (.slice a k cap) (l.take k) := by
  have hlen : (l.take k).length = k := by rw [List.length_take]; omega
  refine ⟨a, cap, by rw [hlen], by omega, fun h0 => ?_⟩
  rw [hlen] at h0
  rcases h.2 with ⟨h1, h2⟩ | ⟨g, cap', cur, h1, hrest⟩
  · omega
  · simp only [Value.slice.injEq] at h1
    obtain ⟨rfl, _, rfl⟩ := h1
    refine ⟨g, 0, rfl, fun j c x hc hx => ?_⟩
    have hjl := (List.getElem?_eq_some_iff.1 hx).1
    rw [rowE_len, hlen] at hjl
    have hsp : rowE l = rowE (l.take k) ++ rowE (l.drop k) := by rw [← rowE_append, List.take_append_drop]
    have h9 : w.ownsRow 0 43 4 (.slice (some ⟨g, 0, none⟩) n cap) n (rowE l) := by unfold ListAt at h; rw [hn] at h; exact h
    have hr := h9.cellAt (j * 4 + c) (by omega)
    rw [Nat.zero_add, hr, hsp, List.getElem?_append_left (by rw [rowE_len, hlen]; exact hjl), hx]
theorem ListAt.cap_le {w : World} {a : Option Addr} {n cap : Nat} {l : List Ent} (h : ListAt w (.slice a n cap) l) (hn : l.length = n) : n ≤ cap := by
  rcases h.forms with ⟨h9, rfl⟩ | ⟨g, c, h9, h8⟩
  · simp only [Value.slice.injEq] at h9
    simp at hn; omega
  · simp only [Value.slice.injEq] at h9
    omega
/-- Four slices of a new book. -/
structure NewBook (w : World) (lo : Nat) (us : Nat → Value) (c : Book) : Prop where
  list : ∀ i, i < 4 → ListAt w (us i) (c i)
  low : ∀ i, i < 4 → ∀ g, (us i).ownBlock = some g → lo ≤ g
  apart : ∀ i j, i < 4 → j < 4 → i ≠ j → ∀ g, (us i).ownBlock = some g → (us j).ownBlock ≠ some g
theorem NewBook.below {w w' : World} {lo : Nat} {us : Nat → Value} {c : Book} (h : NewBook w lo us c) (hb : Below w.heap.size w w') : NewBook w' lo us c :=
  ⟨fun i hi => (h.list i hi).keep fun k hk => hb.block k ((h.list i hi).lt hk), h.low, h.apart⟩
def aggV (us : Nat → Value) : Value := .agg #[us 0, us 1, us 2, us 3]
def JoinPost (b1 b2 : Book) (w : World) (e : Ending) (w' : World) : Prop :=
  (match joinB b1 b2 with
    | some c => ∃ us, e = .returned (.tuple #[aggV us, .bool true]) ∧ NewBook w' w.heap.size us c
    | none => e = .returned (.tuple #[aggV (fun _ => .slice none 0 0), .bool false])) ∧ Below w.heap.size w w'
theorem joinB_of {b1 b2 : Book} (h : ∀ i, i < 4 → fitL (b1 i) (b2 i) = true) : joinB b1 b2 = some (joinL b1 b2) := by
  unfold joinB
  rw [h 0 (by omega), h 1 (by omega), h 2 (by omega), h 3 (by omega)]
  rfl
theorem joinB_no {b1 b2 : Book} {k : Nat} (hk : k < 4) (h : fitL (b1 k) (b2 k) = false) : joinB b1 b2 = none := by
  unfold joinB
  rw [if_neg]
  simp only [Bool.and_eq_true]
  rintro ⟨⟨⟨h0, h1⟩, h2⟩, h3⟩
  rcases (show k = 0 ∨ k = 1 ∨ k = 2 ∨ k = 3 by omega) with rfl | rfl | rfl | rfl <;> simp_all
/-- The new lists so far. -/
structure Outs (b1 b2 : Book) (B R : Nat) (k : Nat) (us : Nat → Value) (w wr : World) : Prop where
  cells : wr.heap[B]? = some (.cells #[us 0, us 1, us 2, us 3] 96 (0, 0))
  res : wr.heap[R]? = some (.cells #[.slice none 0 0, .slice none 0 0, .slice none 0 0, .slice none 0 0] 96 (0, 0))
  done : ∀ i, i < k → wr.ownsRow (B + 1) 43 4 (us i) (longL (b1 i) (b2 i)).length (rowE (longL (b1 i) (b2 i)))
  todo : ∀ i, k ≤ i → us i = .slice none 0 0
  apart : ∀ i j, i < 4 → j < 4 → i ≠ j → ∀ g, (us i).ownBlock = some g → (us j).ownBlock ≠ some g
  below : Below w.heap.size w wr
  fits : ∀ i, i < k → fitL (b1 i) (b2 i) = true
theorem Outs.below' {b1 b2 : Book} {B R k : Nat} {us : Nat → Value} {w wr w' : World} (h : Outs b1 b2 B R k us w wr) (hb : Below wr.heap.size wr w') : Outs b1 b2 B R k us w w' :=
  ⟨(hb.block B (Array.getElem?_eq_some_iff.1 h.cells).1).trans h.cells, (hb.block R (Array.getElem?_eq_some_iff.1 h.res).1).trans h.res, fun i hi => own_below (h.done i hi) hb, h.todo, h.apart, h.below.trans (hb.mono h.below.size), h.fits⟩
theorem Outs.next {b1 b2 : Book} {B R k : Nat} {us : Nat → Value} {w wr w' : World} {v : Value} (h : Outs b1 b2 B R k us w wr) (hk : k < 4) (hB : w.heap.size ≤ B) (hRB : R ≠ B) (hsz : B + 1 ≤ wr.heap.size) (_hR : R ≤ B) (hf : fitL (b1 k) (b2 k) = true)
    (hv : w'.ownsRow wr.heap.size 43 4 v (longL (b1 k) (b2 k)).length (rowE (longL (b1 k) (b2 k)))) (hb : Below wr.heap.size wr w') : Outs b1 b2 B R (k + 1) (setVs us k v) w (w'.setCell ⟨B, k, none⟩ v) := by
  have h' := h.below' hb
  have hset : ∀ j, j ≠ B → (w'.setCell ⟨B, k, none⟩ v).heap[j]? = w'.heap[j]? := fun j hj => Below.heap_setCell _ _ _ j hj
  refine ⟨?_, (hset R hRB).trans h'.res, fun i hi => ?_, fun i hi => ?_, fun i j hi hj hij g hg hg2 => ?_, h'.below.setCell (p := ⟨B, k, none⟩) hB v, fun i hi => ?_⟩
  · rw [setCell_four h'.cells]
    unfold setVs
    rcases (show k = 0 ∨ k = 1 ∨ k = 2 ∨ k = 3 by omega) with rfl | rfl | rfl | rfl <;> simp
  · by_cases e : i = k
    · subst e
      rw [setVs_same]
      exact own_other (own_base hv hsz) fun j hj => hset j (by omega)
    · rw [setVs_other _ _ e]
      exact own_other (h'.done i (by omega)) fun j hj => hset j (by omega)
  · rw [setVs_other _ _ (by omega)]
    exact h.todo i (by omega)
  · have hlow : ∀ x, x ≠ k → ∀ g, (us x).ownBlock = some g → g < wr.heap.size := fun x hx g hg => by
      by_cases hxk : x < k
      · exact ((h.done x hxk).lt g hg).2
      · rw [h.todo x (by omega)] at hg; simp [Value.ownBlock] at hg
    by_cases ei : i = k
    · subst ei
      rw [setVs_same] at hg
      rw [setVs_other _ _ (Ne.symm hij)] at hg2
      have h1 := (hv.lt g hg).1
      have h2 := hlow j (Ne.symm hij) g hg2
      omega
    · rw [setVs_other _ _ ei] at hg
      by_cases ej : j = k
      · subst ej
        rw [setVs_same] at hg2
        have h1 := (hv.lt g hg2).1
        have h2 := hlow i ei g hg
        omega
      · rw [setVs_other _ _ ej] at hg2
        exact h.apart i j hi hj hij g hg hg2
  · by_cases e : i = k
    · subst e; exact hf
    · exact h.fits i (by omega)
set_option maxRecDepth 100000 in
set_option maxHeartbeats 8000000 in
theorem joined_any (K1 K2 : Nat) (vs1 vs2 : Nat → Value) (b1 b2 : Book) (w : World) (h1 : BookIs w K1 vs1 b1) (h2 : BookIs w K2 vs2 b2) (hl1 : ∀ i, i < 4 → (b1 i).length ≤ 60) (hl2 : ∀ i, i < 4 → (b2 i).length ≤ 60) :
    Calls Tryz.prog 65 #[.pointer (some ⟨K1, 0, none⟩), .pointer (some ⟨K2, 0, none⟩)] w (JoinPost b1 b2 w) := by
  obtain ⟨w2, hw2⟩ : ∃ w2, w2 = (w.alloc (.cells #[.slice none 0 0, .slice none 0 0, .slice none 0 0, .slice none 0 0] 96)).alloc (.cells #[.slice none 0 0, .slice none 0 0, .slice none 0 0, .slice none 0 0] 96) := ⟨_, rfl⟩
  have HO2 : Hid (Outs b1 b2 (w.heap.size + 1) w.heap.size 0 (fun _ => .slice none 0 0) w w2) := Lib.hid (by
    have hb : Below w.heap.size w w2 := by rw [hw2]; exact ((Below.refl _ w).alloc (Nat.le_refl _) _).alloc (by simp) _
    refine ⟨?_, ?_, fun i hi => by omega, fun i hi => rfl, fun i j hi hj hij g hg => by simp [Value.ownBlock] at hg, hb, fun i hi => by omega⟩
    · have := World.alloc_heap_new (w.alloc (.cells #[.slice none 0 0, .slice none 0 0, .slice none 0 0, .slice none 0 0] 96)) (.cells #[.slice none 0 0, .slice none 0 0, .slice none 0 0, .slice none 0 0] 96)
      rw [World.size_alloc] at this
      rw [hw2]; exact this
    · rw [hw2]; exact (Below.heap_alloc _ _ _ (by simp)).trans (World.alloc_heap_new w _))
  have hz : w.heap.size + 2 ≤ w2.heap.size := by rw [hw2]; simp
  have HW2 := Lib.hid hw2
  have H1 := Lib.hid h1
  have H2 := Lib.hid h2
  have HL1 := Lib.hid hl1
  have HL2 := Lib.hid hl2
  clear hw2 h1 h2 hl1 hl2
  go_enter Tryz.func65, Tryz.ntmps65
  go_wp2_with fail
  rw [← HW2.out]
  go_loopw [13] (fun i wr => ∃ (k : Nat) (us : Nat → Value), k ≤ 4 ∧ i = .int .i64 k ∧ Hid (Outs b1 b2 (w.heap.size + 1) w.heap.size k us w wr) ∧ w.heap.size + 2 ≤ wr.heap.size) (fun i _ => 4 - (intOf i).toNat)
  case atStart => exact ⟨0, _, Nat.zero_le _, rfl, HO2, hz⟩
  case round =>
    obtain ⟨k, us, hk, rfl, ho, hwz⟩ := hrel
    by_cases hlt : k < 4
    · have hlt2 : (k : Int) < 4 := by omega
      have hge : (0 : Int) ≤ (k : Int) := by omega
      have K1r := Lib.hid (H1.out.below ho.out.below)
      have K2r := Lib.hid (H2.out.below ho.out.below)
      obtain ⟨a1, c1, e1⟩ := K1r.out.slice hlt
      obtain ⟨a2, c2, e2⟩ := K2r.out.slice hlt
      have q1 := K1r.out.cell hlt
      have q2 := K2r.out.cell hlt
      rw [e1] at q1
      rw [e2] at q2
      have HA1 : Hid (ListAt wr (.slice a1 (b1 k).length c1) (b1 k)) := Lib.hid (by rw [← e1]; exact K1r.out.list k hlt)
      have HA2 : Hid (ListAt wr (.slice a2 (b2 k).length c2) (b2 k)) := Lib.hid (by rw [← e2]; exact K2r.out.list k hlt)
      have B1 := HL1.out k hlt
      have B2 := HL2.out k hlt
      clear e1 e2
      have HFL := Lib.hid (fun (h : (b2 k).length < (b1 k).length) => fit_long (l := b1 k) (m := b2 k) h)
      have HFS := Lib.hid (fun (h : ¬ (b2 k).length < (b1 k).length) => fit_short (l := b1 k) (m := b2 k) h)
      have HJN := Lib.hid (fun (h : fitL (b1 k) (b2 k) = false) => joinB_no (b1 := b1) (b2 := b2) hlt h)
      have HNXT := Lib.hid (fun (w' : World) (v : Value) (hf : fitL (b1 k) (b2 k) = true) (hv : w'.ownsRow wr.heap.size 43 4 v (longL (b1 k) (b2 k)).length (rowE (longL (b1 k) (b2 k)))) (hb : Below wr.heap.size wr w') => ho.out.next hlt (by omega) (by omega) (by omega) (by omega) hf hv hb)
      have HLG : Hid (longL (b1 k) (b2 k) = if (b2 k).length < (b1 k).length then b1 k else b2 k) := Lib.hid rfl
      generalize b1 k = l1 at *
      generalize b2 k = l2 at *
      obtain ⟨n1, hn1⟩ : ∃ n, n = l1.length := ⟨_, rfl⟩
      obtain ⟨n2, hn2⟩ : ∃ n, n = l2.length := ⟨_, rfl⟩
      have N1 := Lib.hid hn1
      have N2 := Lib.hid hn2
      rw [← hn1] at q1 B1 HA1
      rw [← hn2] at q2 B2 HA2
      clear hn1 hn2
      by_cases hsw : n2 < n1
      · have HCL : Hid (n1 ≤ c1) := Lib.hid (HA1.out.cap_le N1.out.symm)
        have HEQ := Lib.hid (fun W (hW : Below wr.heap.size wr W) => equal_any l2 (l1.take n2) n2 c2 c1 a2 a1 N2.out.symm (by rw [List.length_take, ← N1.out]; omega) (by omega) W (((HA2.out.ents_take N2.out.symm (Nat.le_refl _) (by omega)).below hW) |> (fun h => by rw [N2.out, List.take_length] at h; rw [N2.out]; exact h)) ((HA1.out.ents_take N1.out.symm (by omega) (by omega)).below hW))
        have HFE : Hid (fitL l1 l2 = decide (l2 = l1.take n2)) := Lib.hid (by rw [N2.out]; exact HFL.out (by rw [← N1.out, ← N2.out]; exact hsw))
        have HLX : Hid (longL l1 l2 = l1) := Lib.hid (by rw [HLG.out, if_pos (by rw [← N1.out, ← N2.out]; exact hsw)])
        have hcap : n1 ≤ c1 := HCL.out
        have i1 : (0 : Int) ≤ (n2 : Int) := by omega
        have i2 : (n2 : Int) ≤ (c1 : Int) := by omega
        obtain ⟨q, hq⟩ : ∃ q, q = fitL l1 l2 := ⟨_, rfl⟩
        rw [← HFE.out, ← hq] at HEQ
        have HQQ := Lib.hid hq
        clear hq
        cases q with
        | false =>
          go_wp2
          go_quiet (fail)
          go_wp2
          go_quiet (fail)
          go_wp2_with fail
          refine (HEQ.out _ (belowD (Below.refl _ _) _)).mono ?_
          rintro e w3 ⟨rfl, hb3⟩
          have HB3 := Lib.hid ((belowD (Below.refl wr.heap.size wr) _).trans hb3)
          have HO3 := Lib.hid (ho.out.below' HB3.out)
          have r0 := heap_cell (j := 0) HO3.out.res rfl
          have r1 := heap_cell (j := 1) HO3.out.res rfl
          have r2 := heap_cell (j := 2) HO3.out.res rfl
          have r3 := heap_cell (j := 3) HO3.out.res rfl
          have g0 : ∀ j, w3.frozen? ⟨w.heap.size, j, none⟩ = false := fun j => by have h9 := HO3.out.res; simp [World.frozen?, h9]
          have HNO := Lib.hid (HJN.out HQQ.out.symm)
          clear hb3
          go_wp2
          refine bodyPost_ret (v := .tuple #[aggV (fun _ => .slice none 0 0), .bool false]) (by simp [results, Tryz.results65, go_sem, aggV, r0, r1, r2, r3]) rfl ⟨?_, ?_⟩
          · rw [HNO.out]
          · exact (((HO3.out.below.setCell (p := ⟨w.heap.size, 0, none⟩) (Nat.le_refl _) _).setCell (p := ⟨w.heap.size, 1, none⟩) (Nat.le_refl _) _).setCell (p := ⟨w.heap.size, 2, none⟩) (Nat.le_refl _) _).setCell (p := ⟨w.heap.size, 3, none⟩) (Nat.le_refl _) _
        | true =>
          go_wp2
          go_quiet (fail)
          go_wp2
          go_quiet (fail)
          go_wp2_with fail
          refine (HEQ.out _ (belowD (Below.refl _ _) _)).mono ?_
          rintro e w3 ⟨rfl, hb3⟩
          have HB3 := Lib.hid ((belowD (Below.refl wr.heap.size wr) _).trans hb3)
          have HCO := Lib.hid (clone_any (.slice a1 n1 c1) l1 w3 (HA1.out.keep fun j hj => HB3.out.block j (HA1.out.lt hj)) (by rw [← N1.out]; omega))
          clear hb3
          go_wp2_with fail
          refine HCO.out.mono ?_
          rintro e w4 ⟨v4, rfl, ho4, hb4⟩
          have HB4 := Lib.hid (below_trans HB3.out hb4)
          have HN4 := Lib.hid (HNXT.out w4 v4 HQQ.out.symm (by rw [HLX.out]; exact own_base ho4 HB3.out.size) HB4.out)
          have HO4 := Lib.hid (ho.out.below' HB4.out)
          have x0 : ∃ u, w4.cell? ⟨w.heap.size + 1, k, none⟩ = some u := by
            rcases (show k = 0 ∨ k = 1 ∨ k = 2 ∨ k = 3 by omega) with rfl | rfl | rfl | rfl <;> exact ⟨_, heap_cell HO4.out.cells rfl⟩
          obtain ⟨u4, hu4⟩ := x0
          have g0 : w4.frozen? ⟨w.heap.size + 1, k, none⟩ = false := by have h9 := HO4.out.cells; simp [World.frozen?, h9]
          obtain ⟨va, vc, rfl⟩ := own_shape ho4
          have HSZ4 : Hid (w.heap.size + 2 ≤ w4.heap.size) := Lib.hid (by have := HB4.out.size; omega)
          clear ho4 hb4
          go_wp2
          go_roundw
          case rel => exact ⟨k + 1, _, by omega, by go_num, HN4, by rw [World.size_setCell]; exact HSZ4.out⟩
          case measure => simp [intOf]; omega
      · have HCL : Hid (n2 ≤ c2) := Lib.hid (HA2.out.cap_le N2.out.symm)
        have HEQ := Lib.hid (fun W (hW : Below wr.heap.size wr W) => equal_any l1 (l2.take n1) n1 c1 c2 a1 a2 N1.out.symm (by rw [List.length_take, ← N2.out]; omega) (by omega) W (((HA1.out.ents_take N1.out.symm (Nat.le_refl _) (by omega)).below hW) |> (fun h => by rw [N1.out, List.take_length] at h; rw [N1.out]; exact h)) ((HA2.out.ents_take N2.out.symm (by omega) (by omega)).below hW))
        have HFE : Hid (fitL l1 l2 = decide (l1 = l2.take n1)) := Lib.hid (by rw [N1.out]; exact HFS.out (by rw [← N1.out, ← N2.out]; exact hsw))
        have HLX : Hid (longL l1 l2 = l2) := Lib.hid (by rw [HLG.out, if_neg (by rw [← N1.out, ← N2.out]; exact hsw)])
        have hcap : n2 ≤ c2 := HCL.out
        have i1 : (0 : Int) ≤ (n1 : Int) := by omega
        have i2 : (n1 : Int) ≤ (c2 : Int) := by omega
        obtain ⟨q, hq⟩ : ∃ q, q = fitL l1 l2 := ⟨_, rfl⟩
        rw [← HFE.out, ← hq] at HEQ
        have HQQ := Lib.hid hq
        clear hq
        cases q with
        | false =>
          go_wp2
          go_quiet (fail)
          go_wp2
          go_quiet (fail)
          go_wp2_with fail
          refine (HEQ.out _ (belowD (Below.refl _ _) _)).mono ?_
          rintro e w3 ⟨rfl, hb3⟩
          have HB3 := Lib.hid ((belowD (Below.refl wr.heap.size wr) _).trans hb3)
          have HO3 := Lib.hid (ho.out.below' HB3.out)
          have r0 := heap_cell (j := 0) HO3.out.res rfl
          have r1 := heap_cell (j := 1) HO3.out.res rfl
          have r2 := heap_cell (j := 2) HO3.out.res rfl
          have r3 := heap_cell (j := 3) HO3.out.res rfl
          have g0 : ∀ j, w3.frozen? ⟨w.heap.size, j, none⟩ = false := fun j => by have h9 := HO3.out.res; simp [World.frozen?, h9]
          have HNO := Lib.hid (HJN.out HQQ.out.symm)
          clear hb3
          go_wp2
          refine bodyPost_ret (v := .tuple #[aggV (fun _ => .slice none 0 0), .bool false]) (by simp [results, Tryz.results65, go_sem, aggV, r0, r1, r2, r3]) rfl ⟨?_, ?_⟩
          · rw [HNO.out]
          · exact (((HO3.out.below.setCell (p := ⟨w.heap.size, 0, none⟩) (Nat.le_refl _) _).setCell (p := ⟨w.heap.size, 1, none⟩) (Nat.le_refl _) _).setCell (p := ⟨w.heap.size, 2, none⟩) (Nat.le_refl _) _).setCell (p := ⟨w.heap.size, 3, none⟩) (Nat.le_refl _) _
        | true =>
          go_wp2
          go_quiet (fail)
          go_wp2
          go_quiet (fail)
          go_wp2_with fail
          refine (HEQ.out _ (belowD (Below.refl _ _) _)).mono ?_
          rintro e w3 ⟨rfl, hb3⟩
          have HB3 := Lib.hid ((belowD (Below.refl wr.heap.size wr) _).trans hb3)
          have HCO := Lib.hid (clone_any (.slice a2 n2 c2) l2 w3 (HA2.out.keep fun j hj => HB3.out.block j (HA2.out.lt hj)) (by rw [← N2.out]; omega))
          clear hb3
          go_wp2_with fail
          refine HCO.out.mono ?_
          rintro e w4 ⟨v4, rfl, ho4, hb4⟩
          have HB4 := Lib.hid (below_trans HB3.out hb4)
          have HN4 := Lib.hid (HNXT.out w4 v4 HQQ.out.symm (by rw [HLX.out]; exact own_base ho4 HB3.out.size) HB4.out)
          have HO4 := Lib.hid (ho.out.below' HB4.out)
          have x0 : ∃ u, w4.cell? ⟨w.heap.size + 1, k, none⟩ = some u := by
            rcases (show k = 0 ∨ k = 1 ∨ k = 2 ∨ k = 3 by omega) with rfl | rfl | rfl | rfl <;> exact ⟨_, heap_cell HO4.out.cells rfl⟩
          obtain ⟨u4, hu4⟩ := x0
          have g0 : w4.frozen? ⟨w.heap.size + 1, k, none⟩ = false := by have h9 := HO4.out.cells; simp [World.frozen?, h9]
          obtain ⟨va, vc, rfl⟩ := own_shape ho4
          have HSZ4 : Hid (w.heap.size + 2 ≤ w4.heap.size) := Lib.hid (by have := HB4.out.size; omega)
          clear ho4 hb4
          go_wp2
          go_roundw
          case rel => exact ⟨k + 1, _, by omega, by go_num, HN4, by rw [World.size_setCell]; exact HSZ4.out⟩
          case measure => simp [intOf]; omega
    · have e : k = 4 := by omega
      subst e
      have r0 := heap_cell (j := 0) ho.out.res rfl
      have r1 := heap_cell (j := 1) ho.out.res rfl
      have r2 := heap_cell (j := 2) ho.out.res rfl
      have r3 := heap_cell (j := 3) ho.out.res rfl
      have g0 : ∀ j, wr.frozen? ⟨w.heap.size, j, none⟩ = false := fun j => by have h9 := ho.out.res; simp [World.frozen?, h9]
      obtain ⟨a0, d0, f0⟩ := own_shape (ho.out.done 0 (by omega))
      obtain ⟨a1, d1, f1⟩ := own_shape (ho.out.done 1 (by omega))
      obtain ⟨a2, d2, f2⟩ := own_shape (ho.out.done 2 (by omega))
      obtain ⟨a3, d3, f3⟩ := own_shape (ho.out.done 3 (by omega))
      have y0 := heap_cell (j := 0) ho.out.cells rfl
      have y1 := heap_cell (j := 1) ho.out.cells rfl
      have y2 := heap_cell (j := 2) ho.out.cells rfl
      have y3 := heap_cell (j := 3) ho.out.cells rfl
      rw [f0] at y0
      rw [f1] at y1
      rw [f2] at y2
      rw [f3] at y3
      have HF := Lib.hid (And.intro f0 (And.intro f1 (And.intro f2 f3)))
      have HJY := Lib.hid (joinB_of ho.out.fits)
      clear f0 f1 f2 f3
      go_wp2
      refine bodyPost_ret (v := .tuple #[.agg #[.slice a0 (longL (b1 0) (b2 0)).length d0, .slice a1 (longL (b1 1) (b2 1)).length d1, .slice a2 (longL (b1 2) (b2 2)).length d2, .slice a3 (longL (b1 3) (b2 3)).length d3], .bool true]) (by simp [results, Tryz.results65, go_sem, r0, r1, r2, r3]) rfl ⟨?_, ?_⟩
      · rw [HJY.out]
        have hset : ∀ (v0 v1 v2 v3 : Value) (j : Nat), j ≠ w.heap.size → ((((wr.setCell ⟨w.heap.size, 0, none⟩ v0).setCell ⟨w.heap.size, 1, none⟩ v1).setCell ⟨w.heap.size, 2, none⟩ v2).setCell ⟨w.heap.size, 3, none⟩ v3).heap[j]? = wr.heap[j]? := fun v0 v1 v2 v3 j hj =>
          (Below.heap_setCell _ _ _ j hj).trans ((Below.heap_setCell _ _ _ j hj).trans ((Below.heap_setCell _ _ _ j hj).trans (Below.heap_setCell _ _ _ j hj)))
        refine ⟨us, by unfold aggV; rw [HF.out.1, HF.out.2.1, HF.out.2.2.1, HF.out.2.2.2], fun i hi => ?_, fun i hi g hg => ?_, ho.out.apart⟩
        · exact own_base (own_other (ho.out.done i hi) fun j hj => hset _ _ _ _ j (by omega)) (Nat.zero_le _)
        · have := ((ho.out.done i hi).lt g hg).1; omega
      · exact (((ho.out.below.setCell (p := ⟨w.heap.size, 0, none⟩) (Nat.le_refl _) _).setCell (p := ⟨w.heap.size, 1, none⟩) (Nat.le_refl _) _).setCell (p := ⟨w.heap.size, 2, none⟩) (Nat.le_refl _) _).setCell (p := ⟨w.heap.size, 3, none⟩) (Nat.le_refl _) _
end Go.Proofs.YtdfkaijeppdhaaaGreatDoor

/- Texts of this claim, laid together: Ez, Fc, Ff, Fi, Fk, Fm. -/
import Derived.Test.YtdfkaijeppdhaaaGreatDoorZHq12
import Derived.Laws.StructEq
import Derived.Test.YtdfkaijeppdhaaaGreatDoorZHq07
import Derived.Test.YtdfkaijeppdhaaaGreatDoorZHq11
import Derived.Test.YtdfkaijeppdhaaaGreatDoorZHq06
import Derived.Shelf.Strings.BuilderK
import Derived.Test.YtdfkaijeppdhaaaGreatDoorZHq09

/- Texts of this claim, laid together: Ey, Ez. -/

/- Contracts: slices.Equal and slices.Clone at entries. -/
namespace Go.Proofs.YtdfkaijeppdhaaaGreatDoor
open Go.RowKit Go.Shelf Go.Proofs
def eqE (x y : Ent) : Bool := x.1 == y.1 && (x.2.1 == y.2.1 && (x.2.2.1 == y.2.2.1 && x.2.2.2.toList == y.2.2.2.toList))
theorem eqE_iff (x y : Ent) : eqE x y = true ↔ x = y := by
  obtain ⟨a, b, c, d⟩ := x
  obtain ⟨a', b', c', d'⟩ := y
  unfold eqE
  simp only [Bool.and_eq_true, beq_iff_eq, Prod.mk.injEq]
  refine and_congr_right fun _ => and_congr_right fun _ => and_congr_right fun _ => ⟨fun h => ?_, fun h => by rw [h]⟩
  rw [ba_list, ba_list] at h
  exact ba_ext h
set_option maxHeartbeats 1000000 in
theorem neqE : NeqAt Tryz.prog 43 (fun x : Ent => .agg (entC x).toArray) eqE := by
  refine ⟨fun x y w => ?_, GuardAt.agg _ (by kernel_rfl)⟩
  have u3 := Tryz.underlying3
  have a3 := Tryz.isAgg3
  have z3 := Tryz.sizeOf3
  have u9 := Tryz.underlying9
  have a9 := Tryz.isAgg9
  have z9 := Tryz.sizeOf9
  have hS : Tryz.prog.underlying 43 = some (.struct (Tryz.prog.fieldsOf 43)) := by kernel_rfl
  have hp : Tryz.prog.stoodInHeld 43 = false := by kernel_rfl
  obtain ⟨a, b, c, d⟩ := x
  obtain ⟨a', b', c', d'⟩ := y
  simp only [entC, ePost, eNum, eCnt, eLine, eqE]
  rw [run_neq_struct, show (10000 : Nat) = 9999 + 1 from rfl, run_equalIn_agg w 9999 43 _ _ hS hp]
  simp only [Program.fieldsOf, Tryz.underlying43]
  go_simp
  by_cases h1 : a = a' <;> by_cases h2 : b = b' <;> by_cases h3 : c = c' <;> by_cases h4 : d.toList = d'.toList <;> simp [h1, h2, h3, h4]
theorem allEq_iff : ∀ (xs ys : List Ent), xs.length = ys.length → (Lib.allEq eqE xs ys = true ↔ xs = ys)
  | [], [], _ => by simp [Lib.allEq]
  | x :: xs, y :: ys, h => by
    have ih := allEq_iff xs ys (by simpa using h)
    unfold Lib.allEq
    rw [Bool.and_eq_true, eqE_iff, ih, List.cons.injEq]
set_option maxHeartbeats 1000000 in
/-- slices.Equal of as many entries. -/
theorem equal_any (xs ys : List Ent) (n c1 c2 : Nat) (a1 a2 : Option Addr) (hn : xs.length = n) (hn2 : ys.length = n) (hbig : n ≤ 1000) (w : World) (h1 : EntsAt w (.slice a1 n c1) xs) (h2 : EntsAt w (.slice a2 n c2) ys) :
    Calls Tryz.prog 96 #[.slice a1 n c1, .slice a2 n c2] w fun e w' => e = .returned (.bool (decide (xs = ys))) ∧ Below w.heap.size w w' := by
  by_cases h0 : 0 < n
  · obtain ⟨b1, o1, k1, e1, hc1⟩ := h1.cells (by omega)
    obtain ⟨b2, o2, k2, e2, hc2⟩ := h2.cells (by omega)
    simp only [Value.slice.injEq] at e1 e2
    obtain ⟨rfl, _, rfl⟩ := e1
    obtain ⟨rfl, _, rfl⟩ := e2
    have key : ∀ (l : List Ent) (b o : Nat), (∀ j, j < l.length → w.cell? ⟨b, o + j * 4, none⟩ = some (.int .i64 (ePost (l.getD j (0, 0, 0, ⟨#[]⟩)))) ∧ w.cell? ⟨b, o + j * 4 + 1, none⟩ = some (.int .i64 (eNum (l.getD j (0, 0, 0, ⟨#[]⟩)))) ∧
      w.cell? ⟨b, o + j * 4 + 2, none⟩ = some (.int .i64 (eCnt (l.getD j (0, 0, 0, ⟨#[]⟩)))) ∧ w.cell? ⟨b, o + j * 4 + 3, none⟩ = some (.string (eLine (l.getD j (0, 0, 0, ⟨#[]⟩))))) →
      ∀ j, j < l.length → ∀ i v, (entC l[j]!)[i]? = some v → w.cell? ⟨b, o + j * 4 + i, none⟩ = some v := by
      intro l b o h j hj i v hv
      obtain ⟨q0, q1, q2, q3⟩ := h j hj
      have he : l.getD j (0, 0, 0, ⟨#[]⟩) = l[j]! := by
        rw [List.getD_eq_getElem?_getD, List.getElem?_eq_getElem hj, getElem!_pos l j hj]; rfl
      rw [he] at q0 q1 q2 q3
      have hi : i < 4 := (List.getElem?_eq_some_iff.1 hv).1
      rcases (show i = 0 ∨ i = 1 ∨ i = 2 ∨ i = 3 by omega) with rfl | rfl | rfl | rfl <;> simp only [entC, List.getElem?_cons_zero, List.getElem?_cons_succ, Option.some.injEq] at hv <;> subst hv <;> assumption
    refine (AnyQ.slices_Equal Tryz.equalE 4 Tryz.isAgg43 Tryz.sizeOf43 entC (fun _ => rfl) eqE neqE b1 o1 n c1 b2 o2 n c2 xs ys w (by omega) (by omega) (by omega) (by omega) (key xs b1 o1 hc1) (key ys b2 o2 hc2)).mono ?_
    rintro e w' ⟨rfl, q, rfl⟩
    refine ⟨?_, belowD (Below.refl _ _) _⟩
    rw [List.take_of_length_le (by omega), List.take_of_length_le (by omega)]
    congr 2
    rw [Bool.eq_iff_iff, allEq_iff xs ys (by omega), decide_eq_true_eq]
  · have hz : n = 0 := by omega
    have e1 : xs = [] := List.length_eq_zero_iff.1 (by omega)
    have e2 : ys = [] := List.length_eq_zero_iff.1 (by omega)
    subst e1 e2 hz
    clear h1 h2 hn hn2
    go_enter Tryz.func96, Tryz.ntmps96
    go_wp2
    go_loopw [13] (fun i wr => i = .int .i64 0 ∧ w = wr) (fun _ _ => 0)
    case atStart => exact ⟨rfl, rfl⟩
    case round =>
      obtain ⟨rfl, rfl⟩ := hrel
      go_wp2
      go_ret
      exact ⟨rfl, Below.refl _ _⟩
/-- slices.Clone of a list of a book. -/
def ClonePost (l : List Ent) (w : World) (e : Ending) (w' : World) : Prop := ∃ v, e = .returned v ∧ w'.ownsRow w.heap.size 43 4 v l.length (rowE l) ∧ Below w.heap.size w w'
theorem clone_any (v : Value) (l : List Ent) (w : World) (h : ListAt w v l) (hl : l.length ≤ 1000) : Calls Tryz.prog 97 #[v] w (ClonePost l w) := by
  obtain ⟨i0, hi0, hz0, hz1, hz2⟩ := info_parts Tryz.infoEnt
  rcases h.forms with ⟨rfl, rfl⟩ | ⟨g, cap, rfl, hc⟩
  · refine (AnyE.slices_Clone_nil Tryz.cloneE 0 0 w).mono ?_
    rintro e w' ⟨rfl, rfl⟩
    exact ⟨_, rfl, World.ownsRow_nil _ _ _ _, Below.refl _ _⟩
  · refine (AnyE.slices_Clone Tryz.cloneE i0 _ 4 40 hi0 hz0 hz1 hz2 rfl (by decide) Tryz.sizeOf43 g 0 l.length cap (rowE l) w h.1 (by unfold maxLen; omega) (by omega) (fun j u hj => ?_) (rowE_one l)).mono ?_
    · have hjl := (List.getElem?_eq_some_iff.1 hj).1
      rw [rowE_len] at hjl
      rw [h.cellAt (0 + j) (by omega), Nat.zero_add, hj]
    · rintro e w' ⟨v', rfl, ho, _, hb⟩
      exact ⟨v', rfl, ho, hb⟩
end Go.Proofs.YtdfkaijeppdhaaaGreatDoor
/- Contracts: joined. -/
namespace Go.Proofs.YtdfkaijeppdhaaaGreatDoor
open Go.RowKit Go.Shelf
theorem fit_long {l m : List Ent} (h : m.length < l.length) : fitL l m = decide (m = l.take m.length) := by
  unfold fitL
  rw [Bool.eq_iff_iff, Bool.or_eq_true, decide_eq_true_eq, decide_eq_true_eq, decide_eq_true_eq]
  constructor
  · rintro (h1 | h1)
    · have := h1.length_le; omega
    · exact List.prefix_iff_eq_take.1 h1
  · intro h1; exact .inr (List.prefix_iff_eq_take.2 h1)
theorem fit_short {l m : List Ent} (h : ¬ m.length < l.length) : fitL l m = decide (l = m.take l.length) := by
  unfold fitL
  rw [Bool.eq_iff_iff, Bool.or_eq_true, decide_eq_true_eq, decide_eq_true_eq, decide_eq_true_eq]
  constructor
  · rintro (h1 | h1)
    · exact List.prefix_iff_eq_take.1 h1
    · have h2 := h1.length_le
      have h3 := h1.eq_of_length (by omega)
      rw [h3, List.take_length]
  · intro h1; exact .inl (List.prefix_iff_eq_take.2 h1)
theorem ListAt.ents_take {w : World} {a : Option Addr} {n cap k : Nat} {l : List Ent} (h : ListAt w (.slice a n cap) l) (hn : l.length = n) (hk : k ≤ n) (hbig : n ≤ 1000) : EntsAt w (.slice a k cap) (l.take k) := by
  have hlen : (l.take k).length = k := by rw [List.length_take]; omega
  refine ⟨a, cap, by rw [hlen], by omega, fun h0 => ?_⟩
  rw [hlen] at h0
  rcases h.2 with ⟨h1, h2⟩ | ⟨g, cap', cur, h1, hrest⟩
  · omega
  · simp only [Value.slice.injEq] at h1
    obtain ⟨rfl, _, rfl⟩ := h1
    refine ⟨g, 0, rfl, fun j c x hc hx => ?_⟩
    have hjl := (List.getElem?_eq_some_iff.1 hx).1
    rw [rowE_len, hlen] at hjl
    have hsp : rowE l = rowE (l.take k) ++ rowE (l.drop k) := by rw [← rowE_append, List.take_append_drop]
    have h9 : w.ownsRow 0 43 4 (.slice (some ⟨g, 0, none⟩) n cap) n (rowE l) := by unfold ListAt at h; rw [hn] at h; exact h
    have hr := h9.cellAt (j * 4 + c) (by omega)
    rw [Nat.zero_add, hr, hsp, List.getElem?_append_left (by rw [rowE_len, hlen]; exact hjl), hx]
theorem ListAt.cap_le {w : World} {a : Option Addr} {n cap : Nat} {l : List Ent} (h : ListAt w (.slice a n cap) l) (hn : l.length = n) : n ≤ cap := by
  rcases h.forms with ⟨h9, rfl⟩ | ⟨g, c, h9, h8⟩
  · simp only [Value.slice.injEq] at h9
    simp at hn; omega
  · simp only [Value.slice.injEq] at h9
    omega
/-- Four slices of a new book. -/
structure NewBook (w : World) (lo : Nat) (us : Nat → Value) (c : Book) : Prop where
  list : ∀ i, i < 4 → ListAt w (us i) (c i)
  low : ∀ i, i < 4 → ∀ g, (us i).ownBlock = some g → lo ≤ g
  apart : ∀ i j, i < 4 → j < 4 → i ≠ j → ∀ g, (us i).ownBlock = some g → (us j).ownBlock ≠ some g
theorem NewBook.below {w w' : World} {lo : Nat} {us : Nat → Value} {c : Book} (h : NewBook w lo us c) (hb : Below w.heap.size w w') : NewBook w' lo us c :=
  ⟨fun i hi => (h.list i hi).keep fun k hk => hb.block k ((h.list i hi).lt hk), h.low, h.apart⟩
def aggV (us : Nat → Value) : Value := .agg #[us 0, us 1, us 2, us 3]
def JoinPost (b1 b2 : Book) (w : World) (e : Ending) (w' : World) : Prop :=
  (match joinB b1 b2 with
    | some c => ∃ us, e = .returned (.tuple #[aggV us, .bool true]) ∧ NewBook w' w.heap.size us c
    | none => e = .returned (.tuple #[aggV (fun _ => .slice none 0 0), .bool false])) ∧ Below w.heap.size w w'
theorem joinB_of {b1 b2 : Book} (h : ∀ i, i < 4 → fitL (b1 i) (b2 i) = true) : joinB b1 b2 = some (joinL b1 b2) := by
  unfold joinB
  rw [h 0 (by omega), h 1 (by omega), h 2 (by omega), h 3 (by omega)]
  rfl
theorem joinB_no {b1 b2 : Book} {k : Nat} (hk : k < 4) (h : fitL (b1 k) (b2 k) = false) : joinB b1 b2 = none := by
  unfold joinB
  rw [if_neg]
  simp only [Bool.and_eq_true]
  rintro ⟨⟨⟨h0, h1⟩, h2⟩, h3⟩
  rcases (show k = 0 ∨ k = 1 ∨ k = 2 ∨ k = 3 by omega) with rfl | rfl | rfl | rfl <;> simp_all
/-- The new lists so far. -/
structure Outs (b1 b2 : Book) (B R : Nat) (k : Nat) (us : Nat → Value) (w wr : World) : Prop where
  cells : wr.heap[B]? = some (.cells #[us 0, us 1, us 2, us 3] 96 (0, 0))
  res : wr.heap[R]? = some (.cells #[.slice none 0 0, .slice none 0 0, .slice none 0 0, .slice none 0 0] 96 (0, 0))
  done : ∀ i, i < k → wr.ownsRow (B + 1) 43 4 (us i) (longL (b1 i) (b2 i)).length (rowE (longL (b1 i) (b2 i)))
  todo : ∀ i, k ≤ i → us i = .slice none 0 0
  apart : ∀ i j, i < 4 → j < 4 → i ≠ j → ∀ g, (us i).ownBlock = some g → (us j).ownBlock ≠ some g
  below : Below w.heap.size w wr
  fits : ∀ i, i < k → fitL (b1 i) (b2 i) = true
theorem Outs.below' {b1 b2 : Book} {B R k : Nat} {us : Nat → Value} {w wr w' : World} (h : Outs b1 b2 B R k us w wr) (hb : Below wr.heap.size wr w') : Outs b1 b2 B R k us w w' :=
  ⟨(hb.block B (Array.getElem?_eq_some_iff.1 h.cells).1).trans h.cells, (hb.block R (Array.getElem?_eq_some_iff.1 h.res).1).trans h.res, fun i hi => own_below (h.done i hi) hb, h.todo, h.apart, h.below.trans (hb.mono h.below.size), h.fits⟩
theorem Outs.next {b1 b2 : Book} {B R k : Nat} {us : Nat → Value} {w wr w' : World} {v : Value} (h : Outs b1 b2 B R k us w wr) (hk : k < 4) (hB : w.heap.size ≤ B) (hRB : R ≠ B) (hsz : B + 1 ≤ wr.heap.size) (_hR : R ≤ B) (hf : fitL (b1 k) (b2 k) = true)
    (hv : w'.ownsRow wr.heap.size 43 4 v (longL (b1 k) (b2 k)).length (rowE (longL (b1 k) (b2 k)))) (hb : Below wr.heap.size wr w') : Outs b1 b2 B R (k + 1) (setVs us k v) w (w'.setCell ⟨B, k, none⟩ v) := by
  have h' := h.below' hb
  have hset : ∀ j, j ≠ B → (w'.setCell ⟨B, k, none⟩ v).heap[j]? = w'.heap[j]? := fun j hj => Below.heap_setCell _ _ _ j hj
  refine ⟨?_, (hset R hRB).trans h'.res, fun i hi => ?_, fun i hi => ?_, fun i j hi hj hij g hg hg2 => ?_, h'.below.setCell (p := ⟨B, k, none⟩) hB v, fun i hi => ?_⟩
  · rw [setCell_four h'.cells]
    unfold setVs
    rcases (show k = 0 ∨ k = 1 ∨ k = 2 ∨ k = 3 by omega) with rfl | rfl | rfl | rfl <;> simp
  · by_cases e : i = k
    · subst e
      rw [setVs_same]
      exact own_other (own_base hv hsz) fun j hj => hset j (by omega)
    · rw [setVs_other _ _ e]
      exact own_other (h'.done i (by omega)) fun j hj => hset j (by omega)
  · rw [setVs_other _ _ (by omega)]
    exact h.todo i (by omega)
  · have hlow : ∀ x, x ≠ k → ∀ g, (us x).ownBlock = some g → g < wr.heap.size := fun x hx g hg => by
      by_cases hxk : x < k
      · exact ((h.done x hxk).lt g hg).2
      · rw [h.todo x (by omega)] at hg; simp [Value.ownBlock] at hg
    by_cases ei : i = k
    · subst ei
      rw [setVs_same] at hg
      rw [setVs_other _ _ (Ne.symm hij)] at hg2
      have h1 := (hv.lt g hg).1
      have h2 := hlow j (Ne.symm hij) g hg2
      omega
    · rw [setVs_other _ _ ei] at hg
      by_cases ej : j = k
      · subst ej
        rw [setVs_same] at hg2
        have h1 := (hv.lt g hg2).1
        have h2 := hlow i ei g hg
        omega
      · rw [setVs_other _ _ ej] at hg2
        exact h.apart i j hi hj hij g hg hg2
  · by_cases e : i = k
    · subst e; exact hf
    · exact h.fits i (by omega)
set_option maxRecDepth 100000 in
set_option maxHeartbeats 8000000 in
theorem joined_any (K1 K2 : Nat) (vs1 vs2 : Nat → Value) (b1 b2 : Book) (w : World) (h1 : BookIs w K1 vs1 b1) (h2 : BookIs w K2 vs2 b2) (hl1 : ∀ i, i < 4 → (b1 i).length ≤ 60) (hl2 : ∀ i, i < 4 → (b2 i).length ≤ 60) :
    Calls Tryz.prog 65 #[.pointer (some ⟨K1, 0, none⟩), .pointer (some ⟨K2, 0, none⟩)] w (JoinPost b1 b2 w) := by
  obtain ⟨w2, hw2⟩ : ∃ w2, w2 = (w.alloc (.cells #[.slice none 0 0, .slice none 0 0, .slice none 0 0, .slice none 0 0] 96)).alloc (.cells #[.slice none 0 0, .slice none 0 0, .slice none 0 0, .slice none 0 0] 96) := ⟨_, rfl⟩
  have HO2 : Hid (Outs b1 b2 (w.heap.size + 1) w.heap.size 0 (fun _ => .slice none 0 0) w w2) := Lib.hid (by
    have hb : Below w.heap.size w w2 := by rw [hw2]; exact ((Below.refl _ w).alloc (Nat.le_refl _) _).alloc (by simp) _
    refine ⟨?_, ?_, fun i hi => by omega, fun i hi => rfl, fun i j hi hj hij g hg => by simp [Value.ownBlock] at hg, hb, fun i hi => by omega⟩
    · have := World.alloc_heap_new (w.alloc (.cells #[.slice none 0 0, .slice none 0 0, .slice none 0 0, .slice none 0 0] 96)) (.cells #[.slice none 0 0, .slice none 0 0, .slice none 0 0, .slice none 0 0] 96)
      rw [World.size_alloc] at this
      rw [hw2]; exact this
    · rw [hw2]; exact (Below.heap_alloc _ _ _ (by simp)).trans (World.alloc_heap_new w _))
  have hz : w.heap.size + 2 ≤ w2.heap.size := by rw [hw2]; simp
  have HW2 := Lib.hid hw2
  have H1 := Lib.hid h1
  have H2 := Lib.hid h2
  have HL1 := Lib.hid hl1
  have HL2 := Lib.hid hl2
  clear hw2 h1 h2 hl1 hl2
  go_enter Tryz.func65, Tryz.ntmps65
  go_wp2_with fail
  rw [← HW2.out]
  go_loopw [13] (fun i wr => ∃ (k : Nat) (us : Nat → Value), k ≤ 4 ∧ i = .int .i64 k ∧ Hid (Outs b1 b2 (w.heap.size + 1) w.heap.size k us w wr) ∧ w.heap.size + 2 ≤ wr.heap.size) (fun i _ => 4 - (intOf i).toNat)
  case atStart => exact ⟨0, _, Nat.zero_le _, rfl, HO2, hz⟩
  case round =>
    obtain ⟨k, us, hk, rfl, ho, hwz⟩ := hrel
    by_cases hlt : k < 4
    · have hlt2 : (k : Int) < 4 := by omega
      have hge : (0 : Int) ≤ (k : Int) := by omega
      have K1r := Lib.hid (H1.out.below ho.out.below)
      have K2r := Lib.hid (H2.out.below ho.out.below)
      obtain ⟨a1, c1, e1⟩ := K1r.out.slice hlt
      obtain ⟨a2, c2, e2⟩ := K2r.out.slice hlt
      have q1 := K1r.out.cell hlt
      have q2 := K2r.out.cell hlt
      rw [e1] at q1
      rw [e2] at q2
      have HA1 : Hid (ListAt wr (.slice a1 (b1 k).length c1) (b1 k)) := Lib.hid (by rw [← e1]; exact K1r.out.list k hlt)
      have HA2 : Hid (ListAt wr (.slice a2 (b2 k).length c2) (b2 k)) := Lib.hid (by rw [← e2]; exact K2r.out.list k hlt)
      have B1 := HL1.out k hlt
      have B2 := HL2.out k hlt
      clear e1 e2
      have HFL := Lib.hid (fun (h : (b2 k).length < (b1 k).length) => fit_long (l := b1 k) (m := b2 k) h)
      have HFS := Lib.hid (fun (h : ¬ (b2 k).length < (b1 k).length) => fit_short (l := b1 k) (m := b2 k) h)
      have HJN := Lib.hid (fun (h : fitL (b1 k) (b2 k) = false) => joinB_no (b1 := b1) (b2 := b2) hlt h)
      have HNXT := Lib.hid (fun (w' : World) (v : Value) (hf : fitL (b1 k) (b2 k) = true) (hv : w'.ownsRow wr.heap.size 43 4 v (longL (b1 k) (b2 k)).length (rowE (longL (b1 k) (b2 k)))) (hb : Below wr.heap.size wr w') => ho.out.next hlt (by omega) (by omega) (by omega) (by omega) hf hv hb)
      have HLG : Hid (longL (b1 k) (b2 k) = if (b2 k).length < (b1 k).length then b1 k else b2 k) := Lib.hid rfl
      generalize b1 k = l1 at *
      generalize b2 k = l2 at *
      obtain ⟨n1, hn1⟩ : ∃ n, n = l1.length := ⟨_, rfl⟩
      obtain ⟨n2, hn2⟩ : ∃ n, n = l2.length := ⟨_, rfl⟩
      have N1 := Lib.hid hn1
      have N2 := Lib.hid hn2
      rw [← hn1] at q1 B1 HA1
      rw [← hn2] at q2 B2 HA2
      clear hn1 hn2
      by_cases hsw : n2 < n1
      · have HCL : Hid (n1 ≤ c1) := Lib.hid (HA1.out.cap_le N1.out.symm)
        have HEQ := Lib.hid (fun W (hW : Below wr.heap.size wr W) => equal_any l2 (l1.take n2) n2 c2 c1 a2 a1 N2.out.symm (by rw [List.length_take, ← N1.out]; omega) (by omega) W (((HA2.out.ents_take N2.out.symm (Nat.le_refl _) (by omega)).below hW) |> (fun h => by rw [N2.out, List.take_length] at h; rw [N2.out]; exact h)) ((HA1.out.ents_take N1.out.symm (by omega) (by omega)).below hW))
        have HFE : Hid (fitL l1 l2 = decide (l2 = l1.take n2)) := Lib.hid (by rw [N2.out]; exact HFL.out (by rw [← N1.out, ← N2.out]; exact hsw))
        have HLX : Hid (longL l1 l2 = l1) := Lib.hid (by rw [HLG.out, if_pos (by rw [← N1.out, ← N2.out]; exact hsw)])
        have hcap : n1 ≤ c1 := HCL.out
        have i1 : (0 : Int) ≤ (n2 : Int) := by omega
        have i2 : (n2 : Int) ≤ (c1 : Int) := by omega
        obtain ⟨q, hq⟩ : ∃ q, q = fitL l1 l2 := ⟨_, rfl⟩
        rw [← HFE.out, ← hq] at HEQ
        have HQQ := Lib.hid hq
        clear hq
        cases q with
        | false =>
          go_wp2
          go_quiet (fail)
          go_wp2
          go_quiet (fail)
          go_wp2_with fail
          refine (HEQ.out _ (belowD (Below.refl _ _) _)).mono ?_
          rintro e w3 ⟨rfl, hb3⟩
          have HB3 := Lib.hid ((belowD (Below.refl wr.heap.size wr) _).trans hb3)
          have HO3 := Lib.hid (ho.out.below' HB3.out)
          have r0 := heap_cell (j := 0) HO3.out.res rfl
          have r1 := heap_cell (j := 1) HO3.out.res rfl
          have r2 := heap_cell (j := 2) HO3.out.res rfl
          have r3 := heap_cell (j := 3) HO3.out.res rfl
          have g0 : ∀ j, w3.frozen? ⟨w.heap.size, j, none⟩ = false := fun j => by have h9 := HO3.out.res; simp [World.frozen?, h9]
          have HNO := Lib.hid (HJN.out HQQ.out.symm)
          clear hb3
          go_wp2
          refine bodyPost_ret (v := .tuple #[aggV (fun _ => .slice none 0 0), .bool false]) (by simp [results, Tryz.results65, go_sem, aggV, r0, r1, r2, r3]) rfl ⟨?_, ?_⟩
          · rw [HNO.out]
          · exact (((HO3.out.below.setCell (p := ⟨w.heap.size, 0, none⟩) (Nat.le_refl _) _).setCell (p := ⟨w.heap.size, 1, none⟩) (Nat.le_refl _) _).setCell (p := ⟨w.heap.size, 2, none⟩) (Nat.le_refl _) _).setCell (p := ⟨w.heap.size, 3, none⟩) (Nat.le_refl _) _
        | true =>
          go_wp2
          go_quiet (fail)
          go_wp2
          go_quiet (fail)
          go_wp2_with fail
          refine (HEQ.out _ (belowD (Below.refl _ _) _)).mono ?_
          rintro e w3 ⟨rfl, hb3⟩
          have HB3 := Lib.hid ((belowD (Below.refl wr.heap.size wr) _).trans hb3)
          have HCO := Lib.hid (clone_any (.slice a1 n1 c1) l1 w3 (HA1.out.keep fun j hj => HB3.out.block j (HA1.out.lt hj)) (by rw [← N1.out]; omega))
          clear hb3
          go_wp2_with fail
          refine HCO.out.mono ?_
          rintro e w4 ⟨v4, rfl, ho4, hb4⟩
          have HB4 := Lib.hid (below_trans HB3.out hb4)
          have HN4 := Lib.hid (HNXT.out w4 v4 HQQ.out.symm (by rw [HLX.out]; exact own_base ho4 HB3.out.size) HB4.out)
          have HO4 := Lib.hid (ho.out.below' HB4.out)
          have x0 : ∃ u, w4.cell? ⟨w.heap.size + 1, k, none⟩ = some u := by
            rcases (show k = 0 ∨ k = 1 ∨ k = 2 ∨ k = 3 by omega) with rfl | rfl | rfl | rfl <;> exact ⟨_, heap_cell HO4.out.cells rfl⟩
          obtain ⟨u4, hu4⟩ := x0
          have g0 : w4.frozen? ⟨w.heap.size + 1, k, none⟩ = false := by have h9 := HO4.out.cells; simp [World.frozen?, h9]
          obtain ⟨va, vc, rfl⟩ := own_shape ho4
          have HSZ4 : Hid (w.heap.size + 2 ≤ w4.heap.size) := Lib.hid (by have := HB4.out.size; omega)
          clear ho4 hb4
          go_wp2
          go_roundw
          case rel => exact ⟨k + 1, _, by omega, by go_num, HN4, by rw [World.size_setCell]; exact HSZ4.out⟩
          case measure => simp [intOf]; omega
      · have HCL : Hid (n2 ≤ c2) := Lib.hid (HA2.out.cap_le N2.out.symm)
        have HEQ := Lib.hid (fun W (hW : Below wr.heap.size wr W) => equal_any l1 (l2.take n1) n1 c1 c2 a1 a2 N1.out.symm (by rw [List.length_take, ← N2.out]; omega) (by omega) W (((HA1.out.ents_take N1.out.symm (Nat.le_refl _) (by omega)).below hW) |> (fun h => by rw [N1.out, List.take_length] at h; rw [N1.out]; exact h)) ((HA2.out.ents_take N2.out.symm (by omega) (by omega)).below hW))
        have HFE : Hid (fitL l1 l2 = decide (l1 = l2.take n1)) := Lib.hid (by rw [N1.out]; exact HFS.out (by rw [← N1.out, ← N2.out]; exact hsw))
        have HLX : Hid (longL l1 l2 = l2) := Lib.hid (by rw [HLG.out, if_neg (by rw [← N1.out, ← N2.out]; exact hsw)])
        have hcap : n2 ≤ c2 := HCL.out
        have i1 : (0 : Int) ≤ (n1 : Int) := by omega
        have i2 : (n1 : Int) ≤ (c2 : Int) := by omega
        obtain ⟨q, hq⟩ : ∃ q, q = fitL l1 l2 := ⟨_, rfl⟩
        rw [← HFE.out, ← hq] at HEQ
        have HQQ := Lib.hid hq
        clear hq
        cases q with
        | false =>
          go_wp2
          go_quiet (fail)
          go_wp2
          go_quiet (fail)
          go_wp2_with fail
          refine (HEQ.out _ (belowD (Below.refl _ _) _)).mono ?_
          rintro e w3 ⟨rfl, hb3⟩
          have HB3 := Lib.hid ((belowD (Below.refl wr.heap.size wr) _).trans hb3)
          have HO3 := Lib.hid (ho.out.below' HB3.out)
          have r0 := heap_cell (j := 0) HO3.out.res rfl
          have r1 := heap_cell (j := 1) HO3.out.res rfl
          have r2 := heap_cell (j := 2) HO3.out.res rfl
          have r3 := heap_cell (j := 3) HO3.out.res rfl
          have g0 : ∀ j, w3.frozen? ⟨w.heap.size, j, none⟩ = false := fun j => by have h9 := HO3.out.res; simp [World.frozen?, h9]
          have HNO := Lib.hid (HJN.out HQQ.out.symm)
          clear hb3
          go_wp2
          refine bodyPost_ret (v := .tuple #[aggV (fun _ => .slice none 0 0), .bool false]) (by simp [results, Tryz.results65, go_sem, aggV, r0, r1, r2, r3]) rfl ⟨?_, ?_⟩
          · rw [HNO.out]
          · exact (((HO3.out.below.setCell (p := ⟨w.heap.size, 0, none⟩) (Nat.le_refl _) _).setCell (p := ⟨w.heap.size, 1, none⟩) (Nat.le_refl _) _).setCell (p := ⟨w.heap.size, 2, none⟩) (Nat.le_refl _) _).setCell (p := ⟨w.heap.size, 3, none⟩) (Nat.le_refl _) _
        | true =>
          go_wp2
          go_quiet (fail)
          go_wp2
          go_quiet (fail)
          go_wp2_with fail
          refine (HEQ.out _ (belowD (Below.refl _ _) _)).mono ?_
          rintro e w3 ⟨rfl, hb3⟩
          have HB3 := Lib.hid ((belowD (Below.refl wr.heap.size wr) _).trans hb3)
          have HCO := Lib.hid (clone_any (.slice a2 n2 c2) l2 w3 (HA2.out.keep fun j hj => HB3.out.block j (HA2.out.lt hj)) (by rw [← N2.out]; omega))
          clear hb3
          go_wp2_with fail
          refine HCO.out.mono ?_
          rintro e w4 ⟨v4, rfl, ho4, hb4⟩
          have HB4 := Lib.hid (below_trans HB3.out hb4)
          have HN4 := Lib.hid (HNXT.out w4 v4 HQQ.out.symm (by rw [HLX.out]; exact own_base ho4 HB3.out.size) HB4.out)
          have HO4 := Lib.hid (ho.out.below' HB4.out)
          have x0 : ∃ u, w4.cell? ⟨w.heap.size + 1, k, none⟩ = some u := by
            rcases (show k = 0 ∨ k = 1 ∨ k = 2 ∨ k = 3 by omega) with rfl | rfl | rfl | rfl <;> exact ⟨_, heap_cell HO4.out.cells rfl⟩
          obtain ⟨u4, hu4⟩ := x0
          have g0 : w4.frozen? ⟨w.heap.size + 1, k, none⟩ = false := by have h9 := HO4.out.cells; simp [World.frozen?, h9]
          obtain ⟨va, vc, rfl⟩ := own_shape ho4
          have HSZ4 : Hid (w.heap.size + 2 ≤ w4.heap.size) := Lib.hid (by have := HB4.out.size; omega)
          clear ho4 hb4
          go_wp2
          go_roundw
          case rel => exact ⟨k + 1, _, by omega, by go_num, HN4, by rw [World.size_setCell]; exact HSZ4.out⟩
          case measure => simp [intOf]; omega
    · have e : k = 4 := by omega
      subst e
      have r0 := heap_cell (j := 0) ho.out.res rfl
      have r1 := heap_cell (j := 1) ho.out.res rfl
      have r2 := heap_cell (j := 2) ho.out.res rfl
      have r3 := heap_cell (j := 3) ho.out.res rfl
      have g0 : ∀ j, wr.frozen? ⟨w.heap.size, j, none⟩ = false := fun j => by have h9 := ho.out.res; simp [World.frozen?, h9]
      obtain ⟨a0, d0, f0⟩ := own_shape (ho.out.done 0 (by omega))
      obtain ⟨a1, d1, f1⟩ := own_shape (ho.out.done 1 (by omega))
      obtain ⟨a2, d2, f2⟩ := own_shape (ho.out.done 2 (by omega))
      obtain ⟨a3, d3, f3⟩ := own_shape (ho.out.done 3 (by omega))
      have y0 := heap_cell (j := 0) ho.out.cells rfl
      have y1 := heap_cell (j := 1) ho.out.cells rfl
      have y2 := heap_cell (j := 2) ho.out.cells rfl
      have y3 := heap_cell (j := 3) ho.out.cells rfl
      rw [f0] at y0
      rw [f1] at y1
      rw [f2] at y2
      rw [f3] at y3
      have HF := Lib.hid (And.intro f0 (And.intro f1 (And.intro f2 f3)))
      have HJY := Lib.hid (joinB_of ho.out.fits)
      clear f0 f1 f2 f3
      go_wp2
      refine bodyPost_ret (v := .tuple #[.agg #[.slice a0 (longL (b1 0) (b2 0)).length d0, .slice a1 (longL (b1 1) (b2 1)).length d1, .slice a2 (longL (b1 2) (b2 2)).length d2, .slice a3 (longL (b1 3) (b2 3)).length d3], .bool true]) (by simp [results, Tryz.results65, go_sem, r0, r1, r2, r3]) rfl ⟨?_, ?_⟩
      · rw [HJY.out]
        have hset : ∀ (v0 v1 v2 v3 : Value) (j : Nat), j ≠ w.heap.size → ((((wr.setCell ⟨w.heap.size, 0, none⟩ v0).setCell ⟨w.heap.size, 1, none⟩ v1).setCell ⟨w.heap.size, 2, none⟩ v2).setCell ⟨w.heap.size, 3, none⟩ v3).heap[j]? = wr.heap[j]? := fun v0 v1 v2 v3 j hj =>
          (Below.heap_setCell _ _ _ j hj).trans ((Below.heap_setCell _ _ _ j hj).trans ((Below.heap_setCell _ _ _ j hj).trans (Below.heap_setCell _ _ _ j hj)))
        refine ⟨us, by unfold aggV; rw [HF.out.1, HF.out.2.1, HF.out.2.2.1, HF.out.2.2.2], fun i hi => ?_, fun i hi g hg => ?_, ho.out.apart⟩
        · exact own_base (own_other (ho.out.done i hi) fun j hj => hset _ _ _ _ j (by omega)) (Nat.zero_le _)
        · have := ((ho.out.done i hi).lt g hg).1; omega
      · exact (((ho.out.below.setCell (p := ⟨w.heap.size, 0, none⟩) (Nat.le_refl _) _).setCell (p := ⟨w.heap.size, 1, none⟩) (Nat.le_refl _) _).setCell (p := ⟨w.heap.size, 2, none⟩) (Nat.le_refl _) _).setCell (p := ⟨w.heap.size, 3, none⟩) (Nat.le_refl _) _
end Go.Proofs.YtdfkaijeppdhaaaGreatDoor

/- Texts of this claim, laid together: Fa, Fb, Fc. -/

/- Contracts of a post's methods: Do, Number, Count, Since, Book. -/
namespace Go.Proofs.YtdfkaijeppdhaaaGreatDoor
open Go.RowKit Go.Shelf
/-- Do of any line. -/
theorem do_any (P n : Nat) (hn : n < 4) (F : List Nat) (b : Book) (line : ByteArray) (hs : line.size ≤ 1000000) (w : World) (h : PostAt w P F n b) (hok : BookOk b) (hV : Vars w) (hfree : ∀ k ∈ F, ¬ isVar k) :
    Calls Tryz.prog 24 #[.pointer (some ⟨P, 0, none⟩), .string line] w (DoPost P n F (doB b n line) w) := by
  cases hc : parseB line with
  | none =>
    rw [show doB b n line = (emp, 100, b) by unfold doB; rw [hc]]
    exact do_no P n F b line hs w h hV (by rw [hc]; rfl)
  | some c =>
    by_cases hd : c.deed = false
    · rw [show doB b n line = (emp, 100, b) by unfold doB; rw [hc]; simp only; rw [if_pos hd]]
      exact do_no P n F b line hs w h hV (by rw [hc]; exact hd)
    · cases c with
      | put nm tx => exact do_put P n hn F b line hs w h hok hV hfree nm tx hc
      | add nm mm => exact do_add P n hn F b line hs w h hok hV hfree nm mm hc
      | drop nm =>
        cases htx : (saysB (allB b)).txt nm with
        | none => exact do_drop_none P n hn F b line hs w h hok hV hfree nm hc htx
        | some tx => exact do_drop P n hn F b line hs w h hok hV hfree nm tx hc htx
      | stock nm => exact absurd rfl hd
      | share m nms => exact absurd rfl hd
      | asked k nms ns => exact absurd rfl hd

/-- No post: nil, or one that no call has made. -/
def NoPost (w : World) (v : Value) : Prop := v = .pointer none ∨ ∃ P, v = .pointer (some ⟨P, 0, none⟩) ∧ w.heap[P]? = some (.cells #[.pointer none, .int .i64 0] 81 (0, 0))
theorem NoPost.below {w w' : World} {v : Value} (h : NoPost w v) (hb : Below w.heap.size w w') : NoPost w' v := by
  rcases h with h | ⟨P, h, hP⟩
  · exact .inl h
  · exact .inr ⟨P, h, (hb.block P (Array.getElem?_eq_some_iff.1 hP).1).trans hP⟩
theorem PostAt.parts {w : World} {P n : Nat} {F : List Nat} {b : Book} (h : PostAt w P F n b) : ∃ K vs, w.heap[P]? = some (.cells #[.pointer (some ⟨K, 0, none⟩), .int .i64 n] 81 (0, 0)) ∧ BookIs w K vs b ∧ F = P :: K :: blks (vs 0) (vs 1) (vs 2) (vs 3) := by
  obtain ⟨K, G, hP, hB, hF⟩ := h
  obtain ⟨vs, hvs, rfl⟩ := bookIs_of hB
  exact ⟨K, vs, hP, hvs, hF⟩
set_option maxHeartbeats 1000000 in
theorem since_post (P n : Nat) (F : List Nat) (b : Book) (s0 s1 s2 s3 : Int) (seen : Nat → Int) (hs : seen 0 = s0 ∧ seen 1 = s1 ∧ seen 2 = s2 ∧ seen 3 = s3) (w : World) (h : PostAt w P F n b) (hok : BookOk b) :
    Calls Tryz.prog 32 #[.pointer (some ⟨P, 0, none⟩), .agg #[.int .i64 s0, .int .i64 s1, .int .i64 s2, .int .i64 s3]] w (SincePost (sinceB b seen) w) := by
  obtain ⟨K, vs, hP, hvs, hF⟩ := h.parts
  have HN := Lib.hid (none_any P K n _ w hP)
  have p0 := heap_cell (j := 0) hP rfl
  have p1 := heap_cell (j := 1) hP rfl
  have HPC := Lib.hid hP
  clear hP
  obtain ⟨o3, ho3⟩ : ∃ o3 : Obj, o3 = .cells #[.int .i64 s0, .int .i64 s1, .int .i64 s2, .int .i64 s3] 34 := ⟨_, rfl⟩
  have hb3 : Below w.heap.size w (w.alloc o3) := (Below.refl _ _).alloc (Nat.le_refl _) _
  have HN3 := Lib.hid (none_any P K n _ (w.alloc o3) ((hb3.block P (h.lt (by rw [hF]; simp))).trans HPC.out))
  have HC := Lib.hid (fun W (hW : Below w.heap.size w W) => since_any K _ b s0 s1 s2 s3 seen hs W (hvs.below hW).at (fun i hi => (hok i hi).len) hok)
  have HB3 := Lib.hid hb3
  have q0 := keep_cell hb3 p0
  have z0 := heap_cell (j := 0) (show (w.alloc o3).heap[w.heap.size]? = some (.cells #[.int .i64 s0, .int .i64 s1, .int .i64 s2, .int .i64 s3] 34 (0, 0)) by rw [World.alloc_heap_new, ho3]) rfl
  have z1 := heap_cell (j := 1) (show (w.alloc o3).heap[w.heap.size]? = some (.cells #[.int .i64 s0, .int .i64 s1, .int .i64 s2, .int .i64 s3] 34 (0, 0)) by rw [World.alloc_heap_new, ho3]) rfl
  have z2 := heap_cell (j := 2) (show (w.alloc o3).heap[w.heap.size]? = some (.cells #[.int .i64 s0, .int .i64 s1, .int .i64 s2, .int .i64 s3] 34 (0, 0)) by rw [World.alloc_heap_new, ho3]) rfl
  have z3 := heap_cell (j := 3) (show (w.alloc o3).heap[w.heap.size]? = some (.cells #[.int .i64 s0, .int .i64 s1, .int .i64 s2, .int .i64 s3] 34 (0, 0)) by rw [World.alloc_heap_new, ho3]) rfl
  have HO3 := Lib.hid ho3
  clear hvs hF h hok hs hb3 ho3
  go_enter Tryz.func32, Tryz.ntmps32
  go_wp2_with fail
  rw [← HO3.out]
  refine HN3.out.mono ?_
  rintro e w' ⟨rfl, rfl⟩
  go_wp2
  go_region_with (go_at_call 63; refine (HC.out _ (belowD HB3.out _)).mono ?_; rintro e w2 ⟨v, rfl, h1, h2, h3⟩; have HX := Lib.hid (And.intro h1 (And.intro h2 h3)); clear h1 h2 h3)
  all_goals go_wp2
  all_goals go_ret
  all_goals exact ⟨v, rfl, HX.out.1, fun k hk => by have := HX.out.2.1 k hk; have := HB3.out.size; simp at *; omega, (belowD HB3.out _).trans (HX.out.2.2.mono (by have := HB3.out.size; simp at *))⟩
theorem allB_since (b : Book) : allB b = sinceB b fun _ => 0 := rfl
set_option maxHeartbeats 400000 in
theorem book_post (P n : Nat) (F : List Nat) (b : Book) (w : World) (h : PostAt w P F n b) (hok : BookOk b) :
    Calls Tryz.prog 25 #[.pointer (some ⟨P, 0, none⟩)] w (SincePost (allB b) w) := by
  have HS := Lib.hid (since_post P n F b 0 0 0 0 (fun _ => 0) ⟨rfl, rfl, rfl, rfl⟩ w h hok)
  rw [allB_since]
  clear h hok
  go_enter Tryz.func25, Tryz.ntmps25
  go_wp2_with fail
  refine HS.out.mono ?_
  rintro e w' ⟨v, rfl, h1, h2, h3⟩
  go_wp2
  go_ret
  exact ⟨v, rfl, h1, h2, h3⟩
end Go.Proofs.YtdfkaijeppdhaaaGreatDoor
/- Contracts of a post's methods: take, Join, Copy. -/
namespace Go.Proofs.YtdfkaijeppdhaaaGreatDoor
open Go.RowKit Go.Shelf
/-- Join: the error, and the book. -/
def joinV (b o : Book) : Int × Book := match joinB b o with
  | some c => (0, c)
  | none => (102, b)
theorem joinV_ok {b o : Book} (hb : BookOk b) (ho : BookOk o) : BookOk (joinV b o).2 := by
  unfold joinV
  cases h : joinB b o with
  | none => exact hb
  | some c => exact joinB_ok hb ho h
/-- What a method hands back that may turn the book. -/
def TurnPost (P n : Nat) (F : List Nat) (r : Int × Book) (w : World) (e : Ending) (w' : World) : Prop :=
  e = .returned (.int .i64 r.1) ∧ ∃ F', PostAt w' P F' n r.2 ∧ NewOr w F F' ∧ Off F w w'
theorem fitL_self (l : List Ent) : fitL l l = true := by
  unfold fitL
  rw [Bool.or_eq_true, decide_eq_true_eq]
  exact .inl (List.prefix_refl _)
theorem joinB_self' {b : Book} : ∃ c, joinB b b = some c ∧ ∀ i, i < 4 → c i = b i :=
  ⟨joinL b b, joinB_of fun i _ => fitL_self (b i), fun i _ => longL_self (List.prefix_refl (b i))⟩
theorem NewBook.parts {w : World} {lo : Nat} {us : Nat → Value} {c : Book} (h : NewBook w lo us c) : ∃ a0 d0 a1 d1 a2 d2 a3 d3, us 0 = .slice a0 (c 0).length d0 ∧ us 1 = .slice a1 (c 1).length d1 ∧ us 2 = .slice a2 (c 2).length d2 ∧ us 3 = .slice a3 (c 3).length d3 := by
  obtain ⟨a0, d0, h0⟩ := own_shape (h.list 0 (by omega))
  obtain ⟨a1, d1, h1⟩ := own_shape (h.list 1 (by omega))
  obtain ⟨a2, d2, h2⟩ := own_shape (h.list 2 (by omega))
  obtain ⟨a3, d3, h3⟩ := own_shape (h.list 3 (by omega))
  exact ⟨a0, d0, a1, d1, a2, d2, a3, d3, h0, h1, h2, h3⟩
theorem set_four {X : World} {N : Nat} {a b c d : Value} {t : TypeId} (h : X.heap[N]? = some (.cells #[a, b, c, d] t (0, 0))) (v0 v1 v2 v3 : Value) :
    ((((X.setCell ⟨N, 0, none⟩ v0).setCell ⟨N, 1, none⟩ v1).setCell ⟨N, 2, none⟩ v2).setCell ⟨N, 3, none⟩ v3).heap[N]? = some (.cells #[v0, v1, v2, v3] t (0, 0)) := by
  have h0 := setCell_four h 0 v0
  simp at h0
  have h1 := setCell_four h0 1 v1
  simp at h1
  have h2 := setCell_four h1 2 v2
  simp at h2
  have h3 := setCell_four h2 3 v3
  simpa using h3
theorem four_other {X : World} {N : Nat} (v0 v1 v2 v3 : Value) {k : Nat} (hk : k ≠ N) :
    ((((X.setCell ⟨N, 0, none⟩ v0).setCell ⟨N, 1, none⟩ v1).setCell ⟨N, 2, none⟩ v2).setCell ⟨N, 3, none⟩ v3).heap[k]? = X.heap[k]? :=
  (Below.heap_setCell _ _ _ k hk).trans ((Below.heap_setCell _ _ _ k hk).trans ((Below.heap_setCell _ _ _ k hk).trans (Below.heap_setCell _ _ _ k hk)))
/-- A new book lies in a block of its own. -/
theorem NewBook.is {w : World} {lo N : Nat} {us : Nat → Value} {c : Book} (h : NewBook w lo us c) (hN : w.heap[N]? = some (.cells #[us 0, us 1, us 2, us 3] 96 (0, 0))) : BookIs w N us c :=
  ⟨hN, h.list, h.apart⟩
/-- The post turns to it. -/
theorem turn_end {w W : World} {P K n N lo : Nat} {F : List Nat} {vs us : Nat → Value} {c : Book} (hP : w.heap[P]? = some (.cells #[.pointer (some ⟨K, 0, none⟩), .int .i64 n] 81 (0, 0))) (hF : F = P :: K :: blks (vs 0) (vs 1) (vs 2) (vs 3))
    (hb : Below w.heap.size w W) (hB : BookIs W N us c) (hN : w.heap.size ≤ N) (hlo : w.heap.size ≤ lo) (hl : ∀ i, i < 4 → ∀ g, (us i).ownBlock = some g → lo ≤ g) :
    ∃ F', PostAt (W.setCell ⟨P, 0, none⟩ (.pointer (some ⟨N, 0, none⟩))) P F' n c ∧ NewOr w F F' ∧ Off F w (W.setCell ⟨P, 0, none⟩ (.pointer (some ⟨N, 0, none⟩))) := by
  have hPlt : P < w.heap.size := (Array.getElem?_eq_some_iff.1 hP).1
  have hPW := (hb.block P hPlt).trans hP
  have hset : ∀ k, k ≠ P → (W.setCell ⟨P, 0, none⟩ (.pointer (some ⟨N, 0, none⟩))).heap[k]? = W.heap[k]? := fun k hk => Below.heap_setCell _ _ _ k hk
  have hPx : (W.setCell ⟨P, 0, none⟩ (.pointer (some ⟨N, 0, none⟩))).heap[P]? = some (.cells #[.pointer (some ⟨N, 0, none⟩), .int .i64 n] 81 (0, 0)) := by
    obtain ⟨hlt, hk⟩ := Array.getElem?_eq_some_iff.1 hPW
    show (W.heap.modify P _)[P]? = _
    rw [Array.getElem?_eq_getElem (by rw [Array.size_modify]; exact hlt), Array.getElem_modify_self, hk]
    simp
  refine ⟨P :: N :: blks (us 0) (us 1) (us 2) (us 3), ⟨N, _, hPx, (hB.keep (hset N (by omega)) fun i hi k hk => hset k (by have := hl i hi k hk; omega)).at, rfl⟩, fun k hk => ?_, ⟨hb.os, hb.tape, hb.output, by rw [World.size_setCell]; exact hb.size, fun k hk hkF => ?_⟩⟩
  · rcases List.mem_cons.1 hk with rfl | hk
    · exact .inl (by rw [hF]; simp)
    · rcases List.mem_cons.1 hk with rfl | hk
      · exact .inr hN
      · obtain ⟨i, hi, h5⟩ := mem_blks.1 hk
        have := hl i hi k h5
        exact .inr (by omega)
  · exact (hset k (fun e => hkF (by rw [hF, e]; simp))).trans (hb.block k hk)
theorem below_four {n N : Nat} {w X : World} (hb : Below n w X) (hN : n ≤ N) (v0 v1 v2 v3 : Value) : Below n w ((((X.setCell ⟨N, 0, none⟩ v0).setCell ⟨N, 1, none⟩ v1).setCell ⟨N, 2, none⟩ v2).setCell ⟨N, 3, none⟩ v3) :=
  (((hb.setCell (p := ⟨N, 0, none⟩) hN _).setCell (p := ⟨N, 1, none⟩) hN _).setCell (p := ⟨N, 2, none⟩) hN _).setCell (p := ⟨N, 3, none⟩) hN _
theorem NewBook.keep {w w' : World} {lo : Nat} {us : Nat → Value} {c : Book} (h : NewBook w lo us c) (hk : ∀ i, i < 4 → ∀ g, (us i).ownBlock = some g → w'.heap[g]? = w.heap[g]?) : NewBook w' lo us c :=
  ⟨fun i hi => (h.list i hi).keep (hk i hi), h.low, h.apart⟩
/-- The cells of the new variable. -/
theorem var_cells {w2 : World} {N : Nat} {t : TypeId} (h : w2.heap[N]? = some (.cells #[.slice none 0 0, .slice none 0 0, .slice none 0 0, .slice none 0 0] t (0, 0))) : (∀ j, j < 4 → w2.cell? ⟨N, j, none⟩ = some (.slice none 0 0)) ∧ ∀ j, w2.frozen? ⟨N, j, none⟩ = false := by
  refine ⟨fun j hj => ?_, fun j => by simp [World.frozen?, h]⟩
  rcases (show j = 0 ∨ j = 1 ∨ j = 2 ∨ j = 3 by omega) with rfl | rfl | rfl | rfl <;> exact heap_cell h rfl
set_option maxRecDepth 100000 in
set_option maxHeartbeats 4000000 in
theorem take_any (P n : Nat) (F : List Nat) (b : Book) (K2 : Nat) (vs2 : Nat → Value) (b2 : Book) (w : World) (h : PostAt w P F n b) (h2 : BookIs w K2 vs2 b2) (hok : BookOk b) (hok2 : BookOk b2) :
    Calls Tryz.prog 52 #[.pointer (some ⟨P, 0, none⟩), .pointer (some ⟨K2, 0, none⟩)] w (TurnPost P n F (joinV b b2) w) := by
  have HP := Lib.hid h
  obtain ⟨K, vs, hP, hvs, hF⟩ := h.parts
  have HJ := Lib.hid (fun W (hW : KB w W) => joined_any K K2 vs vs2 b b2 W (hvs.below hW) (h2.below hW) (fun i hi => (hok i hi).len) (fun i hi => (hok2 i hi).len))
  have HPC := Lib.hid hP
  have HF := Lib.hid hF
  have r0 := heap_cell (j := 0) hP rfl
  clear h hvs h2 hok hok2 hF hP
  unfold joinV
  unfold JoinPost at HJ
  cases hj : joinB b b2 with
  | none =>
    rw [hj] at HJ
    simp only at HJ
    clear hj
    go_enter Tryz.func52, Tryz.ntmps52
    go_wp2_with fail
    refine (HJ.out _ (KB.refl _)).mono ?_
    rintro e w2 ⟨rfl, hb2⟩
    unfold aggV
    have HB2 := Lib.hid hb2
    clear hb2
    go_wp2
    go_ret
    have hb : Below w.heap.size w (w2.alloc (.cells #[.slice none 0 0, .slice none 0 0, .slice none 0 0, .slice none 0 0] 96)) := HB2.out.alloc HB2.out.size _
    exact ⟨rfl, F, HP.out.below hb, newOr_refl _ _, Off.of_below hb⟩
  | some c =>
    rw [hj] at HJ
    simp only at HJ
    clear hj
    go_enter Tryz.func52, Tryz.ntmps52
    go_wp2_with fail
    refine (HJ.out _ (KB.refl _)).mono ?_
    rintro e w2 ⟨⟨us, rfl, hnb⟩, hb2⟩
    obtain ⟨a0, d0, a1, d1, a2, d2, a3, d3, f0, f1, f2, f3⟩ := hnb.parts
    unfold aggV
    rw [f0, f1, f2, f3]
    have HU := Lib.hid (And.intro f0 (And.intro f1 (And.intro f2 f3)))
    have HB2 := Lib.hid hb2
    have HNB := Lib.hid hnb
    clear f0 f1 f2 f3 hb2 hnb
    obtain ⟨W, hW⟩ : ∃ W, W = w2.alloc (.cells #[.slice a0 (c 0).length d0, .slice a1 (c 1).length d1, .slice a2 (c 2).length d2, .slice a3 (c 3).length d3] 96) := ⟨_, rfl⟩
    have hb : Below w.heap.size w W := by rw [hW]; exact HB2.out.alloc HB2.out.size _
    have hNW : W.heap[w2.heap.size]? = some (.cells #[us 0, us 1, us 2, us 3] 96 (0, 0)) := by
      rw [hW, HU.out.1, HU.out.2.1, HU.out.2.2.1, HU.out.2.2.2]; exact World.alloc_heap_new w2 _
    have hBI : BookIs W w2.heap.size us c := NewBook.is (HNB.out.keep fun i hi g hg => by
      have hg2 := (HNB.out.list i hi).lt hg
      rw [hW]; exact Below.heap_alloc _ _ _ hg2) hNW
    have HE := Lib.hid (turn_end (us := us) HPC.out HF.out hb hBI HB2.out.size (Nat.le_refl _) HNB.out.low)
    have HPW := Lib.hid ((hb.block P (Array.getElem?_eq_some_iff.1 HPC.out).1).trans HPC.out)
    have y0 := heap_cell (j := 0) HPW.out rfl
    have yf : W.frozen? ⟨P, 0, none⟩ = false := by have h9 := HPW.out; simp [World.frozen?, h9]
    rw [hW] at y0 yf HE
    clear hW hb hNW hBI r0 HPW
    go_wp2
    go_ret
    exact ⟨rfl, HE.out⟩

set_option maxHeartbeats 1000000 in
theorem join_post (P n : Nat) (F : List Nat) (b : Book) (P2 n2 : Nat) (F2 : List Nat) (b2 : Book) (w : World) (h : PostAt w P F n b) (h2 : PostAt w P2 F2 n2 b2) (hok : BookOk b) (hok2 : BookOk b2) :
    Calls Tryz.prog 22 #[.pointer (some ⟨P, 0, none⟩), .pointer (some ⟨P2, 0, none⟩)] w (TurnPost P n F (joinV b b2) w) := by
  obtain ⟨K2, vs2, hP2, hvs2, hF2⟩ := h2.parts
  obtain ⟨K, vs, hP, hvs, hF⟩ := h.parts
  have HN := Lib.hid (none_any P K n _ w hP)
  have HN2 := Lib.hid (none_any P2 K2 n2 _ w hP2)
  have HT := Lib.hid (take_any P n F b K2 vs2 b2 w h hvs2 hok hok2)
  have p0 := heap_cell (j := 0) hP2 rfl
  clear h h2 hP hP2 hvs hvs2 hF hF2 hok hok2
  go_enter Tryz.func22, Tryz.ntmps22
  go_wp2_with fail
  refine HN.out.mono ?_
  rintro e w' ⟨rfl, rfl⟩
  go_wp2_with fail
  refine HN2.out.mono ?_
  rintro e w' ⟨rfl, rfl⟩
  go_wp2_with fail
  refine HT.out.mono ?_
  rintro e w' ⟨rfl, h⟩
  go_wp2
  go_ret
  exact ⟨rfl, h⟩
end Go.Proofs.YtdfkaijeppdhaaaGreatDoor
/- Contracts of a post's methods: Copy, Seen. -/
namespace Go.Proofs.YtdfkaijeppdhaaaGreatDoor
open Go.RowKit Go.Shelf
/-- A copy: on new blocks. -/
def CopyPost (n : Nat) (b : Book) (w : World) (e : Ending) (w' : World) : Prop :=
  ∃ P' F', e = .returned (.pointer (some ⟨P', 0, none⟩)) ∧ PostAt w' P' F' n b ∧ NewOr w [] F' ∧ Below w.heap.size w w'
theorem ListAt.same {w : World} {v : Value} {l m : List Ent} (h : ListAt w v l) (e : l = m) : ListAt w v m := e ▸ h
theorem BookIs.same {w : World} {K : Nat} {vs : Nat → Value} {b c : Book} (h : BookIs w K vs b) (e : ∀ i, i < 4 → b i = c i) : BookIs w K vs c := ⟨h.cells, fun i hi => (h.list i hi).same (e i hi), h.apart⟩
theorem copy_end {w W : World} {n N lo : Nat} {us : Nat → Value} {c b : Book} (hb : Below w.heap.size w W) (hB : BookIs W N us c) (hcb : ∀ i, i < 4 → c i = b i) (hN : w.heap.size ≤ N) (hlo : w.heap.size ≤ lo) (hl : ∀ i, i < 4 → ∀ g, (us i).ownBlock = some g → lo ≤ g) :
    CopyPost n b w (.returned (.pointer (some ⟨W.heap.size, 0, none⟩))) (W.alloc (.cells #[.pointer (some ⟨N, 0, none⟩), .int .i64 n] 81)) := by
  have hsz := hb.size
  refine ⟨W.heap.size, W.heap.size :: N :: blks (us 0) (us 1) (us 2) (us 3), rfl, ⟨N, _, World.alloc_heap_new W _, ((hB.below ((Below.refl _ _).alloc (Nat.le_refl _) _)).same hcb).at, rfl⟩, fun k hk => .inr ?_, hb.alloc hsz _⟩
  rcases List.mem_cons.1 hk with rfl | hk
  · exact hsz
  · rcases List.mem_cons.1 hk with rfl | hk
    · exact hN
    · obtain ⟨i, hi, h5⟩ := mem_blks.1 hk
      have := hl i hi k h5
      omega
set_option maxRecDepth 100000 in
set_option maxHeartbeats 4000000 in
theorem copy_post (P n : Nat) (F : List Nat) (b : Book) (w : World) (h : PostAt w P F n b) (hok : BookOk b) :
    Calls Tryz.prog 35 #[.pointer (some ⟨P, 0, none⟩)] w (CopyPost n b w) := by
  obtain ⟨K, vs, hP, hvs, hF⟩ := h.parts
  have HN := Lib.hid (none_any P K n _ w hP)
  have HJ := Lib.hid (fun W (hW : KB w W) => joined_any K K vs vs b b W (hvs.below hW) (hvs.below hW) (fun i hi => (hok i hi).len) (fun i hi => (hok i hi).len))
  have HPC := Lib.hid hP
  have r0 : ∀ W, KB w W → W.cell? ⟨P, 0, none⟩ = some (.pointer (some ⟨K, 0, none⟩)) := fun W hW => keep_cell hW (heap_cell hP rfl)
  have r1 : ∀ W, KB w W → W.cell? ⟨P, 1, none⟩ = some (.int .i64 (n : Int)) := fun W hW => keep_cell hW (heap_cell hP rfl)
  clear h hvs hok hF hP
  unfold JoinPost at HJ
  obtain ⟨c, hj, hcb⟩ := joinB_self' (b := b)
  rw [hj] at HJ
  simp only at HJ
  have HCB := Lib.hid hcb
  clear hj hcb
  go_enter Tryz.func35, Tryz.ntmps35
  go_wp2_with fail
  refine HN.out.mono ?_
  rintro e w' ⟨rfl, rfl⟩
  go_wp2
  go_region_held3 (fun W => KB w W) (first | exact KB.refl _ | exact KB.drew (KB.refl _) | assumption | exact KB.drew (by assumption) | (unfold KB at *; repeat (first | assumption | exact Below.refl _ _ | refine Below.setCell ?_ (by first | omega | (simp; done) | (simp; omega)) _ | refine Below.drew ?_ | refine Below.alloc ?_ (by first | omega | (simp; done) | (simp; omega)) _)) | fail) (first
    | (go_at_call 65; refine (HJ.out _ (by first | exact KB.refl _ | exact KB.drew (KB.refl _) | assumption | (unfold KB; exact (Below.refl _ _).alloc (Nat.le_refl _) _) | (unfold KB; exact ((Below.refl _ _).alloc (Nat.le_refl _) _).drew))).mono ?_; rintro e w2 ⟨⟨us, rfl, hnb⟩, hb2⟩; obtain ⟨a0, d0, a1, d1, a2, d2, a3, d3, f0, f1, f2, f3⟩ := hnb.parts; unfold aggV; rw [f0, f1, f2, f3]; have HU := Lib.hid (And.intro f0 (And.intro f1 (And.intro f2 f3))); clear f0 f1 f2 f3; have hk2 := KB.call (w := w) (by first | exact KB.refl _ | exact KB.drew (KB.refl _) | assumption | (unfold KB; exact (Below.refl _ _).alloc (Nat.le_refl _) _) | (unfold KB; exact ((Below.refl _ _).alloc (Nat.le_refl _) _).drew)) hb2; have hsz2 : w.heap.size ≤ w2.heap.size := hk2.size; first | (have hqq := (hb2.block w.heap.size (by simp)).trans (World.alloc_heap_new w (.cells #[.slice none 0 0, .slice none 0 0, .slice none 0 0, .slice none 0 0] 96)); have hq := var_cells hqq; have q0 := hq.1 0 (by omega); have q1 := hq.1 1 (by omega); have q2 := hq.1 2 (by omega); have q3 := hq.1 3 (by omega); have qf := hq.2) | skip)
    | fail)
  · have hbW : KB w (w2.alloc (.cells #[.slice a0 (c 0).length d0, .slice a1 (c 1).length d1, .slice a2 (c 2).length d2, .slice a3 (c 3).length d3] 96)) := KB.alloc hk2 _
    have y1 := r1 _ hbW
    have HE := Lib.hid (copy_end (n := n) (us := us) hbW (NewBook.is (c := c) (hnb.keep fun i hi g hg => Below.heap_alloc _ _ _ ((hnb.list i hi).lt hg)) (by rw [HU.out.1, HU.out.2.1, HU.out.2.2.1, HU.out.2.2.2]; exact World.alloc_heap_new w2 _)) HCB.out hsz2 (Nat.le_refl _) hnb.low)
    rw [World.size_alloc] at HE
    clear hbW hnb r0 r1
    go_wp2
    go_ret
    exact HE.out
  · have hbW : KB w ((((w2.setCell ⟨w.heap.size, 0, none⟩ (.slice a0 (c 0).length d0)).setCell ⟨w.heap.size, 1, none⟩ (.slice a1 (c 1).length d1)).setCell ⟨w.heap.size, 2, none⟩ (.slice a2 (c 2).length d2)).setCell ⟨w.heap.size, 3, none⟩ (.slice a3 (c 3).length d3)) := below_four hk2 (Nat.le_refl _) _ _ _ _
    have y1 := r1 _ hbW
    have HE := Lib.hid (copy_end (n := n) (us := us) hbW (NewBook.is (c := c) (hnb.keep fun i hi g hg => four_other _ _ _ _ (by have := hnb.low i hi g hg; simp at this; omega)) (by rw [HU.out.1, HU.out.2.1, HU.out.2.2.1, HU.out.2.2.2]; exact set_four hqq _ _ _ _)) HCB.out (Nat.le_refl _) (Nat.le_refl _) (fun i hi g hg => by have := hnb.low i hi g hg; simp at this; omega))
    rw [World.size_setCell, World.size_setCell, World.size_setCell, World.size_setCell] at HE
    clear hbW hnb r0 r1 hqq hq q0 q1 q2 q3 qf
    go_wp2
    go_ret
    exact HE.out

def SeenPost (b : Book) (w : World) (e : Ending) (w' : World) : Prop :=
  e = .returned (.agg #[.int .i64 ((b 0).length : Int), .int .i64 ((b 1).length : Int), .int .i64 ((b 2).length : Int), .int .i64 ((b 3).length : Int)]) ∧ Below w.heap.size w w'
def seenTo (b : Book) (k j : Nat) : Value := .int .i64 (if j < k then ((b j).length : Int) else 0)
structure SeenAt (b : Book) (w : World) (k : Nat) (wr : World) : Prop where
  cells : wr.heap[w.heap.size + 1]? = some (.cells #[seenTo b k 0, seenTo b k 1, seenTo b k 2, seenTo b k 3] 34 (0, 0))
  res : wr.heap[w.heap.size]? = some (.cells #[.int .i64 0, .int .i64 0, .int .i64 0, .int .i64 0] 34 (0, 0))
  below : Below w.heap.size w wr
theorem SeenAt.next {b : Book} {w wr : World} {k : Nat} (h : SeenAt b w k wr) (hk : k < 4) : SeenAt b w (k + 1) (wr.setCell ⟨w.heap.size + 1, k, none⟩ (.int .i64 ((b k).length : Int))) := by
  refine ⟨?_, (Below.heap_setCell _ _ _ _ (by simp)).trans h.res, h.below.setCell (p := ⟨w.heap.size + 1, k, none⟩) (by simp) _⟩
  rw [setCell_four h.cells]
  unfold seenTo
  rcases (show k = 0 ∨ k = 1 ∨ k = 2 ∨ k = 3 by omega) with rfl | rfl | rfl | rfl <;> simp
set_option maxRecDepth 100000 in
set_option maxHeartbeats 4000000 in
theorem seen_post (P n : Nat) (F : List Nat) (b : Book) (w : World) (h : PostAt w P F n b) (hok : BookOk b) :
    Calls Tryz.prog 21 #[.pointer (some ⟨P, 0, none⟩)] w (SeenPost b w) := by
  obtain ⟨K, vs, hP, hvs, hF⟩ := h.parts
  have HS := Lib.hid hvs
  have HPC := Lib.hid hP
  have HOK := Lib.hid (fun i hi => (hok i hi).len)
  clear h hP hvs hF hok
  obtain ⟨w2, hw2⟩ : ∃ w2, w2 = (w.alloc (.cells #[.int .i64 0, .int .i64 0, .int .i64 0, .int .i64 0] 34)).alloc (.cells #[.int .i64 0, .int .i64 0, .int .i64 0, .int .i64 0] 34) := ⟨_, rfl⟩
  have H2 : Hid (SeenAt b w 0 w2) := Lib.hid (by
    refine ⟨?_, ?_, by rw [hw2]; exact ((Below.refl _ w).alloc (Nat.le_refl _) _).alloc (by simp) _⟩
    · have := World.alloc_heap_new (w.alloc (.cells #[.int .i64 0, .int .i64 0, .int .i64 0, .int .i64 0] 34)) (.cells #[.int .i64 0, .int .i64 0, .int .i64 0, .int .i64 0] 34)
      rw [World.size_alloc] at this
      rw [hw2]; exact this
    · rw [hw2]; exact (Below.heap_alloc _ _ _ (by simp)).trans (World.alloc_heap_new w _))
  have HW2 := Lib.hid hw2
  clear hw2
  go_enter Tryz.func21, Tryz.ntmps21
  go_wp2_with fail
  rw [← HW2.out]
  go_loopw [5] (fun i wr => ∃ k : Nat, k ≤ 4 ∧ i = .int .i64 k ∧ Hid (SeenAt b w k wr)) (fun i _ => 4 - (intOf i).toNat)
  case atStart => exact ⟨0, Nat.zero_le _, rfl, H2⟩
  case round =>
    obtain ⟨k, hk, rfl, ho⟩ := hrel
    by_cases hlt : k < 4
    · have hlt2 : (k : Int) < 4 := by omega
      have hge : (0 : Int) ≤ (k : Int) := by omega
      have S1 := Lib.hid (HS.out.below ho.out.below)
      have P1 := Lib.hid ((ho.out.below.block P (Array.getElem?_eq_some_iff.1 HPC.out).1).trans HPC.out)
      have HN := Lib.hid (none_any P K n _ wr P1.out)
      obtain ⟨a1, c1, e1⟩ := S1.out.slice hlt
      have q1 := S1.out.cell hlt
      rw [e1] at q1
      have hlen := HOK.out k hlt
      have HNX := Lib.hid (ho.out.next hlt)
      have p0 := heap_cell (j := 0) P1.out rfl
      have x0 : ∃ u, wr.cell? ⟨w.heap.size + 1, k, none⟩ = some u := by
        rcases (show k = 0 ∨ k = 1 ∨ k = 2 ∨ k = 3 by omega) with rfl | rfl | rfl | rfl <;> exact ⟨_, heap_cell ho.out.cells rfl⟩
      obtain ⟨u4, hu4⟩ := x0
      have g0 : wr.frozen? ⟨w.heap.size + 1, k, none⟩ = false := by have h9 := ho.out.cells; simp [World.frozen?, h9]
      clear e1
      generalize (b k).length = bl at *
      go_wp2_with fail
      refine HN.out.mono ?_
      rintro e w3 ⟨rfl, rfl⟩
      go_wp2
      go_roundw
      case rel => exact ⟨k + 1, by omega, by go_num, HNX⟩
      case measure => simp [intOf]; omega
    · have e : k = 4 := by omega
      subst e
      have r0 := heap_cell (j := 0) ho.out.res rfl
      have r1 := heap_cell (j := 1) ho.out.res rfl
      have r2 := heap_cell (j := 2) ho.out.res rfl
      have r3 := heap_cell (j := 3) ho.out.res rfl
      have g0 : ∀ j, wr.frozen? ⟨w.heap.size, j, none⟩ = false := fun j => by have h9 := ho.out.res; simp [World.frozen?, h9]
      have y0 : wr.cell? ⟨w.heap.size + 1, 0, none⟩ = some (.int .i64 ((b 0).length : Int)) := heap_cell (j := 0) ho.out.cells rfl
      have y1 : wr.cell? ⟨w.heap.size + 1, 1, none⟩ = some (.int .i64 ((b 1).length : Int)) := heap_cell (j := 1) ho.out.cells rfl
      have y2 : wr.cell? ⟨w.heap.size + 1, 2, none⟩ = some (.int .i64 ((b 2).length : Int)) := heap_cell (j := 2) ho.out.cells rfl
      have y3 : wr.cell? ⟨w.heap.size + 1, 3, none⟩ = some (.int .i64 ((b 3).length : Int)) := heap_cell (j := 3) ho.out.cells rfl
      go_wp2
      refine bodyPost_ret (v := .agg #[.int .i64 ((b 0).length : Int), .int .i64 ((b 1).length : Int), .int .i64 ((b 2).length : Int), .int .i64 ((b 3).length : Int)]) (by simp [results, Tryz.results21, go_sem, r0, r1, r2, r3]) rfl ⟨rfl, ?_⟩
      exact below_four ho.out.below (Nat.le_refl _) _ _ _ _
end Go.Proofs.YtdfkaijeppdhaaaGreatDoor

/- Texts of this claim, laid together: Fd, Fe, Ff. -/

/- Contracts: writing into a strings.Builder; the text of a book. -/
namespace Go.Proofs.YtdfkaijeppdhaaaGreatDoor
open Go.RowKit Go.Shelf
def ren167 : Go.Shelf.Ren := ⟨fun | 167 => 92 | 240 => 120 | 276 => 153 | n => n, fun | 31 => 22 | 9 => 9 | 3 => 3 | 4 => 4 | 0 => 0 | 20 => 20 | 72 => 151 | 76 => 154 | 70 => 149 | 37 => 65 | 75 => 153 | 127 => 186 | 164 => 217 | 5 => 5 | 80 => 55 | n => n, fun | n => n⟩
theorem lays167 : Go.Proofs.Lays.n167 Tryz.prog ren167 := {
  mixed := Tryz.lays156.mixed
  f167 := Tryz.func92.trans (congrArg some (by kernel_rfl))
  f240 := Tryz.func120.trans (congrArg some (by kernel_rfl))
  f276 := Tryz.func153.trans (congrArg some (by kernel_rfl))
  t0 := Tryz.lays156.t0
  a0 := Tryz.lays156.a0
  z0 := Tryz.lays156.z0
  v0 := Tryz.lays156.v0
  t4 := Tryz.lays156.t4
  a4 := Tryz.lays156.a4
  z4 := Tryz.lays156.z4
  v4 := Tryz.lays156.v4
  t5 := Tryz.underlying5
  a5 := Tryz.isAgg5
  z5 := Tryz.sizeOf5
  v5 := Tryz.zeroValue5
  t9 := Tryz.lays156.t9
  a9 := Tryz.lays156.a9
  z9 := Tryz.lays156.z9
  v9 := Tryz.lays156.v9
  t20 := Tryz.lays156.t20
  a20 := Tryz.lays156.a20
  z20 := Tryz.lays156.z20
  v20 := Tryz.lays156.v20
  t37 := Tryz.lays156.t37
  a37 := Tryz.lays156.a37
  z37 := Tryz.lays156.z37
  v37 := Tryz.lays156.v37
  t70 := Tryz.lays156.t70
  a70 := Tryz.lays156.a70
  z70 := Tryz.lays156.z70
  v70 := Tryz.lays156.v70
  t72 := Tryz.lays156.t72
  a72 := Tryz.lays156.a72
  z72 := Tryz.lays156.z72
  v72 := Tryz.lays156.v72
  t75 := Tryz.lays156.t75
  a75 := Tryz.lays156.a75
  z75 := Tryz.lays156.z75
  v75 := Tryz.lays156.v75
  t164 := Tryz.lays156.t164
  a164 := Tryz.lays156.a164
  z164 := Tryz.lays156.z164
  v164 := Tryz.lays156.v164 }
theorem extra167 : Builder.Extra Tryz.prog ren167 := {
  sizeBuilder := by kernel_rfl
  liesBuilder := by kernel_rfl
  t5 := Tryz.underlying5
  a5 := Tryz.isAgg5
  z5 := Tryz.sizeOf5
  v5 := Tryz.zeroValue5
  infoByte := by kernel_rfl
  cellsByte := by kernel_rfl
  sizeByte := by kernel_rfl
  neB5 := by decide }
/-- A builder that holds l. -/
def Bld (b : Nat) (l : List UInt8) (w : World) : Prop := Lib.IsBuilderF 151 5 b b (Lib.byteCells l) w
theorem Bld.lt {b : Nat} {l : List UInt8} {w : World} (h : Bld b l w) : b < w.heap.size := by rcases h with h | h <;> exact h.lt
theorem byteCells_append (l m : List UInt8) : Lib.byteCells (l ++ m) = Lib.byteCells l ++ Lib.byteCells m := by simp [Lib.byteCells]
theorem Bld.new (w : World) : Bld w.heap.size [] (w.alloc (.cells #[.pointer none, .slice none 0 0] 151)) := Lib.IsBuilderF.of (Lib.fresh_isBuilder 151 5 w)
theorem Bld.alloc {b : Nat} {l : List UInt8} {w : World} (h : Bld b l w) (o : Obj) : Bld b l (w.alloc o) := by
  rcases h with h | h
  · exact .inl (h.alloc o)
  · exact .inr (h.alloc o)
theorem Bld.drewN {b : Nat} {l : List UInt8} {w : World} (h : Bld b l w) (k : Nat) : Bld b l (w.drewN k) := h
theorem BuilderAtF_kept {T e : TypeId} {B b : Nat} {p : Value} {bs : List Value} {w w' : World} (h : Lib.BuilderAtF T e B b p bs w) (hb : Below w.heap.size w w') : Lib.BuilderAtF T e B b p bs w' := by
  have hlt := h.lt
  obtain ⟨hB, v, hbk, hown, hne⟩ := h
  refine ⟨hB, v, (hb.block b hlt).trans hbk, hown.kept (row := none) ⟨hb.os, hb.tape, hb.output, hb.size, fun k hk _ => hb.block k hk⟩ (by cases v.ownBlock <;> simp), hne⟩
theorem Bld.below {b : Nat} {l : List UInt8} {w w' : World} (h : Bld b l w) (hb : Below w.heap.size w w') : Bld b l w' := by
  rcases h with h | h
  · exact .inl (BuilderAtF_kept h hb)
  · exact .inr (BuilderAtF_kept h hb)
/-- What a write leaves. -/
structure Wrote (b : Nat) (l : List UInt8) (w w' : World) : Prop where
  bld : Bld b l w'
  below : Below b w w'
  kept : Lib.OthersKept 5 (some b) w w'
theorem ws_any (b : Nat) (l : List UInt8) (s : ByteArray) (w : World) (h : Bld b l w) (hl : l.length + s.size ≤ 1000000) :
    Calls Tryz.prog 91 #[.pointer (some ⟨b, 0, none⟩), .string s] w fun e w' => e = .returned (.tuple #[.int .i64 s.size, .nilIface]) ∧ Wrote b (l ++ s.data.toList) w w' := by
  refine (Any.Builder_WriteString_k { Tryz.lays156 with } Tryz.Builder_Extra_156 b b (Lib.byteCells l) s w h (by rw [Lib.byteCells_length]; omega) (Nat.le_of_lt h.lt)).mono ?_
  rintro e w' ⟨rfl, h1, h2, h3⟩
  exact ⟨rfl, .inr (by rw [byteCells_append]; exact h1), h2, h3⟩
theorem wb_any (b : Nat) (l : List UInt8) (c : UInt8) (w : World) (h : Bld b l w) (hl : l.length + 1 ≤ 1000000) :
    Calls Tryz.prog 92 #[.pointer (some ⟨b, 0, none⟩), .int .u8 (c.toNat : Int)] w fun e w' => e = .returned .nilIface ∧ Wrote b (l ++ [c]) w w' := by
  refine (Any.Builder_WriteByte_k lays167 extra167 b b (Lib.byteCells l) (c.toNat : Int) w h (by rw [Lib.byteCells_length]; omega) (Nat.le_of_lt h.lt)).mono ?_
  rintro e w' ⟨rfl, h1, h2, h3⟩
  exact ⟨rfl, .inr (by rw [byteCells_append]; exact h1), h2, h3⟩
theorem bs_any (b : Nat) (l : List UInt8) (w : World) (h : Bld b l w) :
    Calls Tryz.prog 93 #[.pointer (some ⟨b, 0, none⟩)] w fun e w' => e = .returned (.string ⟨l.toArray⟩) ∧ Below b w w' := by
  refine (Any.Builder_String_any_f Tryz.lays169 Tryz.Builder_Extra_169 b b l w h (Nat.le_of_lt h.lt)).mono ?_
  rintro e w' ⟨rfl, _, h2⟩
  exact ⟨rfl, h2⟩
end Go.Proofs.YtdfkaijeppdhaaaGreatDoor
/- Contracts: the text of a book. -/
namespace Go.Proofs.YtdfkaijeppdhaaaGreatDoor
open Go.RowKit Go.Shelf
def numE (e : Ent) : List Int := [ePost e, eNum e, eCnt e]
def numsT (e : Ent) (j : Nat) : List UInt8 := ((numE e).take j).flatMap fun n => Lib.itoa n ++ [32]
theorem numsT_next (e : Ent) {j : Nat} (h : j < 3) : numsT e (j + 1) = numsT e j ++ (Lib.itoa ((numE e).getD j 0) ++ [32]) := by
  unfold numsT numE
  rcases (show j = 0 ∨ j = 1 ∨ j = 2 by omega) with rfl | rfl | rfl <;> simp
theorem lineT_nums (e : Ent) : lineT e = numsT e 3 ++ ((eLine e).data.toList ++ [10]) := by
  unfold lineT numsT numE
  simp
theorem textL_take {l : List Ent} {k : Nat} (h : k < l.length) : textL (l.take (k + 1)) = textL (l.take k) ++ lineT (l.getD k noE) := by
  unfold textL
  rw [List.take_add_one, List.flatMap_append, List.getElem?_eq_getElem h, List.getD_eq_getElem?_getD, List.getElem?_eq_getElem h]
  simp
theorem itoa_short {n : Int} (h0 : 0 ≤ n) (h1 : n ≤ 1000000) : (Lib.itoa n).length ≤ 11 := itoa_len (by omega) (by omega)
theorem num_bounds {e : Ent} (h : (0 ≤ ePost e ∧ ePost e ≤ 3) ∧ (1 ≤ eNum e ∧ eNum e ≤ 60) ∧ (1 ≤ eCnt e ∧ eCnt e ≤ 1000000)) {j : Nat} (hj : j < 3) : 0 ≤ (numE e).getD j 0 ∧ (numE e).getD j 0 ≤ 1000000 := by
  unfold numE
  rcases (show j = 0 ∨ j = 1 ∨ j = 2 by omega) with rfl | rfl | rfl <;> simp <;> omega
theorem numsT_len {e : Ent} (h : (0 ≤ ePost e ∧ ePost e ≤ 3) ∧ (1 ≤ eNum e ∧ eNum e ≤ 60) ∧ (1 ≤ eCnt e ∧ eCnt e ≤ 1000000)) : ∀ j, j ≤ 3 → (numsT e j).length ≤ 12 * j
  | 0, _ => by simp [numsT]
  | j + 1, hj => by
    have h1 := numsT_len h j (by omega)
    have h2 := num_bounds h (j := j) (by omega)
    have h3 := itoa_short h2.1 h2.2
    rw [numsT_next e (by omega)]
    simp only [List.length_append, List.length_singleton]
    omega
theorem textL_len {l : List Ent} (h : ∀ e ∈ l, (lineT e).length ≤ 200) : (textL l).length ≤ 200 * l.length := by
  induction l with
  | nil => simp [textL]
  | cons e l ih =>
    have h1 := ih fun x hx => h x (by simp [hx])
    have h2 := h e (by simp)
    show (lineT e ++ textL l).length ≤ _
    rw [List.length_append, List.length_cons]
    omega
theorem line_small {e : Ent} (h : lineB (eLine e) = true) : (eLine e).data.toList.length ≤ 60 := by
  rw [lineB_is, isLineB_iff, ba_size] at h
  exact h.1
theorem lineT_small {e : Ent} (h : (0 ≤ ePost e ∧ ePost e ≤ 3) ∧ (1 ≤ eNum e ∧ eNum e ≤ 60) ∧ (1 ≤ eCnt e ∧ eCnt e ≤ 1000000)) (hl : lineB (eLine e) = true) : (lineT e).length ≤ 200 := by
  have h1 := numsT_len h 3 (by omega)
  have h2 := line_small hl
  rw [lineT_nums, List.length_append, List.length_append, List.length_singleton]
  omega
theorem Lib_kept_cells {b k : Nat} {w w' : World} {cs : Array Value} {t : TypeId} {fr : Nat × Nat} (h : Lib.OthersKept 5 (some b) w w') (hk : w.heap[k]? = some (.cells cs t fr)) (hb : k ≠ b) (ht : t ≠ 5) : w'.heap[k]? = some (.cells cs t fr) :=
  h k _ hk (fun e => hb (by injection e)) (fun c fz e => ht (by injection e))
theorem kept_of_below {b : Nat} {w w' : World} (h : Below w.heap.size w w') : Lib.OthersKept 5 (some b) w w' := fun k _ hk _ _ => (h.block k (Array.getElem?_eq_some_iff.1 hk).1).trans hk
/-- The cells of a list stay when a builder is written. -/
theorem ListAt.cellsK {w : World} {v : Value} {l : List Ent} (h : ListAt w v l) (h0 : 0 < l.length) : ∃ g cap cur, v = .slice (some ⟨g, 0, none⟩) l.length cap ∧ w.heap[g]? = some (.cells cur 43 (0, 0)) ∧
    ∀ W : World, W.heap[g]? = some (.cells cur 43 (0, 0)) → ListAt W v l := by
  rcases h.2 with ⟨_, h1⟩ | ⟨g, cap, cur, rfl, h2, h3, h4⟩
  · omega
  · exact ⟨g, cap, cur, rfl, h3, fun W hW => ⟨h.1, .inr ⟨g, cap, cur, rfl, h2, hW, h4⟩⟩⟩
theorem Wrote.trans {b : Nat} {l l' : List UInt8} {a c d : World} (h : Wrote b l a c) (k : Wrote b l' c d) : Wrote b l' a d := ⟨k.bld, h.below.trans k.below, h.kept.trans k.kept⟩
theorem Wrote.more {b : Nat} {l : List UInt8} {a c d : World} (h : Wrote b l a c) (k : Below c.heap.size c d) : Wrote b l a d := ⟨h.bld.below k, h.below.trans (k.mono (Nat.le_of_lt h.bld.lt)), h.kept.trans (kept_of_below k)⟩
theorem Wrote.refl {b : Nat} {l : List UInt8} {w : World} (h : Bld b l w) : Wrote b l w w := ⟨h, Below.refl _ _, Lib.OthersKept.refl _ _ _⟩
theorem Wrote.same {b : Nat} {l l' : List UInt8} {a c : World} (h : Wrote b l a c) (e : l = l') : Wrote b l' a c := e ▸ h
set_option maxRecDepth 100000 in
set_option maxHeartbeats 8000000 in
theorem text_any (K : Nat) (F : List Nat) (b : Book) (w : World) (h : BookAt w K F b) (hok : BookOk b) (hV : Vars w) :
    Calls Tryz.prog 62 #[.pointer (some ⟨K, 0, none⟩)] w fun e w' => e = .returned (.string (textB b)) ∧ Below w.heap.size w w' := by
  have hb1 : Below w.heap.size w (w.alloc (.cells #[.pointer none, .slice none 0 0] 151)) := (Below.refl _ _).alloc (Nat.le_refl _) _
  have HA := Lib.hid (all_any K F b _ (h.keep (w' := w.alloc (.cells #[.pointer none, .slice none 0 0] 151)) fun k hk => hb1.block k (by
    rcases hk with rfl | hk
    · obtain ⟨_, _, _, _, hK, _⟩ := h; exact (Array.getElem?_eq_some_iff.1 hK).1
    · exact h.lt hk)) hok)
  have HB1 := Lib.hid hb1
  have HV := Lib.hid hV
  have HBD := Lib.hid (fun e (he : e ∈ allB b) => book_bounds hok he)
  have HT : Hid (textB b = ⟨(textL (allB b)).toArray⟩) := Lib.hid rfl
  have hlen : (allB b).length ≤ 240 := by
    rw [allB_len]
    unfold lenB
    have h0 := (hok 0 (by omega)).len
    have h1 := (hok 1 (by omega)).len
    have h2 := (hok 2 (by omega)).len
    have h3 := (hok 3 (by omega)).len
    omega
  clear h hok hV hb1
  generalize allB b = l at *
  rw [HT.out]
  clear HT
  go_enter Tryz.func62, Tryz.ntmps62
  go_wp2_with fail
  refine HA.out.mono ?_
  rintro e w1 ⟨v, rfl, hl1, hnew, hb1⟩
  have HB2 : Hid (Below w.heap.size w w1) := Lib.hid (HB1.out.trans (hb1.mono (by simp)))
  have HBL : Hid (Bld w.heap.size [] w1) := Lib.hid ((Bld.new w).below hb1)
  have hsz1 : w.heap.size + 1 ≤ w1.heap.size := by have := hb1.size; simpa using this
  clear hb1
  by_cases h0 : 0 < l.length
  · obtain ⟨g, cap, cur, rfl, hg, hcc⟩ := hl1.cellsK h0
    have hgb : g ≠ w.heap.size := by have := hnew g rfl; simp at this; omega
    have HG := Lib.hid hg
    have HC := Lib.hid (fun W hW => (hcc W hW).ents (by omega))
    obtain ⟨n, hn⟩ : ∃ n, n = l.length := ⟨_, rfl⟩
    have HN := Lib.hid hn
    rw [← hn] at hlen h0 ⊢
    clear hn hl1 hnew hg hcc
    go_wp2_with fail
    go_loopw [11] (fun i wr => ∃ k : Nat, k ≤ n ∧ i = .int .i64 k ∧ Hid (Wrote w.heap.size (textL (l.take k)) w1 wr)) (fun i _ => n - (intOf i).toNat)
    case atStart => exact ⟨0, Nat.zero_le _, rfl, Lib.hid ⟨HBL.out, Below.refl _ _, Lib.OthersKept.refl _ _ _⟩⟩
    case round =>
      obtain ⟨k, hk, rfl, hw⟩ := hrel
      obtain ⟨wo, hwo⟩ : ∃ wo, wo = wr := ⟨_, rfl⟩
      subst hwo
      by_cases hlt : k < n
      · have hgr := Lib_kept_cells hw.out.kept HG.out hgb (by decide)
        obtain ⟨bk, off, cap', hv, hcs⟩ := (HC.out wo hgr).cells (by rw [← HN.out]; exact h0)
        simp only [Value.slice.injEq, Option.some.injEq, Addr.mk.injEq] at hv
        obtain ⟨⟨rfl, rfl, _⟩, _, rfl⟩ := hv
        have hkl : k < l.length := by rw [← HN.out]; exact hlt
        have hcs := hcs k hkl
        have HBE := Lib.hid (HBD.out _ (getD_mem' (l := l) (i := k) hkl))
        have HTK := Lib.hid (textL_take hkl)
        have HTL : Hid ((textL (l.take k)).length ≤ 48000) := Lib.hid (by
          have := textL_len (l := l.take k) fun e he => lineT_small ⟨(HBD.out e (List.mem_of_mem_take he)).1, (HBD.out e (List.mem_of_mem_take he)).2.1, (HBD.out e (List.mem_of_mem_take he)).2.2.1⟩ (HBD.out e (List.mem_of_mem_take he)).2.2.2
          rw [List.length_take] at this
          omega)
        rw [show ((0, 0, 0, ⟨#[]⟩) : Ent) = noE from rfl] at hcs
        simp only [Nat.zero_add] at hcs
        generalize l.getD k noE = en at *
        obtain ⟨d0, d1, d2, d3⟩ := hcs
        have hwz : w.heap.size + 1 ≤ wo.heap.size := by have := hw.out.bld.lt; omega
        obtain ⟨w5, hw5⟩ : ∃ w5, w5 = (wo.alloc (.cells #[.int .i64 (ePost en), .int .i64 (eNum en), .int .i64 (eCnt en), .string (eLine en)] 43)).alloc (.cells #[.int .i64 (ePost en), .int .i64 (eNum en), .int .i64 (eCnt en)] 3) := ⟨_, rfl⟩
        have hb5 : Below wo.heap.size wo w5 := by rw [hw5]; exact ((Below.refl _ _).alloc (Nat.le_refl _) _).alloc (by simp) _
        have HW1 := Lib.hid (hw.out.more hb5)
        have HE5 : Hid (w5.heap[wo.heap.size]? = some (.cells #[.int .i64 (ePost en), .int .i64 (eNum en), .int .i64 (eCnt en), .string (eLine en)] 43 (0, 0))) := Lib.hid (by
          rw [hw5]; exact (Below.heap_alloc _ _ _ (by simp)).trans (World.alloc_heap_new wo _))
        have HS5 : Hid (w5.heap[wo.heap.size + 1]? = some (.cells #[.int .i64 (ePost en), .int .i64 (eNum en), .int .i64 (eCnt en)] 3 (0, 0))) := Lib.hid (by
          have := World.alloc_heap_new (wo.alloc (.cells #[.int .i64 (ePost en), .int .i64 (eNum en), .int .i64 (eCnt en), .string (eLine en)] 43)) (.cells #[.int .i64 (ePost en), .int .i64 (eNum en), .int .i64 (eCnt en)] 3)
          rw [World.size_alloc] at this
          rw [hw5]; exact this)
        have HW5 := Lib.hid hw5
        have HWR := Lib.hid (Wrote.refl HW1.out.bld)
        clear hw5 hb5 hgr
        go_wp2_with fail
        rw [← HW5.out]
        go_loopw [23] (fun i wr => ∃ j : Nat, j ≤ 3 ∧ i = .int .i64 j ∧ Hid (Wrote w.heap.size (textL (l.take k) ++ numsT en j) w5 wr)) (fun i _ => 3 - (intOf i).toNat)
        case atStart => exact ⟨0, by omega, rfl, Lib.hid (HWR.out.same (by simp [numsT]))⟩
        case round =>
          obtain ⟨j, hj, rfl, hwj⟩ := hrel
          by_cases hlj : j < 3
          · have HSJ := Lib.hid (Lib_kept_cells hwj.out.kept HS5.out (by omega) (by decide))
            have hcj : wr.cell? ⟨wo.heap.size + 1, j, none⟩ = some (.int .i64 ((numE en).getD j 0)) := by
              rcases (show j = 0 ∨ j = 1 ∨ j = 2 by omega) with rfl | rfl | rfl <;> exact heap_cell HSJ.out rfl
            have hnb := num_bounds ⟨HBE.out.1, HBE.out.2.1, HBE.out.2.2.1⟩ hlj
            have HNX := Lib.hid (numsT_next en hlj)
            have hnl := numsT_len ⟨HBE.out.1, HBE.out.2.1, HBE.out.2.2.1⟩ j (by omega)
            have hil := itoa_short hnb.1 hnb.2
            generalize (numE en).getD j 0 = x at *
            have HVJ := Lib.hid (HV.out.below (HB2.out.trans (HW1.out.below.trans hwj.out.below)))
            have HI := Lib.hid (itoa_any x (by omega) (by omega) wr HVJ.out)
            have j1 : (0 : Int) ≤ (j : Int) := by omega
            have j2 : (j : Int) < 3 := by omega
            have HWS := Lib.hid (fun w6 (h6 : Below wr.heap.size wr w6) => ws_any w.heap.size (textL (l.take k) ++ numsT en j) (itoaB x) w6 (hwj.out.more h6).bld (by
              have := HTL.out
              rw [List.length_append, ba_size, show (itoaB x).data.toList = Lib.itoa x from rfl]
              omega))
            have HWB : Hid (∀ w7, Bld w.heap.size (textL (l.take k) ++ numsT en j ++ (itoaB x).data.toList) w7 → Calls Tryz.prog 92 #[.pointer (some ⟨w.heap.size, 0, none⟩), .int .u8 32] w7 fun e w' => e = .returned .nilIface ∧ Wrote w.heap.size (textL (l.take k) ++ numsT en j ++ (itoaB x).data.toList ++ [32]) w7 w') := Lib.hid (fun w7 h7 => wb_any w.heap.size _ 32 w7 h7 (by
              have := HTL.out
              rw [List.length_append, List.length_append, show (itoaB x).data.toList = Lib.itoa x from rfl]
              omega))
            clear hnl hil
            go_wp2_with fail
            refine HI.out.mono ?_
            rintro e w6 ⟨rfl, h6⟩
            have H6 := Lib.hid h6
            clear h6
            go_wp2_with fail
            refine (HWS.out _ H6.out).mono ?_
            rintro e w7 ⟨rfl, hw7⟩
            have H7 := Lib.hid hw7
            clear hw7
            go_wp2_with fail
            refine (HWB.out _ H7.out.bld).mono ?_
            rintro e w8 ⟨rfl, hw8⟩
            have H8 := Lib.hid (((hwj.out.more H6.out).trans H7.out).trans hw8)
            clear hw8
            go_wp2
            go_roundw
            case rel => exact ⟨j + 1, by omega, by go_num, Lib.hid (H8.out.same (by rw [HNX.out]; simp [itoaB]))⟩
            case measure => simp [intOf]; omega
          · have e : j = 3 := by omega
            subst e
            have HEJ := Lib.hid (Lib_kept_cells hwj.out.kept HE5.out (by omega) (by decide))
            have q3 := heap_cell (j := 3) HEJ.out rfl
            have hnl := numsT_len ⟨HBE.out.1, HBE.out.2.1, HBE.out.2.2.1⟩ 3 (by omega)
            have hll := line_small HBE.out.2.2.2
            have HWS := Lib.hid (ws_any w.heap.size (textL (l.take k) ++ numsT en 3) (eLine en) wr hwj.out.bld (by
              have := HTL.out
              rw [List.length_append, ba_size]
              omega))
            have HWB : Hid (∀ w7, Bld w.heap.size (textL (l.take k) ++ numsT en 3 ++ (eLine en).data.toList) w7 → Calls Tryz.prog 92 #[.pointer (some ⟨w.heap.size, 0, none⟩), .int .u8 10] w7 fun e w' => e = .returned .nilIface ∧ Wrote w.heap.size (textL (l.take k) ++ numsT en 3 ++ (eLine en).data.toList ++ [10]) w7 w') := Lib.hid (fun w7 h7 => wb_any w.heap.size _ 10 w7 h7 (by
              have := HTL.out
              rw [List.length_append, List.length_append]
              omega))
            clear hnl hll
            go_wp2_with fail
            refine HWS.out.mono ?_
            rintro e w7 ⟨rfl, hw7⟩
            have H7 := Lib.hid hw7
            clear hw7
            go_wp2_with fail
            refine (HWB.out _ H7.out.bld).mono ?_
            rintro e w8 ⟨rfl, hw8⟩
            have H8 := Lib.hid ((HW1.out.trans hwj.out).trans (H7.out.trans hw8))
            clear hw8
            go_wp2
            go_roundw
            case rel => exact ⟨k + 1, by omega, by go_num, Lib.hid (H8.out.same (by rw [HTK.out, lineT_nums]; simp))⟩
            case measure => simp [intOf]; omega
      · have e : k = n := by omega
        subst e
        have HS := Lib.hid (bs_any w.heap.size _ _ hw.out.bld)
        have HTT : Hid (textL (l.take k) = textL l) := Lib.hid (by rw [HN.out, List.take_length])
        have HBF := Lib.hid (HB2.out.trans hw.out.below)
        rw [HTT.out] at HS
        go_wp2_with fail
        refine HS.out.mono ?_
        rintro e w5 ⟨rfl, h5⟩
        go_wp2
        go_ret
        exact ⟨rfl, HBF.out.trans h5⟩
  · have hz : l = [] := List.length_eq_zero_iff.1 (by omega)
    subst hz
    obtain ⟨a0, c0, rfl⟩ := own_shape hl1
    have HS := Lib.hid (bs_any w.heap.size _ _ HBL.out)
    clear hl1 hnew
    simp only [List.length_nil] at *
    go_wp2_with fail
    go_loopw [11] (fun i wr => i = .int .i64 0 ∧ wr = w1) (fun i _ => 0)
    case atStart => exact ⟨rfl, rfl⟩
    case round =>
      obtain ⟨rfl, rfl⟩ := hrel
      go_wp2_with fail
      refine HS.out.mono ?_
      rintro e w5 ⟨rfl, h5⟩
      go_wp2
      go_ret
      exact ⟨rfl, HB2.out.trans h5⟩
end Go.Proofs.YtdfkaijeppdhaaaGreatDoor
/- Contracts of a post's methods: Text, Same. -/
namespace Go.Proofs.YtdfkaijeppdhaaaGreatDoor
open Go.RowKit Go.Shelf
theorem ba_beq (a b : ByteArray) : (a.toList == b.toList) = decide (a = b) := by
  by_cases h : a = b
  · subst h; simp
  · rw [ba_lne h, decide_eq_false h]
def StrPost (s : ByteArray) (w : World) (e : Ending) (w' : World) : Prop := e = .returned (.string s) ∧ Below w.heap.size w w'
set_option maxHeartbeats 400000 in
theorem text_post (P n : Nat) (F : List Nat) (b : Book) (w : World) (h : PostAt w P F n b) (hok : BookOk b) (hV : Vars w) :
    Calls Tryz.prog 29 #[.pointer (some ⟨P, 0, none⟩)] w (StrPost (textB b) w) := by
  obtain ⟨K, vs, hP, hvs, hF⟩ := h.parts
  have HN := Lib.hid (none_any P K n _ w hP)
  have HT := Lib.hid (text_any K _ b w hvs.at hok hV)
  have p0 := heap_cell (j := 0) hP rfl
  clear h hP hvs hF hok hV
  go_enter Tryz.func29, Tryz.ntmps29
  go_wp2_with fail
  refine HN.out.mono ?_
  rintro e w' ⟨rfl, rfl⟩
  go_wp2_with fail
  refine HT.out.mono ?_
  rintro e w' ⟨rfl, hb⟩
  go_wp2
  go_ret
  exact ⟨rfl, hb⟩
def BoolPost (q : Bool) (w : World) (e : Ending) (w' : World) : Prop := e = .returned (.bool q) ∧ Below w.heap.size w w'
set_option maxHeartbeats 4000000 in
theorem same_post (P n : Nat) (F : List Nat) (b : Book) (P2 n2 : Nat) (F2 : List Nat) (b2 : Book) (w : World) (h : PostAt w P F n b) (h2 : PostAt w P2 F2 n2 b2) (hok : BookOk b) (hok2 : BookOk b2) (hV : Vars w) :
    Calls Tryz.prog 37 #[.pointer (some ⟨P, 0, none⟩), .pointer (some ⟨P2, 0, none⟩)] w (BoolPost (decide (textB b = textB b2)) w) := by
  obtain ⟨K, vs, hP, hvs, hF⟩ := h.parts
  obtain ⟨K2, vs2, hP2, hvs2, hF2⟩ := h2.parts
  have HN := Lib.hid (none_any P K n _ w hP)
  have HN2 := Lib.hid (none_any P2 K2 n2 _ w hP2)
  have HT := Lib.hid (fun W (hW : KB w W) => text_any K _ b W (hvs.below hW).at hok (hV.below hW))
  have HT2 := Lib.hid (fun W (hW : KB w W) => text_any K2 _ b2 W (hvs2.below hW).at hok2 (hV.below hW))
  have r0 : ∀ W, KB w W → W.cell? ⟨P, 0, none⟩ = some (.pointer (some ⟨K, 0, none⟩)) := fun W hW => keep_cell hW (heap_cell hP rfl)
  have r1 : ∀ W, KB w W → W.cell? ⟨P2, 0, none⟩ = some (.pointer (some ⟨K2, 0, none⟩)) := fun W hW => keep_cell hW (heap_cell hP2 rfl)
  obtain ⟨t1, ht1⟩ : ∃ t, t = textB b := ⟨_, rfl⟩
  obtain ⟨t2, ht2⟩ : ∃ t, t = textB b2 := ⟨_, rfl⟩
  rw [← ht1, ← ht2]
  rw [← ht1] at HT
  rw [← ht2] at HT2
  clear h h2 hP hP2 hvs hvs2 hF hF2 hok hok2 hV ht1 ht2
  go_enter Tryz.func37, Tryz.ntmps37
  go_wp2_with fail
  refine HN.out.mono ?_
  rintro e w' ⟨rfl, rfl⟩
  go_wp2_with fail
  refine HN2.out.mono ?_
  rintro e w' ⟨rfl, rfl⟩
  go_wp2
  go_region_held3 (fun W => KB w W) (first | exact KB.refl _ | exact KB.drew (KB.refl _) | assumption | exact KB.drew (by assumption) | fail) (first
  | (go_at_call_of 62 (Value.pointer (some (⟨K, 0, none⟩ : Addr))); refine (HT.out _ (by first | exact KB.refl _ | exact KB.drew (KB.refl _) | assumption | exact KB.drew (by assumption))).mono ?_; rintro e w2 ⟨rfl, hb2⟩; have hk2 := KB.call (w := w) (by first | exact KB.refl _ | exact KB.drew (KB.refl _) | assumption | exact KB.drew (by assumption)) hb2; clear hb2)
  | (go_at_call_of 62 (Value.pointer (some (⟨K2, 0, none⟩ : Addr))); refine (HT2.out _ (by first | exact KB.refl _ | exact KB.drew (KB.refl _) | assumption | exact KB.drew (by assumption))).mono ?_; rintro e w2 ⟨rfl, hb2⟩; have hk2 := KB.call (w := w) (by first | exact KB.refl _ | exact KB.drew (KB.refl _) | assumption | exact KB.drew (by assumption)) hb2; clear hb2)
  | fail)
  all_goals rw [ba_beq]
  all_goals go_wp2
  all_goals go_ret
  all_goals exact ⟨rfl, by assumption⟩
end Go.Proofs.YtdfkaijeppdhaaaGreatDoor

/- Texts of this claim, laid together: Fg, Fh, Fi. -/

/- Contracts: asked.ask, whatever answers; text; stock.ask. -/
namespace Go.Proofs.YtdfkaijeppdhaaaGreatDoor
open Go.RowKit Go.Shelf
theorem Tryz.infoStr : (Tryz.prog.info? 9).map (fun i => (i.zero, i.size, i.bytes)) = some (some (.string ⟨#[]⟩), 1, 16) := by kernel_rfl
theorem allG_take {α β : Type} {f : α → Option β} {d : α} {l : List α} {k : Nat} (h : k < l.length) : allS f (l.take (k + 1)) = match allS f (l.take k), f (l.getD k d) with
    | some ys, some y => some (ys ++ [y])
    | _, _ => none := by
  rw [List.take_succ_eq_append_getElem h, allS_snoc, List.getD_eq_getElem?_getD, List.getElem?_eq_getElem h, Option.getD_some]
  cases allS f (l.take k) <;> rfl
theorem allG_none {α β : Type} {f : α → Option β} {l : List α} {x : α} (hx : x ∈ l) (h : f x = none) : allS f l = none := allS_bad f l hx h
/-- What a question about texts answers. -/
def askedV (ans : List ByteArray → ByteArray × Int) (names : List ByteArray) (kn : Kn) : ByteArray × Int := match allS kn.txt names with
  | none => (emp, 5)
  | some ts => if (ans ts).2 = 0 then ((ans ts).1, 0) else (emp, (ans ts).2)
def AnsPost (r : ByteArray × Int) (w : World) (e : Ending) (w' : World) : Prop := e = .returned (.tuple #[.string r.1, .int .i64 r.2]) ∧ Below w.heap.size w w'
set_option maxRecDepth 100000 in
set_option maxHeartbeats 4000000 in
theorem asked_any (gf : Nat) (eg : ∀ args w, (callFunc gf args).run Tryz.prog w = .ok (.enter gf args) w) (ans : List ByteArray → ByteArray × Int) (nv bv : Value) (names : List ByteArray) (ns : List Int) (a b n : Nat) (kn : Kn) (w : World)
    (hN : StrsAt w nv names) (hI : IntsAt w bv ns) (h0 : 0 < names.length) (hl : names.length ≤ 1000) (hsz : ∀ x ∈ names, x.size ≤ 8) (hK : KnAt w a b n kn)
    (hans : ∀ W base tv ts, Below w.heap.size w W → base ≤ W.heap.size → W.ownsRow base 9 1 tv ts.length (ts.map Value.string) → allS kn.txt names = some ts → Calls Tryz.prog gf #[tv, bv] W (AnsPost (ans ts) W)) :
    Calls Tryz.prog 338 #[.agg #[nv, bv, .func (.func gf) #[] #[]], knV a b] w (AnsPost (askedV ans names kn) w) := by
  obtain ⟨i0, hi0, hz0, hz1, hz2⟩ := info_parts Tryz.infoStr
  obtain ⟨R, hR⟩ : ∃ R, R = askedV ans names kn := ⟨_, rfl⟩
  have HR := Lib.hid hR
  rw [← hR]
  clear hR
  obtain ⟨bk, off, cap, rfl, hcap, hcc, hq⟩ := hN.cons h0
  obtain ⟨ia, icap, hbv, _⟩ := id hI
  obtain ⟨w1, hw1⟩ : ∃ w1, w1 = (w.alloc (.cells #[.slice (some ⟨bk, off, none⟩) names.length cap, bv, .func (.func gf) #[] #[]] 185)).alloc (.cells #[.map (some a), .map (some b)] 102) := ⟨_, rfl⟩
  have hb1 : Below w.heap.size w w1 := by rw [hw1]; exact ((Below.refl _ w).alloc (Nat.le_refl _) _).alloc (by simp) _
  have HB1 := Lib.hid hb1
  have HQ := Lib.hid (fun j hj => keep_cell hb1 (hq j hj))
  have HK1 := Lib.hid (hK.below hb1)
  have HE1 : Hid (w1.heap[w.heap.size]? = some (.cells #[.slice (some ⟨bk, off, none⟩) names.length cap, bv, .func (.func gf) #[] #[]] 185 (0, 0))) := Lib.hid (by
    rw [hw1]; exact (Below.heap_alloc _ _ _ (by simp)).trans (World.alloc_heap_new w _))
  have HE2 : Hid (w1.heap[w.heap.size + 1]? = some (.cells #[.map (some a), .map (some b)] 102 (0, 0))) := Lib.hid (by
    have := World.alloc_heap_new (w.alloc (.cells #[.slice (some ⟨bk, off, none⟩) names.length cap, bv, .func (.func gf) #[] #[]] 185)) (.cells #[.map (some a), .map (some b)] 102)
    rw [World.size_alloc] at this
    rw [hw1]; exact this)
  have HANS := Lib.hid hans
  have HSZ := Lib.hid hsz
  have HZ1 : Hid (w1.heap.size = w.heap.size + 2) := Lib.hid (by rw [hw1]; simp)
  have HW1 := Lib.hid hw1
  obtain ⟨nl, hnl⟩ : ∃ nl, nl = names.length := ⟨_, rfl⟩
  have HN := Lib.hid hnl
  rw [← hnl] at hcap h0 hl HE1 HW1 ⊢
  clear hnl hw1 hb1 hN hI hK hans hsz hq
  subst hbv
  unfold knV
  go_enter Tryz.func338, Tryz.ntmps338
  go_wp2_with fail
  rw [← HW1.out]
  have HL1 := Lib.hid HZ1.out
  go_loopw [6, 16] (fun o i wr => ∃ (k : Nat) (ts : List ByteArray), k ≤ nl ∧ i = .int .i64 k ∧ Hid (allS kn.txt (names.take k) = some ts) ∧ Hid (ts.length = k) ∧ wr.ownsRow w1.heap.size 9 1 o k (ts.map Value.string) ∧ Below w1.heap.size w1 wr) (fun _ i _ => nl - (intOf i).toNat)
  case atStart => exact ⟨0, [], Nat.zero_le _, rfl, Lib.hid rfl, Lib.hid rfl, World.ownsRow_nil _ _ _ _, Below.refl _ _⟩
  case round =>
    obtain ⟨k, ts, hk, rfl, hall, hlen, hown, hbel⟩ := hrel
    have hsz1 := hbel.size
    have e0 := keep_cell hbel (heap_cell (j := 0) HE1.out rfl)
    have e1 := keep_cell hbel (heap_cell (j := 1) HE1.out rfl)
    have e2 := keep_cell hbel (heap_cell (j := 2) HE1.out rfl)
    have e3 := keep_cell hbel (heap_cell (j := 0) HE2.out rfl)
    have e4 := keep_cell hbel (heap_cell (j := 1) HE2.out rfl)
    by_cases hlt : k < nl
    · have hc := keep_cell hbel (HQ.out k (by rw [← HN.out]; exact hlt))
      have HS := Lib.hid (allG_take (f := kn.txt) (d := emp) (l := names) (k := k) (by rw [← HN.out]; exact hlt))
      have hmem : names.getD k emp ∈ names := by rw [List.getD_eq_getElem?_getD, List.getElem?_eq_getElem (by rw [← HN.out]; exact hlt)]; exact List.getElem_mem _
      have HM := Lib.hid hmem
      have HXS := HSZ.out _ hmem
      clear hmem
      generalize names.getD k emp = x at *
      have hlook := (HK1.out.below hbel).look x (by omega)
      have HB := Lib.hid hbel
      have HO := Lib.hid hown
      clear hbel hown
      cases hx : kn.txt x with
      | some y =>
        rw [hx] at HS hlook
        unfold txtV at hlook
        simp only [Option.getD_some, Option.isSome_some] at hlook
        clear hx
        go_wp2_with (at_builtin; refine wpList_append_own _ rfl _ _ 22 rfl w1.heap.size 9 i0 (.string ⟨#[]⟩) 1 16 Tryz.underlying22 hi0 hz0 hz1 hz2 rfl (by decide) _ _ _ rfl (HO.out.alloc _) ⟨wr.heap.size, 0, none⟩ 1 1 [.string y] rfl rfl ?c1 ?c2 ?c3 ?c4 ?c5 ?_)
        case c1 => exact (cell_one_new _ _ _)
        case c2 => intro u hu; simp at hu; subst hu; rfl
        case c3 => unfold maxLen; omega
        case c4 => omega
        case c5 => simp; omega
        · intro v' w2 hown' hgrow _
          have R := below_append HB.out hsz1 HO.out (Nat.le_refl _) hgrow
          clear hgrow
          go_wp2
          go_roundw
          case rel => exact ⟨k + 1, ts ++ [y], by omega, by go_num, Lib.hid (by rw [HS.out, hall.out]), Lib.hid (by rw [List.length_append, hlen.out]; rfl), by rw [List.map_append]; exact hown', R⟩
          case measure => simp [intOf]; omega
      | none =>
        have HRX : Hid (R = (emp, 5)) := Lib.hid (by rw [HR.out]; unfold askedV; rw [allG_none HM.out hx])
        rw [hx] at hlook
        unfold txtV emp at hlook
        simp only [Option.getD_none, Option.isSome_none] at hlook
        clear hx
        go_wp2
        go_ret2
        rw [HRX.out]
        exact ⟨rfl, HB1.out.trans (HB.out.mono HB1.out.size)⟩
    · have e : k = nl := by omega
      subst e
      have hts : allS kn.txt names = some ts := by
        have := hall.out
        rw [HN.out, List.take_length] at this
        exact this
      have HB := Lib.hid (HB1.out.trans (hbel.mono HB1.out.size))
      have HA := Lib.hid (HANS.out wr w1.heap.size _ ts HB.out hsz1 (by rw [hlen.out]; exact hown) hts)
      have HRR : Hid (R = if (ans ts).2 = 0 then ((ans ts).1, 0) else (emp, (ans ts).2)) := Lib.hid (by rw [HR.out]; unfold askedV; rw [hts])
      clear hown hbel hts
      generalize ans ts = r at *
      obtain ⟨rs, re⟩ := r
      by_cases hz : re = 0
      · subst hz
        have HRX : Hid (R = (rs, 0)) := Lib.hid (by rw [HRR.out]; rfl)
        go_wp2_with fail
        refine HA.out.mono ?_
        rintro e w5 ⟨rfl, h5⟩
        go_wp2
        go_ret2
        rw [HRX.out]
        exact ⟨rfl, below_trans HB.out h5⟩
      · have HRX : Hid (R = (emp, re)) := Lib.hid (by rw [HRR.out]; simp only; rw [if_neg hz])
        have z0 : (re != 0) = true := by simpa using hz
        go_wp2_with fail
        refine HA.out.mono ?_
        rintro e w5 ⟨rfl, h5⟩
        go_wp2
        go_ret2
        rw [HRX.out]
        exact ⟨rfl, below_trans HB.out h5⟩
/-- The text of one name. -/
def ansText (ts : List ByteArray) : ByteArray × Int := (ts.getD 0 emp, 0)
set_option maxHeartbeats 400000 in
theorem text_kind (W : World) (base : Nat) (tv bv : Value) (ts : List ByteArray) (h : W.ownsRow base 9 1 tv ts.length (ts.map Value.string)) (h0 : 0 < ts.length) (hl : ts.length ≤ 1000) : Calls Tryz.prog 116 #[tv, bv] W (AnsPost (ansText ts) W) := by
  rcases h.2 with ⟨_, h1⟩ | ⟨g, cap, cur, rfl, _⟩
  · omega
  · have c0 := h.cellAt 0 (by omega)
    rw [List.getElem?_map, List.getElem?_eq_getElem h0] at c0
    have hx : ansText ts = (ts[0], 0) := by unfold ansText; rw [List.getD_eq_getElem?_getD, List.getElem?_eq_getElem h0]; rfl
    rw [hx]
    generalize ts[0] = x at *
    generalize ts.length = n at *
    simp only [Option.map_some] at c0
    clear h hx
    go_enter Tryz.func116, Tryz.ntmps116
    go_wp2
    go_ret2
    exact ⟨rfl, Below.refl _ _⟩
end Go.Proofs.YtdfkaijeppdhaaaGreatDoor
/- Contracts: Ask. -/
namespace Go.Proofs.YtdfkaijeppdhaaaGreatDoor
open Go.RowKit Go.Shelf
set_option maxRecDepth 100000 in
set_option maxHeartbeats 4000000 in
/-- Ask of what is no question. -/
theorem ask_no (P n : Nat) (F : List Nat) (b : Book) (line : ByteArray) (hs : line.size ≤ 1000000) (w : World) (h : PostAt w P F n b) (hV : Vars w) (hd : Cmd.askO (parseB line) = false) :
    Calls Tryz.prog 36 #[.pointer (some ⟨P, 0, none⟩), .string line] w (AnsPost (emp, 100) w) := by
  obtain ⟨K, vs, hP, hvs, hF⟩ := h.parts
  have HN := Lib.hid (none_any P K n _ w hP)
  have HA := Lib.hid (parse_any line hs w hV)
  have HD := Lib.hid hd
  clear h hP hvs hF hV hd
  unfold emp
  go_enter Tryz.func36, Tryz.ntmps36
  go_wp2_with fail
  refine HN.out.mono ?_
  rintro e w1 ⟨rfl, rfl⟩
  go_wp2_with fail
  refine HA.out.mono ?_
  rintro e w1 ⟨⟨pv, rfl, hpv⟩, hb1⟩
  have hta := assert_ask hpv w1
  rw [HD.out] at hta
  unfold ifV at hta
  simp only [Bool.false_eq_true, if_false] at hta
  have HB1 := Lib.hid hb1
  clear hpv hb1
  go_wp2
  go_ret2
  exact ⟨rfl, HB1.out⟩
theorem asked_norm (ans : List ByteArray → ByteArray × Int) (names : List ByteArray) (kn : Kn) : (askedV ans names kn).2 ≠ 0 → (askedV ans names kn).1 = emp := by
  unfold askedV
  split
  · exact fun _ => rfl
  · split
    · exact fun h => absurd rfl h
    · exact fun _ => rfl
set_option maxRecDepth 100000 in
set_option maxHeartbeats 8000000 in
/-- Ask of a question about texts. -/
theorem askq_asked (P n : Nat) (F : List Nat) (b : Book) (line : ByteArray) (hs : line.size ≤ 1000000) (w : World) (h : PostAt w P F n b) (hok : BookOk b) (hV : Vars w) (k : Nat) (names : List ByteArray) (ns : List Int) (hc : parseB line = some (.asked k names ns))
    (h0 : 0 < names.length) (hl : names.length ≤ 1000) (ans : List ByteArray → ByteArray × Int) (eg : ∀ args w, (callFunc (kindF k) args).run Tryz.prog w = .ok (.enter (kindF k) args) w)
    (hans : ∀ W base tv bv ts, Below w.heap.size w W → base ≤ W.heap.size → W.ownsRow base 9 1 tv ts.length (ts.map Value.string) → IntsAt W bv ns → allS (saysB (allB b)).txt names = some ts → Calls Tryz.prog (kindF k) #[tv, bv] W (AnsPost (ans ts) W)) :
    Calls Tryz.prog 36 #[.pointer (some ⟨P, 0, none⟩), .string line] w (AnsPost (askedV ans names (saysB (allB b))) w) := by
  have HSM := Lib.hid ((Cmd.names_small hc).2.2.2.2.2 k names ns rfl)
  have HANS := Lib.hid hans
  clear hans
  obtain ⟨R, hR⟩ : ∃ R, R = askedV ans names (saysB (allB b)) := ⟨_, rfl⟩
  have HNM := Lib.hid (asked_norm ans names (saysB (allB b)))
  have HR := Lib.hid hR
  rw [← hR]
  clear hR
  obtain ⟨K, vs, hP, hvs, hF⟩ := h.parts
  have HN := Lib.hid (none_any P K n _ w hP)
  have HA := Lib.hid (parse_any line hs w hV)
  have HC := Lib.hid hc
  have HPC := Lib.hid hP
  have HVS := Lib.hid hvs
  have HVR := Lib.hid hV
  have HOK := Lib.hid hok
  clear h hP hvs hF hV hok hc
  go_enter Tryz.func36, Tryz.ntmps36
  go_wp2_with fail
  refine HN.out.mono ?_
  rintro e w1 ⟨rfl, rfl⟩
  go_wp2_with fail
  refine HA.out.mono ?_
  rintro e w1 ⟨⟨pv, rfl, hpv⟩, hb1⟩
  have hta := assert_ask hpv w1
  rw [HC.out] at hta hpv
  rw [show Cmd.askO (some (.asked k names ns)) = true from rfl] at hta
  unfold ifV at hta
  simp only [if_true] at hta
  have HPV := Lib.hid hpv
  have HB1 := Lib.hid hb1
  have HV1 := Lib.hid (HVR.out.below hb1)
  have r4 : ∀ W, KB w1 W → W.cell? ⟨P, 0, none⟩ = some (.pointer (some ⟨K, 0, none⟩)) := fun W hW => keep_cell hW (keep_cell hb1 (heap_cell HPC.out rfl))
  have HALL := Lib.hid (fun W (hW : KB w1 W) => all_any K _ b W ((HVS.out.below HB1.out).below hW).at HOK.out)
  have HENT : Hid (∀ e ∈ allB b, (eLine e).size ≤ 60) := Lib.hid (fun e he => ((isLineB_iff _).1 (by rw [← lineB_is]; exact (book_bounds HOK.out he).2.2.2)).1)
  have HLEN : Hid ((allB b).length ≤ 1000) := Lib.hid (by rw [allB_len]; have := lenB_le HOK.out; omega)
  clear hpv hb1
  go_wp2
  obtain ⟨a1, b1, rfl, hs1, hi1⟩ := HPV.out
  have hme : ∀ w, (method 462 185 (.agg #[a1, b1, .func (.func (kindF k)) #[] #[]]) "skimmer/post.ask").run Tryz.prog w = .ok (338, .agg #[a1, b1, .func (.func (kindF k)) #[] #[]]) w := fun w => method_asked _ w
  have hah : ∀ w, (nilAhead 462 185 (.agg #[a1, b1, .func (.func (kindF k)) #[] #[]]) "skimmer/post.ask").run Tryz.prog w = .ok (some false) w := fun w => ahead_asked _ w
  have HS1 := Lib.hid hs1
  have HI1 := Lib.hid hi1
  have HRR := Lib.hid (show askedV ans names (saysB (allB b)) = R from HR.out.symm)
  clear hs1 hi1 hta
  generalize kindF k = gf at *
  have HAK := Lib.hid (fun W (hW : KB w1 W) ka kb (hk : KnAt W ka kb (allB b).length (saysB (allB b))) => asked_any gf eg ans a1 b1 names ns ka kb _ _ W (HS1.out.below hW) (HI1.out.below hW) h0 hl HSM.out hk (fun W2 base tv ts hb2 hbs hrow hts => HANS.out W2 base tv b1 ts (below_trans HB1.out (hW.trans (hb2.mono hW.size))) hbs hrow ((HI1.out.below hW).below hb2) hts))
  rw [HRR.out] at HAK
  go_region_held3 (fun W => KB w1 W) (first | exact KB.refl _ | exact KB.drew (KB.refl _) | assumption | exact KB.drew (by assumption) | fail) (first
    | (go_at_call 57; refine (HALL.out _ (by first | exact KB.refl _ | exact KB.drew (KB.refl _) | assumption)).mono ?_; rintro e w5 ⟨v5, rfl, hl5, ho5, hb5⟩; have q5 : KB w1 w5 := KB.call (KB.drew (KB.refl _)) hb5; have HSY := Lib.hid (says_any v5 (allB b) w5 (hl5.ents (by have := HLEN.out; omega)) HLEN.out HENT.out (HV1.out.below q5)); clear hl5 ho5 hb5)
    | (go_at_call 56; refine HSY.out.mono ?_; rintro e w6 ⟨ka, kb, rfl, hk6, hka, hkb, hb6⟩; have q6 : KB w1 w6 := KB.call q5 hb6; have HK6 := Lib.hid hk6; have HV6 := Lib.hid (HV1.out.below q6); clear hk6 hka hkb hb6)
    | (go_at_call 338; refine (HAK.out _ q6 _ _ HK6.out).mono ?_; rintro e w7 ⟨rfl, hb7⟩; have q7 : KB w1 w7 := KB.call q6 hb7; clear hb7)
    | fail)
  all_goals (
    rw [HRR.out] at HNM
    obtain ⟨rs, re⟩ := R
    by_cases hz : re = 0
    · subst hz
      go_wp2
      go_ret2
      exact ⟨rfl, below_trans HB1.out q7⟩
    · have z0 : (re != 0) = true := by simpa using hz
      have hem : rs = emp := HNM.out hz
      subst hem
      go_wp2
      go_ret2
      exact ⟨rfl, below_trans HB1.out q7⟩)
end Go.Proofs.YtdfkaijeppdhaaaGreatDoor
/- Contracts: does. -/
namespace Go.Proofs.YtdfkaijeppdhaaaGreatDoor
open Go.RowKit Go.Shelf
def firstW (line : ByteArray) : ByteArray := ⟨(Lib.cut line.data.toList [32]).1.toArray⟩
def restW (line : ByteArray) : ByteArray := ⟨(Lib.cut line.data.toList [32]).2.1.toArray⟩
def joinW : List UInt8 := [106, 111, 105, 110, 32]
def isJoin (s : ByteArray) : Bool := Lib.hasPrefix s.data.toList joinW
def otherW (s : ByteArray) : ByteArray := ⟨(Lib.trimPrefix s.data.toList joinW).toArray⟩
def setN (bs : Nat → Book) (i : Nat) (c : Book) : Nat → Book := fun j => if j = i then c else bs j
/-- A post of a word. -/
def postV (s : ByteArray) : Option Nat := match numV s with
  | some n => if betw 0 n 3 then some n.toNat else none
  | none => none
/-- A line of a script. -/
def doesB (askB : Book → ByteArray → ByteArray × Int) (bs : Nat → Book) (line : ByteArray) : (ByteArray × Int) × (Nat → Book) := match postV (firstW line) with
  | none => ((emp, 100), bs)
  | some n => if isJoin (restW line) then (match postV (otherW (restW line)) with
      | none => ((emp, 100), bs)
      | some k => ((itoaB (lenB (joinV (bs n) (bs k)).2 : Int), (joinV (bs n) (bs k)).1), setN bs n (joinV (bs n) (bs k)).2))
    else if Cmd.deedO (parseB (restW line)) then (((doB (bs n) n (restW line)).1, (doB (bs n) n (restW line)).2.1), setN bs n (doB (bs n) n (restW line)).2.2)
    else if Cmd.askO (parseB (restW line)) then (askB (bs n) (restW line), bs)
    else ((emp, 100), bs)
theorem postV_some {s : ByteArray} {n : Nat} (h : postV s = some n) : numV s = some (n : Int) ∧ n < 4 := by
  unfold postV at h
  cases hn : numV s with
  | none => rw [hn] at h; cases h
  | some v =>
    rw [hn] at h
    simp only at h
    split at h
    · rename_i hb
      rw [betw_iff] at hb
      injection h with h
      subst h
      exact ⟨by rw [Int.toNat_of_nonneg hb.1], by omega⟩
    · cases h
theorem cut_len (l sep : List UInt8) : (Lib.cut l sep).1.length ≤ l.length ∧ (Lib.cut l sep).2.1.length ≤ l.length := by
  unfold Lib.cut
  split <;> simp
  omega
theorem first_size (s : ByteArray) : (firstW s).size ≤ s.size := by
  have := (cut_len s.data.toList [32]).1
  rw [ba_size, ba_size]; exact this
theorem rest_size (s : ByteArray) : (restW s).size ≤ s.size := by
  have := (cut_len s.data.toList [32]).2
  rw [ba_size, ba_size]; exact this
theorem other_size (s : ByteArray) : (otherW s).size ≤ s.size := by
  rw [ba_size, ba_size]
  unfold otherW Lib.trimPrefix
  split <;> simp

def U (ps : Nat → Pst) : List Nat := (ps 0).F ++ ((ps 1).F ++ ((ps 2).F ++ (ps 3).F))
theorem mem_U {ps : Nat → Pst} {k : Nat} : k ∈ U ps ↔ ∃ i, i < 4 ∧ k ∈ (ps i).F := by
  unfold U
  simp only [List.mem_append]
  refine ⟨fun h => ?_, fun ⟨i, hi, h⟩ => ?_⟩
  · rcases h with h | h | h | h
    · exact ⟨0, by omega, h⟩
    · exact ⟨1, by omega, h⟩
    · exact ⟨2, by omega, h⟩
    · exact ⟨3, by omega, h⟩
  · rcases (show i = 0 ∨ i = 1 ∨ i = 2 ∨ i = 3 by omega) with rfl | rfl | rfl | rfl
    · exact .inl h
    · exact .inr (.inl h)
    · exact .inr (.inr (.inl h))
    · exact .inr (.inr (.inr h))
structure PostsAt (w : World) (S : Nat) (ps : Nat → Pst) : Prop where
  posts : Posts w 4 ps
  row : ∀ j, j < 4 → w.cell? ⟨S, j, none⟩ = some (.pointer (some ⟨(ps j).P, 0, none⟩))
  own : S ∉ U ps
  ok : ∀ j, j < 4 → BookOk (ps j).b
  num : ∀ j, j < 4 → (ps j).n = j
theorem PostsAt.lt {w : World} {S : Nat} {ps : Nat → Pst} (h : PostsAt w S ps) : S < w.heap.size := World.block_lt_of_cell? _ _ (h.row 0 (by omega))
theorem PostsAt.below {w w' : World} {S : Nat} {ps : Nat → Pst} (h : PostsAt w S ps) (hb : Below w.heap.size w w') : PostsAt w' S ps :=
  ⟨h.posts.below hb, fun j hj => keep_cell hb (h.row j hj), h.own, h.ok, h.num⟩
/-- What one post leaves, of all. -/
structure Turn (w : World) (S : Nat) (ps : Nat → Pst) (bs : Nat → Book) (w' : World) : Prop where
  ex : ∃ ps', PostsAt w' S ps' ∧ (∀ j, j < 4 → (ps' j).b = bs j) ∧ NewOr w (U ps) (U ps') ∧ Off (U ps) w w'
theorem Turn.refl {w : World} {S : Nat} {ps : Nat → Pst} (h : PostsAt w S ps) {w' : World} (hb : Below w.heap.size w w') : Turn w S ps (fun j => (ps j).b) w' :=
  ⟨ps, h.below hb, fun _ _ => rfl, newOr_refl _ _, Off.of_below hb⟩
theorem PostsAt.turn {w w' : World} {S : Nat} {ps : Nat → Pst} (h : PostsAt w S ps) {i : Nat} (hi : i < 4) {F' : List Nat} {c : Book} (hp : PostAt w' (ps i).P F' i c) (hF : NewOr w (ps i).F F') (ho : Off (ps i).F w w') (hc : BookOk c) :
    PostsAt w' S (setS ps i ⟨(ps i).P, F', i, c⟩) ∧ NewOr w (U ps) (U (setS ps i ⟨(ps i).P, F', i, c⟩)) ∧ Off (U ps) w w' := by
  have hin : ∀ k, k ∈ (ps i).F → k ∈ U ps := fun k hk => mem_U.2 ⟨i, hi, hk⟩
  have hU : NewOr w (U ps) (U (setS ps i ⟨(ps i).P, F', i, c⟩)) := fun k hk => by
    obtain ⟨j, hj, hk⟩ := mem_U.1 hk
    by_cases e : j = i
    · subst e
      rw [setS_same] at hk
      exact (hF k hk).imp (hin k) id
    · rw [setS_other _ _ e] at hk
      exact .inl (mem_U.2 ⟨j, hj, hk⟩)
  have hS := h.lt
  refine ⟨⟨h.posts.turn hi (p := ⟨(ps i).P, F', i, c⟩) hp hF ho, fun j hj => ?_, fun hm => ?_, fun j hj => ?_, fun j hj => ?_⟩, hU, ho.mono fun k hk => .inl (hin k hk)⟩
  · rw [World.cell?_of_block (ho.block S hS fun hm => h.own (hin S hm)), h.row j hj]
    by_cases e : j = i
    · subst e; rw [setS_same]
    · rw [setS_other _ _ e]
  · rcases hU S hm with h1 | h1
    · exact h.own h1
    · omega
  · by_cases e : j = i
    · subst e; rw [setS_same]; exact hc
    · rw [setS_other _ _ e]; exact h.ok j hj
  · by_cases e : j = i
    · subst e; rw [setS_same]
    · rw [setS_other _ _ e]; exact h.num j hj
theorem Turn.of {w w' : World} {S : Nat} {ps : Nat → Pst} (h : PostsAt w S ps) {i : Nat} (hi : i < 4) {c : Book} (hx : ∃ F', PostAt w' (ps i).P F' i c ∧ NewOr w (ps i).F F' ∧ Off (ps i).F w w') (hc : BookOk c) {bs : Nat → Book} (hbs : ∀ j, j < 4 → bs j = (ps j).b) : Turn w S ps (setN bs i c) w' := by
  obtain ⟨F', h1, h2, h3⟩ := hx
  obtain ⟨k1, k2, k3⟩ := h.turn hi h1 h2 h3 hc
  refine ⟨_, k1, fun j hj => ?_, k2, k3⟩
  unfold setN
  by_cases e : j = i
  · subst e; rw [setS_same, if_pos rfl]
  · rw [setS_other _ _ e, if_neg e, hbs j hj]
theorem Turn.more {w w' w'' : World} {S : Nat} {ps : Nat → Pst} {bs : Nat → Book} (h : Turn w S ps bs w') (hb : Below w'.heap.size w' w'') : Turn w S ps bs w'' := by
  obtain ⟨ps', h1, h2, h3, h4⟩ := h.ex
  refine ⟨ps', h1.below hb, h2, h3, ⟨hb.os.trans h4.os, hb.tape.trans h4.tape, hb.output.trans h4.output, Nat.le_trans h4.size hb.size, fun k hk hn => (hb.block k (Nat.lt_of_lt_of_le hk h4.size)).trans (h4.block k hk hn)⟩⟩
theorem Turn.ahead {w0 w w' : World} {S : Nat} {ps : Nat → Pst} {bs : Nat → Book} (hb : Below w0.heap.size w0 w) (h : Turn w S ps bs w') : Turn w0 S ps bs w' := by
  obtain ⟨ps', h1, h2, h3, h4⟩ := h.ex
  refine ⟨ps', h1, h2, fun k hk => (h3 k hk).imp id (fun h => Nat.le_trans hb.size h), ⟨h4.os.trans hb.os, h4.tape.trans hb.tape, h4.output.trans hb.output, Nat.le_trans hb.size h4.size, fun k hk hn => (h4.block k (Nat.lt_of_lt_of_le hk hb.size) hn).trans (hb.block k hk)⟩⟩
def DoesPost (w : World) (S : Nat) (ps : Nat → Pst) (r : (ByteArray × Int) × (Nat → Book)) (e : Ending) (w' : World) : Prop :=
  e = .returned (.tuple #[.string r.1.1, .int .i64 r.1.2]) ∧ Turn w S ps r.2 w'
theorem Turn.books {w w' : World} {S : Nat} {ps : Nat → Pst} {bs bs' : Nat → Book} (h : Turn w S ps bs w') (e : ∀ j, j < 4 → bs j = bs' j) : Turn w S ps bs' w' := by
  obtain ⟨ps', h1, h2, h3, h4⟩ := h.ex
  exact ⟨ps', h1, fun j hj => (h2 j hj).trans (e j hj), h3, h4⟩
end Go.Proofs.YtdfkaijeppdhaaaGreatDoor

/- Texts of this claim, laid together: Fj, Fk. -/

/- Contracts: does. -/
namespace Go.Proofs.YtdfkaijeppdhaaaGreatDoor
open Go.RowKit Go.Shelf
theorem cut_any (line : ByteArray) (hs : line.size ≤ 1000000) (w : World) (hV : Vars w) :
    Calls Tryz.prog 80 #[.string line, .string ⟨#[32]⟩] w fun e w' => e = .returned (.tuple #[.string (firstW line), .string (restW line), .bool (Lib.cut line.data.toList [32]).2.2]) ∧ Below w.heap.size w w' := by
  obtain ⟨m, hm⟩ := hV.ml
  refine (Tryz.strings_Cut line ⟨#[32]⟩ m w (by omega) hm).mono ?_
  rintro e w' ⟨rfl, n, rfl⟩
  exact ⟨rfl, belowD (Below.refl _ _) _⟩
theorem cutPrefix_any (s : ByteArray) (w : World) :
    Calls Tryz.prog 82 #[.string s, .string ⟨#[106, 111, 105, 110, 32]⟩] w fun e w' => e = .returned (.tuple #[.string (otherW s), .bool (isJoin s)]) ∧ w = w' := by
  refine (Tryz.strings_CutPrefix s ⟨#[106, 111, 105, 110, 32]⟩ w).mono ?_
  rintro e w' ⟨rfl, rfl⟩
  exact ⟨rfl, rfl⟩
theorem postV_no {s : ByteArray} (h : numV s = none) : postV s = none := by unfold postV; rw [h]
theorem postV_out {s : ByteArray} {v : Int} (h : numV s = some v) (hb : betw 0 v 3 = false) : postV s = none := by unfold postV; rw [h]; simp [hb]
theorem postV_in {s : ByteArray} {v : Int} (h : numV s = some v) (hb : betw 0 v 3 = true) : postV s = some v.toNat := by unfold postV; rw [h]; simp [hb]
set_option maxRecDepth 100000 in
set_option maxHeartbeats 8000000 in
theorem does_any (askB : Book → ByteArray → ByteArray × Int) (line : ByteArray) (hs : line.size ≤ 1000000) (w : World) (S cap : Nat) (ps : Nat → Pst) (h : PostsAt w S ps)
    (hask : ∀ i W, i < 4 → postV (firstW line) = some i → Cmd.askO (parseB (restW line)) = true → Below w.heap.size w W → Calls Tryz.prog 36 #[.pointer (some ⟨(ps i).P, 0, none⟩), .string (restW line)] W (AnsPost (askB (ps i).b (restW line)) W)) :
    Calls Tryz.prog 47 #[.slice (some ⟨S, 0, none⟩) 4 cap, .string line] w (DoesPost w S ps (doesB askB (fun j => (ps j).b) line)) := by
  have hsf := first_size line
  have hsr := rest_size line
  have hso := other_size (restW line)
  have HCU := Lib.hid (cut_any line hs w h.posts.vars)
  have HP := Lib.hid h
  have HASK := Lib.hid hask
  clear hask h
  obtain ⟨R, hR⟩ : ∃ R, R = doesB askB (fun j => (ps j).b) line := ⟨_, rfl⟩
  have HR := Lib.hid hR
  rw [← hR]
  unfold doesB at HR
  clear hR
  obtain ⟨q2, hq2⟩ : ∃ q, q = (Lib.cut line.data.toList [32]).2.2 := ⟨_, rfl⟩
  rw [← hq2] at HCU
  clear hq2
  generalize firstW line = fw at *
  generalize restW line = rw0 at *
  have HCP := Lib.hid (fun W => cutPrefix_any rw0 W)
  cases hn : numV fw with
  | none =>
    have HNO := Lib.hid (fun W (hW : KB w W) => number_no fw hn (by omega) W (HP.out.posts.vars.below hW))
    have HRX : Hid (R = ((emp, 100), fun j => (ps j).b)) := Lib.hid (by rw [HR.out, postV_no hn])
    unfold NoNum at HNO
    clear hn
    go_enter Tryz.func47, Tryz.ntmps47
    go_wp2_with fail
    refine HCU.out.mono ?_
    rintro e w1 ⟨rfl, hb1⟩
    have HB1 := Lib.hid hb1
    have HP1 := Lib.hid (HP.out.below hb1)
    clear hb1
    go_wp2_with fail
    refine (HNO.out _ HB1.out).mono ?_
    rintro e w2 ⟨y, rfl, hb2⟩
    have HB2 := Lib.hid (KB.call HB1.out hb2)
    clear hb2
    go_wp2
    go_ret2
    rw [HRX.out]
    exact ⟨rfl, Turn.refl HP.out HB2.out⟩
  | some v =>
    have HNO := Lib.hid (fun W (hW : KB w W) => number_ok fw v hn (by omega) W (HP.out.posts.vars.below hW))
    cases hb : betw 0 v 3 with
    | false =>
      have HRX : Hid (R = ((emp, 100), fun j => (ps j).b)) := Lib.hid (by rw [HR.out, postV_out hn hb])
      have HBT := Lib.hid hb
      clear hn hb
      go_enter Tryz.func47, Tryz.ntmps47
      go_wp2_with fail
      refine HCU.out.mono ?_
      rintro e w1 ⟨rfl, hb1⟩
      have HB1 := Lib.hid hb1
      have HP1 := Lib.hid (HP.out.below hb1)
      clear hb1
      go_wp2_with fail
      refine (HNO.out _ HB1.out).mono ?_
      rintro e w2 ⟨rfl, hb2⟩
      have HB2 := Lib.hid (KB.call HB1.out hb2)
      clear hb2
      go_wp2_with fail
      refine (between_any _ _ _ _).mono ?_
      rintro e w3 ⟨rfl, rfl⟩
      rw [HBT.out]
      go_wp2
      go_ret2
      rw [HRX.out]
      exact ⟨rfl, Turn.refl HP.out HB2.out⟩
    | true =>
      obtain ⟨hv0, hv3⟩ := (betw_iff _ _ _).1 hb
      obtain ⟨n, rfl⟩ : ∃ n : Nat, v = (n : Int) := ⟨v.toNat, (Int.toNat_of_nonneg hv0).symm⟩
      have hpv : postV fw = some n := by rw [postV_in hn hb]; simp
      have HPV := Lib.hid hpv
      have hn4 : n < 4 := by omega
      have i2 : (n : Int) < 4 := by omega
      have HBT := Lib.hid hb
      rw [hpv] at HR
      simp only at HR
      clear hn hb hpv
      cases hj : isJoin rw0 with
      | true =>
        rw [hj] at HCP HR
        simp only [if_true] at HR
        generalize otherW rw0 = ow at *
        clear hj
        cases hn2 : numV ow with
        | none =>
          have HNX := Lib.hid (fun W (hW : KB w W) => number_no ow hn2 (by omega) W (HP.out.posts.vars.below hW))
          have HRX : Hid (R = ((emp, 100), fun j => (ps j).b)) := Lib.hid (by rw [HR.out, postV_no hn2])
          unfold NoNum at HNX
          clear hn2
          go_enter Tryz.func47, Tryz.ntmps47
          go_wp2_with fail
          refine HCU.out.mono ?_
          rintro e w1 ⟨rfl, hb1⟩
          have HB1 := Lib.hid hb1
          have HP1 := Lib.hid (HP.out.below hb1)
          clear hb1
          go_wp2_with fail
          refine (HNO.out _ HB1.out).mono ?_
          rintro e w2 ⟨rfl, hb2⟩
          have HB2 := Lib.hid (KB.call HB1.out hb2)
          clear hb2
          have c0 := keep_cell HB2.out (HP.out.row n hn4)
          go_wp2_with fail
          refine (between_any _ _ _ _).mono ?_
          rintro e w3 ⟨rfl, rfl⟩
          rw [HBT.out]
          go_wp2_with fail
          refine (HCP.out _).mono ?_
          rintro e w4 ⟨rfl, rfl⟩
          go_wp2_with fail
          refine (HNX.out _ HB2.out).mono ?_
          rintro e w5 ⟨y, rfl, hb5⟩
          have HB5 := Lib.hid (KB.call HB2.out hb5)
          clear hb5
          go_wp2
          go_ret2
          rw [HRX.out]
          exact ⟨rfl, Turn.refl HP.out HB5.out⟩
        | some v2 =>
          have HNX := Lib.hid (fun W (hW : KB w W) => number_ok ow v2 hn2 (by omega) W (HP.out.posts.vars.below hW))
          cases hb2x : betw 0 v2 3 with
          | false =>
            have HRX : Hid (R = ((emp, 100), fun j => (ps j).b)) := Lib.hid (by rw [HR.out, postV_out hn2 hb2x])
            have HBX := Lib.hid hb2x
            clear hn2 hb2x
            go_enter Tryz.func47, Tryz.ntmps47
            go_wp2_with fail
            refine HCU.out.mono ?_
            rintro e w1 ⟨rfl, hb1⟩
            have HB1 := Lib.hid hb1
            have HP1 := Lib.hid (HP.out.below hb1)
            clear hb1
            go_wp2_with fail
            refine (HNO.out _ HB1.out).mono ?_
            rintro e w2 ⟨rfl, hb2⟩
            have HB2 := Lib.hid (KB.call HB1.out hb2)
            clear hb2
            have c0 := keep_cell HB2.out (HP.out.row n hn4)
            go_wp2_with fail
            refine (between_any _ _ _ _).mono ?_
            rintro e w3 ⟨rfl, rfl⟩
            rw [HBT.out]
            go_wp2_with fail
            refine (HCP.out _).mono ?_
            rintro e w4 ⟨rfl, rfl⟩
            go_wp2_with fail
            refine (HNX.out _ HB2.out).mono ?_
            rintro e w5 ⟨rfl, hb5⟩
            have HB5 := Lib.hid (KB.call HB2.out hb5)
            clear hb5
            go_wp2_with fail
            refine (between_any _ _ _ _).mono ?_
            rintro e w6 ⟨rfl, rfl⟩
            rw [HBX.out]
            go_wp2
            go_ret2
            rw [HRX.out]
            exact ⟨rfl, Turn.refl HP.out HB5.out⟩
          | true =>
            obtain ⟨hk0, hk3⟩ := (betw_iff _ _ _).1 hb2x
            obtain ⟨k, rfl⟩ : ∃ k : Nat, v2 = (k : Int) := ⟨v2.toNat, (Int.toNat_of_nonneg hk0).symm⟩
            have hk4 : k < 4 := by omega
            have i3 : (k : Int) < 4 := by omega
            have hpk : postV ow = some k := by rw [postV_in hn2 hb2x]; simp
            rw [hpk] at HR
            simp only at HR
            have HBX := Lib.hid hb2x
            have HOKJ := Lib.hid (joinV_ok (HP.out.ok n hn4) (HP.out.ok k hk4))
            have HJ := Lib.hid (fun W (hW : KB w W) => join_post (ps n).P n (ps n).F (ps n).b (ps k).P k (ps k).F (ps k).b W (by have h9 := (HP.out.below hW).posts.post n hn4; rw [HP.out.num n hn4] at h9; exact h9) (by have h9 := (HP.out.below hW).posts.post k hk4; rw [HP.out.num k hk4] at h9; exact h9) (HP.out.ok n hn4) (HP.out.ok k hk4))
            clear hn2 hb2x hpk
            generalize joinV (ps n).b (ps k).b = jr at *
            obtain ⟨jre, jrb⟩ := jr
            go_enter Tryz.func47, Tryz.ntmps47
            go_wp2_with fail
            refine HCU.out.mono ?_
            rintro e w1 ⟨rfl, hb1⟩
            have HB1 := Lib.hid hb1
            have HP1 := Lib.hid (HP.out.below hb1)
            clear hb1
            go_wp2_with fail
            refine (HNO.out _ HB1.out).mono ?_
            rintro e w2 ⟨rfl, hb2⟩
            have HB2 := Lib.hid (KB.call HB1.out hb2)
            clear hb2
            have c0 := keep_cell HB2.out (HP.out.row n hn4)
            go_wp2_with fail
            refine (between_any _ _ _ _).mono ?_
            rintro e w3 ⟨rfl, rfl⟩
            rw [HBT.out]
            go_wp2_with fail
            refine (HCP.out _).mono ?_
            rintro e w4 ⟨rfl, rfl⟩
            go_wp2_with fail
            refine (HNX.out _ HB2.out).mono ?_
            rintro e w5 ⟨rfl, hb5⟩
            have HB5 := Lib.hid (KB.call HB2.out hb5)
            clear hb5
            have c1 := keep_cell HB5.out (HP.out.row k hk4)
            go_wp2_with fail
            refine (between_any _ _ _ _).mono ?_
            rintro e w6 ⟨rfl, rfl⟩
            rw [HBX.out]
            go_wp2_with fail
            refine (HJ.out _ HB5.out).mono ?_
            rintro e w7 ⟨rfl, hex⟩
            have HT := Lib.hid (Turn.ahead HB5.out (Turn.of (HP.out.below HB5.out) hn4 hex HOKJ.out (bs := fun j => (ps j).b) (fun j hj => rfl)))
            obtain ⟨F', hpa, _, _⟩ := hex
            have HBK := Lib.hid (book_post (ps n).P n F' jrb w7 hpa HOKJ.out)
            have hV7 : Vars w7 := by obtain ⟨ps', h1, _⟩ := HT.out.ex; exact h1.posts.vars
            have HV7 := Lib.hid hV7
            clear hpa hV7
            go_wp2_with fail
            refine HBK.out.mono ?_
            rintro e w8 ⟨lv, rfl, hl8, ho8, hb8⟩
            obtain ⟨la, lc, rfl⟩ := own_shape hl8
            have hll : (allB jrb).length = lenB jrb := allB_len jrb
            have hle := lenB_le HOKJ.out
            have HB8 := Lib.hid hb8
            have HI := Lib.hid (itoa_any ((lenB jrb : Nat) : Int) (by omega) (by omega) w8 (HV7.out.below hb8))
            clear hl8 ho8 hb8
            rw [hll]
            go_wp2_with fail
            refine HI.out.mono ?_
            rintro e w9 ⟨rfl, hb9⟩
            have HB9 := Lib.hid (below_trans HB8.out hb9)
            clear hb9
            go_wp2
            go_ret2
            rw [HR.out]
            exact ⟨rfl, HT.out.more HB9.out⟩
      | false =>
        rw [hj] at HCP HR
        simp only [Bool.false_eq_true, if_false] at HR
        clear hj
        generalize otherW rw0 = ow at *
        have HPA := Lib.hid (fun W (hW : KB w W) => parse_any rw0 (by omega) W (HP.out.posts.vars.below hW))
        go_enter Tryz.func47, Tryz.ntmps47
        go_wp2_with fail
        refine HCU.out.mono ?_
        rintro e w1 ⟨rfl, hb1⟩
        have HB1 := Lib.hid hb1
        have HP1 := Lib.hid (HP.out.below hb1)
        clear hb1
        go_wp2_with fail
        refine (HNO.out _ HB1.out).mono ?_
        rintro e w2 ⟨rfl, hb2⟩
        have HB2 := Lib.hid (KB.call HB1.out hb2)
        clear hb2
        have c0 := keep_cell HB2.out (HP.out.row n hn4)
        go_wp2_with fail
        refine (between_any _ _ _ _).mono ?_
        rintro e w3 ⟨rfl, rfl⟩
        rw [HBT.out]
        go_wp2_with fail
        refine (HCP.out _).mono ?_
        rintro e w4 ⟨rfl, rfl⟩
        go_wp2_with fail
        refine (HPA.out _ HB2.out).mono ?_
        rintro e w5 ⟨⟨pv, rfl, hpv⟩, hb5⟩
        have hta := assert_deed hpv w5
        have htb := assert_ask hpv w5
        have HB5 := Lib.hid (KB.call HB2.out hb5)
        clear hb5 hpv c0
        cases hd : Cmd.deedO (parseB rw0) with
        | true =>
          rw [hd] at hta HR
          unfold ifV at hta
          simp only [if_true] at hta HR
          clear htb hd
          have HDO := Lib.hid (do_any (ps n).P n hn4 (ps n).F (ps n).b rw0 (by omega) w5 (by have h9 := (HP.out.below HB5.out).posts.post n hn4; rw [HP.out.num n hn4] at h9; exact h9) (HP.out.ok n hn4) (HP.out.posts.vars.below HB5.out) (HP.out.posts.free n hn4))
          have HOKD := Lib.hid (doB_ok (HP.out.ok n hn4) hn4 rw0)
          generalize doB (ps n).b n rw0 = dr at *
          obtain ⟨d0, d1, d2⟩ := dr
          go_wp2_with fail
          refine HDO.out.mono ?_
          rintro e w6 ⟨rfl, hex⟩
          have HT := Lib.hid (Turn.ahead HB5.out (Turn.of (HP.out.below HB5.out) hn4 hex HOKD.out (bs := fun j => (ps j).b) (fun j hj => rfl)))
          clear hex
          go_wp2
          go_ret2
          rw [HR.out]
          exact ⟨rfl, HT.out⟩
        | false =>
          rw [hd] at hta HR
          unfold ifV at hta
          simp only [Bool.false_eq_true, if_false] at hta HR
          clear hd
          cases hq : Cmd.askO (parseB rw0) with
          | true =>
            rw [hq] at htb HR
            unfold ifV at htb
            simp only [if_true] at htb HR
            have HAQ := Lib.hid (HASK.out n w5 hn4 HPV.out hq HB5.out)
            clear hq
            generalize askB (ps n).b rw0 = ar at *
            obtain ⟨a0, a1⟩ := ar
            go_wp2_with fail
            refine HAQ.out.mono ?_
            rintro e w6 ⟨rfl, hb6⟩
            have HB6 := Lib.hid (KB.call HB5.out hb6)
            clear hb6
            go_wp2
            go_ret2
            rw [HR.out]
            exact ⟨rfl, Turn.refl HP.out HB6.out⟩
          | false =>
            rw [hq] at htb HR
            unfold ifV at htb
            simp only [Bool.false_eq_true, if_false] at htb HR
            clear hq
            go_wp2
            go_ret2
            rw [HR.out]
            exact ⟨rfl, Turn.refl HP.out HB5.out⟩
end Go.Proofs.YtdfkaijeppdhaaaGreatDoor
/- Contracts: Play. -/
namespace Go.Proofs.YtdfkaijeppdhaaaGreatDoor
open Go.RowKit Go.Shelf
def errW : ByteArray := ⟨#[101, 114, 114, 111, 114, 32]⟩
def playA (r : ByteArray × Int) : ByteArray := if r.2 = 0 then r.1 else errW ++ itoaB r.2
def playN (askB : Book → ByteArray → ByteArray × Int) (lines : List ByteArray) : Nat → List ByteArray × (Nat → Book)
  | 0 => ([], fun _ => empB)
  | k + 1 => ((playN askB lines k).1 ++ [playA (doesB askB (playN askB lines k).2 (lines.getD k emp)).1], (doesB askB (playN askB lines k).2 (lines.getD k emp)).2)
theorem doesB_congr (askB : Book → ByteArray → ByteArray × Int) {bs bs' : Nat → Book} (h : ∀ j, j < 4 → bs j = bs' j) (line : ByteArray) : (doesB askB bs line).1 = (doesB askB bs' line).1 ∧ ∀ j, j < 4 → (doesB askB bs line).2 j = (doesB askB bs' line).2 j := by
  unfold doesB
  cases hp : postV (firstW line) with
  | none => exact ⟨rfl, h⟩
  | some n =>
    have hn := (postV_some hp).2
    have hset : ∀ (c c' : Book), c = c' → ∀ j, j < 4 → setN bs n c j = setN bs' n c' j := fun c c' e j hj => by
      unfold setN
      split
      · exact e
      · exact h j hj
    simp only
    rw [h n hn]
    split
    · cases hk : postV (otherW (restW line)) with
      | none => exact ⟨rfl, h⟩
      | some k =>
        simp only
        rw [h k (postV_some hk).2]
        exact ⟨rfl, hset _ _ rfl⟩
    · split
      · exact ⟨rfl, hset _ _ rfl⟩
      · split
        · exact ⟨rfl, h⟩
        · exact ⟨rfl, h⟩
theorem doB_err (b : Book) (n : Nat) (line : ByteArray) : 0 ≤ (doB b n line).2.1 ∧ (doB b n line).2.1 ≤ 1000 := by
  unfold doB
  split
  · simp
  · rename_i c hc
    split
    · simp
    · split
      · simp
      · split
        · simp
        · cases c <;> simp [sayB]
          split <;> simp
theorem doesB_err (askB : Book → ByteArray → ByteArray × Int) (hsm : ∀ b l, 0 ≤ (askB b l).2 ∧ (askB b l).2 ≤ 1000) (bs : Nat → Book) (line : ByteArray) : 0 ≤ (doesB askB bs line).1.2 ∧ (doesB askB bs line).1.2 ≤ 1000 := by
  unfold doesB
  split
  · simp
  · split
    · split
      · simp
      · simp only [joinV]
        split <;> simp
    · split
      · exact doB_err _ _ _
      · split
        · exact hsm _ _
        · simp
theorem play_len (askB : Book → ByteArray → ByteArray × Int) (lines : List ByteArray) : ∀ k, (playN askB lines k).1.length = k
  | 0 => rfl
  | k + 1 => by unfold playN; rw [List.length_append, play_len askB lines k]; rfl

theorem PostAt.types {w : World} {P n : Nat} {F : List Nat} {b : Book} (h : PostAt w P F n b) {k : Nat} (hk : k ∈ F) : ∃ cs t fr, w.heap[k]? = some (.cells cs t fr) ∧ (t = 81 ∨ t = 96 ∨ t = 43) := by
  obtain ⟨K, vs, hP, hvs, rfl⟩ := h.parts
  rcases List.mem_cons.1 hk with rfl | hk
  · exact ⟨_, _, _, hP, .inl rfl⟩
  · rcases List.mem_cons.1 hk with rfl | hk
    · exact ⟨_, _, _, hvs.cells, .inr (.inl rfl)⟩
    · obtain ⟨i, hi, h5⟩ := mem_blks.1 hk
      rcases (hvs.list i hi).2 with ⟨h1, _⟩ | ⟨g', cap', cur, h1, _, h2, _⟩
      · rw [h1] at h5; cases h5
      · rw [h1] at h5
        have : g' = k := by simpa [Value.ownBlock] using h5
        subst this
        exact ⟨_, _, _, h2, .inr (.inr rfl)⟩
theorem own_type {w : World} {base : Nat} {e : TypeId} {size : Nat} {v : Value} {n : Nat} {xs : List Value} (h : w.ownsRow base e size v n xs) {k : Nat} (hk : v.ownBlock = some k) : ∃ cur, w.heap[k]? = some (.cells cur e (0, 0)) := by
  rcases h.2 with ⟨h1, _⟩ | ⟨g', cap', cur, h1, _, h2, _⟩
  · rw [h1] at hk; cases hk
  · rw [h1] at hk
    have : g' = k := by simpa [Value.ownBlock] using hk
    subst this
    exact ⟨_, h2⟩
/-- A row of strings, or of posts, stands on no block of a post. -/
theorem PostAt.not_own {w : World} {P n : Nat} {F : List Nat} {b : Book} (h : PostAt w P F n b) {base : Nat} {e : TypeId} {size : Nat} {v : Value} {m : Nat} {xs : List Value} (hr : w.ownsRow base e size v m xs) (he : e ≠ 81 ∧ e ≠ 96 ∧ e ≠ 43) {k : Nat} (hk : k ∈ F) : v.ownBlock ≠ some k := fun hv => by
  obtain ⟨cs, t, fr, h1, h2⟩ := h.types hk
  obtain ⟨cur, h3⟩ := own_type hr hv
  rw [h1] at h3
  simp only [Option.some.injEq, Obj.cells.injEq] at h3
  obtain ⟨_, rfl, _⟩ := h3
  rcases h2 with h2 | h2 | h2
  · exact he.1 h2
  · exact he.2.1 h2
  · exact he.2.2 h2
theorem own_keep {w w' : World} {base : Nat} {e : TypeId} {size : Nat} {v : Value} {n : Nat} {xs : List Value} (h : w.ownsRow base e size v n xs) (hk : ∀ k, v.ownBlock = some k → w'.heap[k]? = w.heap[k]?) : w'.ownsRow base e size v n xs := by
  refine ⟨h.1, ?_⟩
  rcases h.2 with hn | ⟨g, cap, cur, rfl, hbg, hg, hrest⟩
  · exact .inl hn
  · exact .inr ⟨g, cap, cur, rfl, hbg, (hk g rfl).trans hg, hrest⟩
theorem Posts.grown {w w' : World} {m : Nat} {ps : Nat → Pst} (h : Posts w m ps) {base : Nat} {e : TypeId} {size : Nat} {v : Value} {n : Nat} {xs : List Value} (hr : w.ownsRow base e size v n xs) (he : e ≠ 81 ∧ e ≠ 96 ∧ e ≠ 43) (hv : ∀ k, isVar k → k < base) (hg : w.grownBy w' v.ownBlock) : Posts w' m ps :=
  h.keep (fun k hk => hg.block k (h.vars.lt hk) fun e2 => by have := (hr.lt k e2.symm).1; have := hv k hk; omega) fun i hi k hk => hg.block k (h.lt hi hk) fun e2 => (h.post i hi).not_own hr he hk e2.symm
def ptrs (ps : Nat → Pst) (k : Nat) : List Value := (List.range k).map fun j => .pointer (some ⟨(ps j).P, 0, none⟩)
theorem ptrs_snoc (ps : Nat → Pst) (k : Nat) (p : Pst) : ptrs (setS ps k p) (k + 1) = ptrs ps k ++ [.pointer (some ⟨p.P, 0, none⟩)] := by
  unfold ptrs
  rw [List.range_succ, List.map_append, List.map_singleton, setS_same]
  congr 1
  refine List.map_congr_left fun j hj => ?_
  rw [setS_other _ _ (by have := List.mem_range.1 hj; omega)]
theorem ptrs_at (ps : Nat → Pst) {k j : Nat} (h : j < k) : (ptrs ps k)[j]? = some (.pointer (some ⟨(ps j).P, 0, none⟩)) := by
  unfold ptrs
  rw [List.getElem?_map, List.getElem?_range h]; rfl
theorem Tryz.infoPtr : (Tryz.prog.info? 33).map (fun i => (i.zero, i.size, i.bytes)) = some (some (.pointer none), 1, 8) := by kernel_rfl
end Go.Proofs.YtdfkaijeppdhaaaGreatDoor

/- Texts of this claim, laid together: Fl, Fm. -/

/- Contracts: Play. -/
namespace Go.Proofs.YtdfkaijeppdhaaaGreatDoor
open Go.RowKit Go.Shelf
/-- What Play hands back. -/
def PlayPost (outs : List ByteArray) (w : World) (e : Ending) (w' : World) : Prop :=
  ∃ v, e = .returned (.tuple #[v, .int .i64 0]) ∧ w'.ownsRow w.heap.size 9 1 v outs.length (outs.map Value.string) ∧ Below w.heap.size w w'
theorem str_types : (9 : Nat) ≠ 81 ∧ (9 : Nat) ≠ 96 ∧ (9 : Nat) ≠ 43 := by decide
theorem ptr_types : (33 : Nat) ≠ 81 ∧ (33 : Nat) ≠ 96 ∧ (33 : Nat) ≠ 43 := by decide
structure Made (w : World) (k : Nat) (o : Value) (ps : Nat → Pst) (wr : World) : Prop where
  row : wr.ownsRow w.heap.size 33 1 o k (ptrs ps k)
  posts : Posts wr k ps
  news : ∀ j, j < k → (ps j).n = j ∧ (ps j).b = empB
  below : Below w.heap.size w wr
  fresh : ∀ j, j < k → ∀ g ∈ (ps j).F, w.heap.size ≤ g
structure Played (askB : Book → ByteArray → ByteArray × Int) (lines : List ByteArray) (w : World) (S k : Nat) (cur : Array Value) (o : Value) (ps : Nat → Pst) (wr : World) : Prop where
  row : wr.ownsRow w.heap.size 9 1 o k ((playN askB lines k).1.map Value.string)
  posts : PostsAt wr S ps
  books : ∀ j, j < 4 → (ps j).b = (playN askB lines k).2 j
  below : Below w.heap.size w wr
  slice : wr.heap[S]? = some (.cells cur 33 (0, 0))
  fresh : ∀ g ∈ U ps, w.heap.size ≤ g
theorem Made.next {w : World} {k : Nat} {o : Value} {ps : Nat → Pst} {wr : World} (h : Made w k o ps wr) (hV : ∀ j, isVar j → j < w.heap.size) {w1 w2 : World} {p : Pst} {v' : Value} {ob : Obj} (hp : PostAt w1 p.P p.F p.n p.b) (hF : NewOr wr [] p.F) (hb : Below wr.heap.size wr w1) (hn : p.n = k ∧ p.b = empB)
    (hrow : w2.ownsRow w.heap.size 33 1 v' (k + 1) (ptrs ps k ++ [.pointer (some ⟨p.P, 0, none⟩)])) (hg : (w1.alloc ob).grownBy w2 o.ownBlock) : Made w (k + 1) v' (setS ps k p) w2 := by
  have hr1 : (w1.alloc ob).ownsRow w.heap.size 33 1 o k (ptrs ps k) := own_below h.row (hb.alloc hb.size _)
  have hP1 := h.posts.grow hp hF hb
  have hP2 := hP1.below ((Below.refl _ w1).alloc (Nat.le_refl _) ob)
  have hsz := h.below.size
  have hsz2 := hb.size
  refine ⟨by rw [ptrs_snoc]; exact hrow, hP2.grown hr1 ptr_types hV hg, fun j hj => ?_, ?_, fun j hj g hg2 => ?_⟩
  · by_cases e : j = k
    · subst e; rw [setS_same]; exact hn
    · rw [setS_other _ _ e]; exact h.news j (by omega)
  · exact below_append (h.below.trans (hb.mono hsz)) (by omega) (own_below h.row hb) (Nat.le_refl _) hg
  · by_cases e : j = k
    · subst e
      rw [setS_same] at hg2
      have := (hF g hg2).resolve_left (by simp)
      omega
    · rw [setS_other _ _ e] at hg2
      exact h.fresh j (by omega) g hg2
theorem Played.next {askB : Book → ByteArray → ByteArray × Int} {lines : List ByteArray} {w : World} {S k : Nat} {cur : Array Value} {o : Value} {ps : Nat → Pst} {wr : World} (h : Played askB lines w S k cur o ps wr) (hV : ∀ j, isVar j → j < w.heap.size) {w1 w1' w2 : World} {v' : Value} {ob : Obj}
    (hT : Turn wr S ps (doesB askB (fun j => (ps j).b) (lines.getD k emp)).2 w1) (hb1 : Below w1.heap.size w1 w1')
    (hrow : w2.ownsRow w.heap.size 9 1 v' (k + 1) ((playN askB lines k).1.map Value.string ++ [.string (playA (doesB askB (fun j => (ps j).b) (lines.getD k emp)).1)])) (hg : (w1'.alloc ob).grownBy w2 o.ownBlock) : ∃ ps', Played askB lines w S (k + 1) cur v' ps' w2 := by
  obtain ⟨ps', h1, h2, h3, h4⟩ := (hT.more (hb1.alloc hb1.size ob)).ex
  have hsz := h.below.size
  have hrx : (w1'.alloc ob).ownsRow w.heap.size 9 1 o k ((playN askB lines k).1.map Value.string) := own_keep h.row fun g hg0 => h4.block g (by have := h.row.lt g hg0; exact this.2) fun hm => by
    obtain ⟨i, hi, hm⟩ := mem_U.1 hm
    exact (h.posts.posts.post i hi).not_own h.row str_types hm hg0
  have hfr : ∀ g ∈ U ps', w.heap.size ≤ g := fun g hm => (h3 g hm).elim (h.fresh g) (fun h9 => Nat.le_trans hsz h9)
  have hbx : Below w.heap.size w (w1'.alloc ob) := h.below.trans (h4.below hsz h.fresh)
  have hcg := doesB_congr askB h.books (lines.getD k emp)
  have hS : (w1'.alloc ob).heap[S]? = some (.cells cur 33 (0, 0)) := (h4.block S h.posts.lt h.posts.own).trans h.slice
  have hoS : some S ≠ o.ownBlock := fun e => by
    obtain ⟨c2, h9⟩ := own_type hrx e.symm
    rw [hS] at h9
    simp at h9
  have hSg : w2.heap[S]? = (w1'.alloc ob).heap[S]? := hg.block S (Array.getElem?_eq_some_iff.1 hS).1 hoS
  refine ⟨ps', ⟨by
    have : (playN askB lines (k + 1)).1 = (playN askB lines k).1 ++ [playA (doesB askB (fun j => (ps j).b) (lines.getD k emp)).1] := by rw [hcg.1]; rfl
    rw [this, List.map_append]; exact hrow, ⟨h1.posts.grown hrx str_types hV hg, fun j hj => ?_, h1.own, h1.ok, h1.num⟩, fun j hj => ?_, ?_, hSg.trans hS, hfr⟩⟩
  · rw [World.cell?_of_block hSg]; exact h1.row j hj
  · rw [h2 j hj, hcg.2 j hj]; rfl
  · exact hbx.grown hg (by have := hbx.size; omega) (fun g e => (hrx.lt g e).1)
set_option maxRecDepth 100000 in
set_option maxHeartbeats 8000000 in
theorem play_any (askB : Book → ByteArray → ByteArray × Int) (hsm : ∀ b l, 0 ≤ (askB b l).2 ∧ (askB b l).2 ≤ 1000) (lv : Value) (lines : List ByteArray) (w : World) (hL : StrsAt w lv lines) (hl : lines.length ≤ 100) (hsz : ∀ x ∈ lines, x.size ≤ 1000000) (hV : Vars w)
    (hask : ∀ k, k < lines.length → ∀ P n F b W, n < 4 → PostAt W P F n b → BookOk b → Vars W → Cmd.askO (parseB (restW (lines.getD k emp))) = true → Calls Tryz.prog 36 #[.pointer (some ⟨P, 0, none⟩), .string (restW (lines.getD k emp))] W (AnsPost (askB b (restW (lines.getD k emp))) W)) :
    Calls Tryz.prog 17 #[lv] w (PlayPost (playN askB lines lines.length).1 w) := by
  obtain ⟨i0, hi0, hz0, hz1, hz2⟩ := info_parts Tryz.infoPtr
  obtain ⟨i1, hi1, hy0, hy1, hy2⟩ := info_parts Tryz.infoStr
  have HV := Lib.hid hV
  have HVL := Lib.hid (fun j hj => hV.lt (k := j) hj)
  have HASK := Lib.hid hask
  have HSZ := Lib.hid hsz
  obtain ⟨la, lcap, rfl, hcap, hcc, hq⟩ := hL
  have HQ := Lib.hid hq
  obtain ⟨nl, hnl⟩ : ∃ nl, nl = lines.length := ⟨_, rfl⟩
  have HN := Lib.hid hnl
  rw [← hnl] at hcap hl ⊢
  have HLI : Hid (∀ k, k < nl → ∃ b off, la = some ⟨b, off, none⟩ ∧ w.cell? ⟨b, off + k, none⟩ = some (.string (lines.getD k emp))) := Lib.hid (fun k hk => by
    obtain ⟨b, off, h1, h2⟩ := hq (by omega)
    exact ⟨b, off, h1, h2 k (by omega)⟩)
  clear hnl hV hask hsz hq
  go_enter Tryz.func17, Tryz.ntmps17
  go_wp2
  go_loopw [4, 16] (fun o i wr => ∃ (k : Nat) (ps : Nat → Pst), k ≤ 4 ∧ i = .int .i64 k ∧ Hid (Made w k o ps wr)) (fun _ i _ => 4 - (intOf i).toNat)
  case atStart => exact ⟨0, fun _ => ⟨0, [], 0, empB⟩, by omega, rfl, Lib.hid ⟨World.ownsRow_nil _ _ _ _, Posts.nil HV.out _, fun j hj => by omega, Below.refl _ _, fun j hj => by omega⟩⟩
  case round =>
    obtain ⟨k, ps, hk, rfl, hm⟩ := hrel
    by_cases hlt : k < 4
    · have hlt2 : (k : Int) < 4 := by omega
      have hrow := hm.out.row
      obtain ⟨oa, oc, rfl⟩ := own_shape hrow
      have hb1 : Below wr.heap.size wr ((wr.alloc (.cells #[.slice none 0 0, .slice none 0 0, .slice none 0 0, .slice none 0 0] 96)).alloc (.cells #[.pointer (some ⟨wr.heap.size, 0, none⟩), .int .i64 k] 81)) := ((Below.refl _ _).alloc (Nat.le_refl _) _).alloc (by simp) _
      have HNP := Lib.hid (new_post k wr)
      have HNW := Lib.hid (new_any k hlt wr)
      have hszr := hm.out.below.size
      clear hrow
      go_wp2_with fail
      refine HNW.out.mono ?_
      rintro e w1 ⟨rfl, hw1⟩
      rw [← hw1] at hb1 HNP
      have HO1 := Lib.hid (own_below hm.out.row hb1)
      have HB1 := Lib.hid hb1
      have hsz2 : w.heap.size ≤ w1.heap.size := Nat.le_trans hszr hb1.size
      clear hw1 hb1
      go_wp2_with (at_builtin; refine wpList_append_own _ rfl _ _ 31 rfl w.heap.size 33 i0 (.pointer none) 1 8 Tryz.underlying31 hi0 hz0 hz1 hz2 rfl (by decide) _ _ _ rfl (HO1.out.alloc _) ⟨w1.heap.size, 0, none⟩ 1 1 [.pointer (some ⟨wr.heap.size + 1, 0, none⟩)] rfl rfl ?c1 ?c2 ?c3 ?c4 ?c5 ?_)
      case c1 => exact (cell_one_new _ _ _)
      case c2 => intro u hu; simp at hu; subst hu; rfl
      case c3 => unfold maxLen; omega
      case c4 => omega
      case c5 => simp; omega
      · intro v' w2 hown' hgrow _
        have HM := Lib.hid (hm.out.next HVL.out (p := ⟨wr.heap.size + 1, [wr.heap.size + 1, wr.heap.size], k, empB⟩) HNP.out (fun g hg => .inr (by simp at hg; omega)) HB1.out ⟨rfl, rfl⟩ hown' hgrow)
        clear hown' hgrow
        go_wp2
        go_roundw
        case rel => exact ⟨k + 1, _, by omega, by go_num, HM⟩
        case measure => simp [intOf]; omega
    · have e : k = 4 := by omega
      subst e
      rw [show ((4 : Nat) : Int) = 4 from rfl]
      have hrow := hm.out.row
      obtain ⟨S, cap, cur, hos, _, hScur, _⟩ := hrow.2.resolve_left (fun h => by simp at h)
      subst hos
      have HP0 : Hid (Played askB lines w S 0 cur (.slice none 0 0) ps wr) := Lib.hid (by
        refine ⟨World.ownsRow_nil _ _ _ _, ⟨hm.out.posts, fun j hj => ?_, fun hmm => ?_, fun j hj => ?_, fun j hj => (hm.out.news j hj).1⟩, fun j hj => (hm.out.news j hj).2, hm.out.below, hScur, fun g hg => ?_⟩
        · have h9 := hrow.cellAt j (by omega)
          rw [h9, ptrs_at ps hj]
        · obtain ⟨i, hi, hmm⟩ := mem_U.1 hmm
          exact (hm.out.posts.post i hi).not_own hrow ptr_types hmm rfl
        · rw [(hm.out.news j hj).2]; exact empB_ok
        · obtain ⟨i, hi, hg⟩ := mem_U.1 hg
          exact hm.out.fresh i hi g hg)
      clear hrow hScur
      go_wp2
      obtain ⟨wo, hwo⟩ : ∃ wo, wo = wr := ⟨_, rfl⟩
      subst hwo
      go_loopw [8, 31] (fun o i wr => ∃ (k : Nat) (ps : Nat → Pst), k ≤ nl ∧ i = .int .i64 k ∧ Hid (Played askB lines w S k cur o ps wr)) (fun _ i _ => nl - (intOf i).toNat)
      case atStart => exact ⟨0, _, Nat.zero_le _, rfl, HP0⟩
      case round =>
        obtain ⟨k, ps, hk, rfl, hp⟩ := hrel
        have hrow := hp.out.row
        obtain ⟨oa, oc, rfl⟩ := own_shape hrow
        clear hrow
        by_cases hlt : k < nl
        · obtain ⟨lb, loff, rfl, hc0⟩ := HLI.out k hlt
          have hc := keep_cell hp.out.below hc0
          have hxs := HSZ.out (lines.getD k emp) (by rw [List.getD_eq_getElem?_getD, List.getElem?_eq_getElem (by rw [← HN.out]; exact hlt)]; exact List.getElem_mem _)
          have hszr := hp.out.below.size
          have HD := Lib.hid (does_any askB (lines.getD k emp) hxs wr S cap ps hp.out.posts (fun i W hi _ hq hb => HASK.out k (by rw [← HN.out]; exact hlt) _ i _ _ W hi (by have h9 := (hp.out.posts.below hb).posts.post i hi; rw [hp.out.posts.num i hi] at h9; exact h9) (hp.out.posts.ok i hi) (hp.out.posts.posts.vars.below hb) hq))
          have HER := Lib.hid (doesB_err askB hsm (fun j => (ps j).b) (lines.getD k emp))
          have HNXT := Lib.hid (fun w1 w1' w2 v' ob (hT : Turn wr S ps (doesB askB (fun j => (ps j).b) (lines.getD k emp)).2 w1) (hb1 : Below w1.heap.size w1 w1') hrow hg => hp.out.next HVL.out (w1 := w1) (w1' := w1') (w2 := w2) (v' := v') (ob := ob) hT hb1 hrow hg)
          have hpl := play_len askB lines k
          unfold DoesPost at HD
          generalize lines.getD k emp = x at *
          generalize doesB askB (fun j => (ps j).b) x = r at *
          obtain ⟨⟨ra, re⟩, rb⟩ := r
          simp only at HER
          clear hc0
          by_cases hz : re = 0
          · subst hz
            go_wp2_with fail
            refine HD.out.mono ?_
            rintro e w1 ⟨rfl, hT⟩
            have HT := Lib.hid hT
            have HO1 : Hid (w1.ownsRow w.heap.size 9 1 (.slice oa k oc) k ((playN askB lines k).1.map Value.string)) := Lib.hid (by
              obtain ⟨ps', h1, h2, h3, h4⟩ := hT.ex
              exact own_keep hp.out.row fun g hg0 => h4.block g (hp.out.row.lt g hg0).2 fun hm => by
                obtain ⟨i, hi, hm⟩ := mem_U.1 hm
                exact (hp.out.posts.posts.post i hi).not_own hp.out.row str_types hm hg0)
            have hsz2 : w.heap.size ≤ w1.heap.size := by obtain ⟨ps', h1, h2, h3, h4⟩ := hT.ex; have := h4.size; omega
            clear hT
            go_wp2_with (at_builtin; refine wpList_append_own _ rfl _ _ 22 rfl w.heap.size 9 i1 (.string ⟨#[]⟩) 1 16 Tryz.underlying22 hi1 hy0 hy1 hy2 rfl (by decide) _ _ _ rfl (HO1.out.alloc _) ⟨w1.heap.size, 0, none⟩ 1 1 [.string ra] rfl rfl ?c1 ?c2 ?c3 ?c4 ?c5 ?_)
            case c1 => exact (cell_one_new _ _ _)
            case c2 => intro u hu; simp at hu; subst hu; rfl
            case c3 => unfold maxLen; omega
            case c4 => omega
            case c5 => simp; omega
            · intro v' w2 hown' hgrow _
              have HM := Lib.hid (HNXT.out _ _ w2 v' _ HT.out (Below.refl _ _) hown' hgrow)
              obtain ⟨psn, h9⟩ := HM.out
              have HMN := Lib.hid h9
              clear hown' hgrow HM h9
              go_wp2
              go_roundw
              case rel => exact ⟨k + 1, psn, by omega, by go_num, HMN⟩
              case measure => simp [intOf]; omega
          · have z0 : (re != 0) = true := by simpa using hz
            go_wp2_with fail
            refine HD.out.mono ?_
            rintro e w1 ⟨rfl, hT⟩
            have HV1 : Hid (Vars w1) := Lib.hid (by obtain ⟨ps', h1, _⟩ := hT.ex; exact h1.posts.vars)
            have HT := Lib.hid hT
            have HO1 : Hid (w1.ownsRow w.heap.size 9 1 (.slice oa k oc) k ((playN askB lines k).1.map Value.string)) := Lib.hid (by
              obtain ⟨ps', h1, h2, h3, h4⟩ := hT.ex
              exact own_keep hp.out.row fun g hg0 => h4.block g (hp.out.row.lt g hg0).2 fun hm => by
                obtain ⟨i, hi, hm⟩ := mem_U.1 hm
                exact (hp.out.posts.posts.post i hi).not_own hp.out.row str_types hm hg0)
            have hsz2 : w.heap.size ≤ w1.heap.size := by obtain ⟨ps', h1, h2, h3, h4⟩ := hT.ex; have := h4.size; omega
            have HI := Lib.hid (itoa_any re (by have := HER.out; omega) (by have := HER.out; omega) w1 HV1.out)
            have HPA : Hid (playA (ra, re) = (⟨#[101, 114, 114, 111, 114, 32]⟩ : ByteArray) ++ itoaB re) := Lib.hid (by unfold playA errW; rw [if_neg hz])
            have hadd : ¬ 9223372036854775807 < 6 + (itoaB re).size := by
              have h9 := itoa_short (n := re) HER.out.1 (by have := HER.out; omega)
              rw [ba_size, show (itoaB re).data.toList = Lib.itoa re from rfl]; omega
            rw [HPA.out] at HNXT
            clear hT
            go_wp2_with fail
            refine HI.out.mono ?_
            rintro e w3 ⟨rfl, hb3⟩
            have HO3 := Lib.hid (own_below HO1.out hb3)
            have hsz3 : w.heap.size ≤ w3.heap.size := Nat.le_trans hsz2 hb3.size
            have HB3 := Lib.hid hb3
            clear hb3
            go_wp2_with (at_builtin; refine wpList_append_own _ rfl _ _ 22 rfl w.heap.size 9 i1 (.string ⟨#[]⟩) 1 16 Tryz.underlying22 hi1 hy0 hy1 hy2 rfl (by decide) _ _ _ rfl (HO3.out.alloc _) ⟨w3.heap.size, 0, none⟩ 1 1 [.string ((⟨#[101, 114, 114, 111, 114, 32]⟩ : ByteArray) ++ itoaB re)] rfl rfl ?c1 ?c2 ?c3 ?c4 ?c5 ?_)
            case c1 => exact (cell_one_new _ _ _)
            case c2 => intro u hu; simp at hu; subst hu; rfl
            case c3 => unfold maxLen; omega
            case c4 => omega
            case c5 => simp; omega
            · intro v' w2 hown' hgrow _
              have HM := Lib.hid (HNXT.out _ _ w2 v' _ HT.out HB3.out hown' hgrow)
              obtain ⟨psn, h9⟩ := HM.out
              have HMN := Lib.hid h9
              clear hown' hgrow HM h9
              go_wp2
              go_roundw
              case rel => exact ⟨k + 1, psn, by omega, by go_num, HMN⟩
              case measure => simp [intOf]; omega
        · have e : k = nl := by omega
          subst e
          have HR := Lib.hid hp.out.row
          have HBE := Lib.hid hp.out.below
          have hpl := play_len askB lines k
          go_wp2
          go_ret2
          exact ⟨_, rfl, by rw [hpl]; exact HR.out, HBE.out⟩
end Go.Proofs.YtdfkaijeppdhaaaGreatDoor
/- Contracts: Same of two lists of strings; Sane. -/
namespace Go.Proofs.YtdfkaijeppdhaaaGreatDoor
open Go.RowKit Go.Shelf
/-- A slice of strings. -/
def StrsW (w : World) (v : Value) (l : List ByteArray) : Prop := ∃ (a : Option Addr) (cap : Nat), v = .slice a l.length cap ∧ (0 < l.length → ∃ b off, a = some ⟨b, off, none⟩ ∧ ∀ j, j < l.length → w.cell? ⟨b, off + j, none⟩ = some (.string (l.getD j emp)))
theorem StrsW.below {w w' : World} {v : Value} {l : List ByteArray} (h : StrsW w v l) (hb : Below w.heap.size w w') : StrsW w' v l := by
  obtain ⟨a, cap, rfl, h⟩ := h
  refine ⟨a, cap, rfl, fun h0 => ?_⟩
  obtain ⟨b, off, ha, hc⟩ := h h0
  exact ⟨b, off, ha, fun j hj => keep_cell hb (hc j hj)⟩
theorem strsW_own {base : Nat} {w : World} {v : Value} {l : List ByteArray} (h : w.ownsRow base 9 1 v l.length (l.map Value.string)) : StrsW w v l := by
  rcases h.2 with ⟨rfl, h0⟩ | ⟨g, cap, cur, rfl, hrest⟩
  · exact ⟨none, 0, by rw [h0], fun h1 => by omega⟩
  · refine ⟨some ⟨g, 0, none⟩, cap, rfl, fun _ => ⟨g, 0, rfl, fun j hj => ?_⟩⟩
    have := h.cellAt j (by omega)
    rw [Nat.zero_add, this, List.getElem?_map, List.getElem?_eq_getElem hj, List.getD_eq_getElem?_getD, List.getElem?_eq_getElem hj]
    rfl
theorem take_next {l m : List ByteArray} {k : Nat} (hl : k < l.length) (hm : k < m.length) (h : l.take k = m.take k) (hx : l.getD k emp = m.getD k emp) : l.take (k + 1) = m.take (k + 1) := by
  rw [List.take_succ_eq_append_getElem hl, List.take_succ_eq_append_getElem hm, h]
  rw [List.getD_eq_getElem?_getD, List.getD_eq_getElem?_getD, List.getElem?_eq_getElem hl, List.getElem?_eq_getElem hm] at hx
  simp at hx
  rw [hx]
set_option maxRecDepth 100000 in
set_option maxHeartbeats 4000000 in
theorem sameS_any (v v2 : Value) (l m : List ByteArray) (hl6 : l.length ≤ 1000000) (w : World) (h : StrsW w v l) (h2 : StrsW w v2 m) :
    Calls Tryz.prog 19 #[v, v2] w (BoolPost (decide (l = m)) w) := by
  obtain ⟨a, cap, rfl, h⟩ := h
  obtain ⟨a2, cap2, rfl, h2⟩ := h2
  obtain ⟨R, hR⟩ : ∃ R, R = decide (l = m) := ⟨_, rfl⟩
  have HR := Lib.hid hR
  rw [← hR]
  clear hR
  by_cases hlen : l.length = m.length
  · have HC1 := Lib.hid (fun k (hk : k < l.length) => (h (by omega)))
    have HC2 := Lib.hid (fun k (hk : k < m.length) => (h2 (by omega)))
    have HE := Lib.hid hlen
    rw [hlen]
    obtain ⟨n, hn⟩ : ∃ n, n = m.length := ⟨_, rfl⟩
    have HN := Lib.hid hn
    rw [← hn]
    have hn6 : n ≤ 1000000 := by omega
    clear h h2 hlen hn
    go_enter Tryz.func19, Tryz.ntmps19
    go_wp2
    go_loopw [5] (fun i wr => ∃ k : Nat, k ≤ n ∧ i = .int .i64 k ∧ Hid (l.take k = m.take k) ∧ Below w.heap.size w wr) (fun i _ => n - (intOf i).toNat)
    case atStart => exact ⟨0, Nat.zero_le _, rfl, Lib.hid rfl, Below.refl _ _⟩
    case round =>
      obtain ⟨k, hk, rfl, ht, hb⟩ := hrel
      by_cases hlt : k < n
      · obtain ⟨b, off, rfl, hc⟩ := HC1.out k (by rw [HE.out, ← HN.out]; exact hlt)
        obtain ⟨b2, off2, rfl, hc2⟩ := HC2.out k (by rw [← HN.out]; exact hlt)
        have c1 := keep_cell hb (hc k (by rw [HE.out, ← HN.out]; exact hlt))
        have c2 := keep_cell hb (hc2 k (by rw [← HN.out]; exact hlt))
        have HT := Lib.hid (fun hx => take_next (l := l) (m := m) (k := k) (by rw [HE.out, ← HN.out]; exact hlt) (by rw [← HN.out]; exact hlt) ht.out hx)
        have HX := Lib.hid (fun (hx : l.getD k emp ≠ m.getD k emp) => show R = false by
          rw [HR.out, decide_eq_false]
          rintro rfl
          exact hx rfl)
        have HB := Lib.hid hb
        clear hc hc2 hb
        generalize l.getD k emp = x at *
        generalize m.getD k emp = y at *
        by_cases hxy : x = y
        · subst hxy
          have HTT := Lib.hid (HT.out rfl)
          go_wp2
          go_quiet (fail)
          go_wp2
          go_roundw
          case rel => exact ⟨k + 1, by omega, by go_num, HTT, belowD HB.out _⟩
          case measure => simp [intOf]; omega
        · have z0 := ba_lne hxy
          have HXX := Lib.hid (HX.out hxy)
          clear hxy
          go_wp2
          go_quiet (fail)
          go_wp2
          go_ret
          rw [HXX.out]
          exact ⟨rfl, belowD HB.out _⟩
      · have e : k = n := by omega
        have HXX : Hid (R = true) := Lib.hid (by
          have h9 := ht.out
          rw [e, HN.out] at h9
          rw [List.take_length, ← HE.out, List.take_length] at h9
          rw [HR.out, h9, decide_eq_true rfl])
        clear e
        go_wp2
        go_ret
        rw [HXX.out]
        exact ⟨rfl, hb⟩
  · have HXX : Hid (R = false) := Lib.hid (by rw [HR.out, decide_eq_false]; rintro rfl; exact hlen rfl)
    have z0 : ¬ (l.length : Int) = (m.length : Int) := by omega
    generalize l.length = n1 at *
    generalize m.length = n2 at *
    clear h h2
    go_enter Tryz.func19, Tryz.ntmps19
    go_wp2
    go_ret
    rw [HXX.out]
    exact ⟨rfl, Below.refl _ _⟩

def askT (b : Book) (line : ByteArray) : ByteArray × Int := match parseB line with
  | some (.asked 0 names _) => askedV ansText names (saysB (allB b))
  | _ => (emp, 0)
def saneL : List ByteArray := [⟨#[48, 32, 112, 117, 116, 32, 97, 32, 120]⟩, ⟨#[49, 32, 112, 117, 116, 32, 97, 32, 121]⟩, ⟨#[48, 32, 106, 111, 105, 110, 32, 49]⟩, ⟨#[48, 32, 116, 101, 120, 116, 32, 97]⟩]
theorem sane_play : (playN askT saneL 4).1 = [⟨#[120]⟩, ⟨#[121]⟩, ⟨#[50]⟩, ⟨#[121]⟩] := by kernel_rfl
theorem sane_ask : ∀ k, k < 4 → Cmd.askO (parseB (restW (saneL.getD k emp))) = true → parseB (restW (saneL.getD k emp)) = some (.asked 0 [⟨#[97]⟩] []) := by
  intro k hk h
  rcases (show k = 0 ∨ k = 1 ∨ k = 2 ∨ k = 3 by omega) with rfl | rfl | rfl | rfl
  · exact absurd h (by rw [show Cmd.askO (parseB (restW (saneL.getD 0 emp))) = false by kernel_rfl]; decide)
  · exact absurd h (by rw [show Cmd.askO (parseB (restW (saneL.getD 1 emp))) = false by kernel_rfl]; decide)
  · exact absurd h (by rw [show Cmd.askO (parseB (restW (saneL.getD 2 emp))) = false by kernel_rfl]; decide)
  · kernel_rfl
theorem askT_small (b : Book) (l : ByteArray) : 0 ≤ (askT b l).2 ∧ (askT b l).2 ≤ 1000 := by
  unfold askT
  split
  · unfold askedV ansText
    split <;> simp
  · simp

theorem ask_text_any (P n : Nat) (F : List Nat) (b : Book) (line : ByteArray) (hs : line.size ≤ 1000000) (w : World) (h : PostAt w P F n b) (hok : BookOk b) (hV : Vars w) (names : List ByteArray) (ns : List Int) (hc : parseB line = some (.asked 0 names ns)) (h0 : 0 < names.length) (hl : names.length ≤ 1000) :
    Calls Tryz.prog 36 #[.pointer (some ⟨P, 0, none⟩), .string line] w (AnsPost (askedV ansText names (saysB (allB b))) w) :=
  askq_asked P n F b line hs w h hok hV 0 names ns hc h0 hl ansText (enters_of Tryz.func116 (by kernel_rfl) rfl) fun W base tv bv ts _ _ hrow _ hts => by
    have hlen := allS_len _ _ _ hts
    exact text_kind W base tv bv ts hrow (by omega) (by omega)
set_option maxRecDepth 100000 in
set_option maxHeartbeats 4000000 in
theorem sane_any (w : World) (hV : Vars w) : Calls Tryz.prog 16 #[] w (BoolPost true w) := by
  obtain ⟨w1, hw1⟩ : ∃ w1, w1 = w.alloc (.cells #[.string ⟨#[48, 32, 112, 117, 116, 32, 97, 32, 120]⟩, .string ⟨#[49, 32, 112, 117, 116, 32, 97, 32, 121]⟩, .string ⟨#[48, 32, 106, 111, 105, 110, 32, 49]⟩, .string ⟨#[48, 32, 116, 101, 120, 116, 32, 97]⟩] 9) := ⟨_, rfl⟩
  have hb1 : Below w.heap.size w w1 := by rw [hw1]; exact (Below.refl _ _).alloc (Nat.le_refl _) _
  have hc1 : w1.heap[w.heap.size]? = some (.cells #[.string ⟨#[48, 32, 112, 117, 116, 32, 97, 32, 120]⟩, .string ⟨#[49, 32, 112, 117, 116, 32, 97, 32, 121]⟩, .string ⟨#[48, 32, 106, 111, 105, 110, 32, 49]⟩, .string ⟨#[48, 32, 116, 101, 120, 116, 32, 97]⟩] 9 (0, 0)) := by rw [hw1]; exact World.alloc_heap_new w _
  have hL : StrsAt w1 (.slice (some ⟨w.heap.size, 0, none⟩) 4 4) saneL := ⟨_, 4, rfl, by decide, by omega, fun _ => ⟨w.heap.size, 0, rfl, fun j hj => by
    have hj4 : j < 4 := hj
    rcases (show j = 0 ∨ j = 1 ∨ j = 2 ∨ j = 3 by omega) with rfl | rfl | rfl | rfl <;> exact heap_cell hc1 rfl⟩⟩
  have HB1 := Lib.hid hb1
  have HPL := Lib.hid (play_any askT askT_small _ saneL w1 hL (by decide) (fun x hx => by
    simp only [saneL, List.mem_cons, List.not_mem_nil, or_false] at hx
    rcases hx with rfl | rfl | rfl | rfl <;> decide) (hV.below hb1) (fun k hk P n F b W hn hp hok hv hq => by
      have h9 := sane_ask k hk hq
      have h8 := ask_text_any P n F b _ (by
        have h7 := rest_size (saneL.getD k emp)
        have h6 : (saneL.getD k emp).size ≤ 100 := by
          have hk4 : k < 4 := hk
          rcases (show k = 0 ∨ k = 1 ∨ k = 2 ∨ k = 3 by omega) with rfl | rfl | rfl | rfl <;> decide
        omega) W hp hok hv _ _ h9 (by decide) (by decide)
      rw [show askT b (restW (saneL.getD k emp)) = askedV ansText [⟨#[97]⟩] (saysB (allB b)) by unfold askT; rw [h9]; rfl]
      exact h8))
  rw [show (playN askT saneL saneL.length).1 = [⟨#[120]⟩, ⟨#[121]⟩, ⟨#[50]⟩, ⟨#[121]⟩] from sane_play] at HPL
  have HW1 := Lib.hid hw1
  clear hb1 hc1 hL hw1 hV
  go_enter Tryz.func16, Tryz.ntmps16
  go_wp2_with fail
  rw [← HW1.out]
  refine HPL.out.mono ?_
  rintro e w2 ⟨v, rfl, hown, hb2⟩
  have HB2 := Lib.hid (below_trans HB1.out hb2)
  obtain ⟨w3, hw3⟩ : ∃ w3, w3 = w2.alloc (.cells #[.string ⟨#[120]⟩, .string ⟨#[121]⟩, .string ⟨#[50]⟩, .string ⟨#[121]⟩] 9) := ⟨_, rfl⟩
  have hb3 : Below w2.heap.size w2 w3 := by rw [hw3]; exact (Below.refl _ _).alloc (Nat.le_refl _) _
  have hc3 : w3.heap[w2.heap.size]? = some (.cells #[.string ⟨#[120]⟩, .string ⟨#[121]⟩, .string ⟨#[50]⟩, .string ⟨#[121]⟩] 9 (0, 0)) := by rw [hw3]; exact World.alloc_heap_new w2 _
  have HSM := Lib.hid (sameS_any v (.slice (some ⟨w2.heap.size, 0, none⟩) 4 4) [⟨#[120]⟩, ⟨#[121]⟩, ⟨#[50]⟩, ⟨#[121]⟩] [⟨#[120]⟩, ⟨#[121]⟩, ⟨#[50]⟩, ⟨#[121]⟩] (by decide) w3 ((strsW_own hown).below hb3) ⟨_, 4, rfl, fun _ => ⟨w2.heap.size, 0, rfl, fun j hj => by
    have hj4 : j < 4 := hj
    rcases (show j = 0 ∨ j = 1 ∨ j = 2 ∨ j = 3 by omega) with rfl | rfl | rfl | rfl <;> exact heap_cell hc3 rfl⟩⟩)
  rw [decide_eq_true rfl] at HSM
  have HB3 := Lib.hid (below_trans HB2.out hb3)
  have HW3 := Lib.hid hw3
  clear hown hb2 hb3 hc3 hw3
  go_wp2_with fail
  rw [← HW3.out]
  refine HSM.out.mono ?_
  rintro e w4 ⟨rfl, hb4⟩
  have HB4 := Lib.hid (below_trans HB3.out hb4)
  clear hb4
  go_wp2
  go_ret
  exact ⟨rfl, HB4.out⟩
end Go.Proofs.YtdfkaijeppdhaaaGreatDoor

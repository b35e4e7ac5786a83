/- Memory of the reference's Says; contracts: isName, num, at (Post). -/
import Derived.Test.YtdfkaijeppdhaaaGreatDoorRn
import Derived.Test.YtdfkaijeppdhaaaGreatDoorSa
import Derived.Test.YtdfkaijeppdhaaaGreatDoorFm
import Derived.Deep.AppendLies
namespace Go.Proofs.YtdfkaijeppdhaaaGreatDoor
open Go.RowKit Go.Shelf

/-! ### isName -/
theorem isNameB_bad (s : ByteArray) {k : Nat} (hlt : k < s.size) (h : notName s[k].toNat = true) : isNameB s = false := by
  unfold isNameB
  have : (s.data.toList.any fun c => notName c.toNat) = true := by
    rw [← List.take_append_drop k s.data.toList, drop_byte hlt]
    simp [h]
  rw [this]; simp
theorem isNameB_of (s : ByteArray) (h : (s.data.toList.take s.size).any (fun c => notName c.toNat) = false) : isNameB s = betw 1 s.size 8 := by
  unfold isNameB
  rw [List.take_of_length_le (by rw [← ba_size]; omega)] at h
  rw [h]; simp
set_option maxRecDepth 100000 in
set_option maxHeartbeats 2000000 in
theorem risName_any (s : ByteArray) (w : World) (hs : s.size ≤ 4000000000) : Calls Tryz.prog 72 #[.string s] w (Bool1 (isNameB s) w) := by
  have HT0 : Hid ((s.data.toList.take 0).any (fun c => notName c.toNat) = false) := Lib.hid (by simp)
  go_enter Tryz.func72, Tryz.ntmps72
  go_wp2
  go_loopw [3] (fun i wr => ∃ k : Nat, k ≤ s.size ∧ k ≤ 9 ∧ i = .int .i64 k ∧ Hid ((s.data.toList.take k).any (fun c => notName c.toNat) = false) ∧ wr = w) (fun i _ => s.size - (intOf i).toNat)
  case atStart => exact ⟨0, by omega, by omega, rfl, HT0, rfl⟩
  case round =>
    obtain ⟨k, hk, hk9, rfl, HT, rfl⟩ := hrel
    by_cases hlt : k < s.size
    · have hlt2 : (k : Int) < (s.size : Int) := by omega
      by_cases hk8 : k ≤ 8
      · have hk8i : (k : Int) ≤ 8 := by omega
        by_cases h97 : s[k].toNat < 97
        · have h97i : (s[k].toNat : Int) < 97 := by omega
          have HB := Lib.hid (isNameB_bad s hlt (by unfold notName; rw [decide_eq_true h97i]; rfl))
          clear h97
          go_wp2
          go_ret
          exact ⟨by rw [HB.out]; rfl, rfl⟩
        · have h97i : ¬ (s[k].toNat : Int) < 97 := by omega
          by_cases h122 : 122 < s[k].toNat
          · have h122i : (122 : Int) < (s[k].toNat : Int) := by omega
            have HB := Lib.hid (isNameB_bad s hlt (by unfold notName; rw [decide_eq_true h122i]; simp))
            clear h97 h122
            go_wp2
            go_ret
            exact ⟨by rw [HB.out]; rfl, rfl⟩
          · have h122i : ¬ (122 : Int) < (s[k].toNat : Int) := by omega
            have HT2 : Hid ((s.data.toList.take (k + 1)).any (fun c => notName c.toNat) = false) := Lib.hid (by
              rw [take_byte hlt, List.any_append, HT.out]
              simp [notName]; omega)
            clear h97 h122
            go_wp2
            go_roundw
            case rel => exact ⟨k + 1, by omega, by omega, by go_num, HT2, trivial⟩
            case measure => simp [intOf]; omega
      · have hk8i : ¬ (k : Int) ≤ 8 := by omega
        have HE : Hid (isNameB s = false) := Lib.hid (by
          unfold isNameB
          rw [show betw 1 (s.size : Int) 8 = false by rw [betw_no]; omega]; rfl)
        have h1 : (1 : Int) ≤ (s.size : Int) := by omega
        have h8 : ¬ (s.size : Int) ≤ 8 := by omega
        go_wp2
        go_ret
        exact ⟨by rw [HE.out]; rfl, rfl⟩
    · obtain rfl : k = s.size := by omega
      have HE := Lib.hid (isNameB_of s HT.out)
      by_cases h1 : 1 ≤ s.size
      · have h1i : (1 : Int) ≤ (s.size : Int) := by omega
        by_cases h8 : s.size ≤ 8
        · have h8i : (s.size : Int) ≤ 8 := by omega
          have HD : Hid (betw 1 (s.size : Int) 8 = true) := Lib.hid (by rw [betw_iff]; omega)
          go_wp2
          go_ret
          exact ⟨by rw [HE.out, HD.out]; rfl, rfl⟩
        · have h8i : ¬ (s.size : Int) ≤ 8 := by omega
          have HD : Hid (betw 1 (s.size : Int) 8 = false) := Lib.hid (by rw [betw_no]; omega)
          go_wp2
          go_ret
          exact ⟨by rw [HE.out, HD.out]; rfl, rfl⟩
      · have h1i : ¬ (1 : Int) ≤ (s.size : Int) := by omega
        have HD : Hid (betw 1 (s.size : Int) 8 = false) := Lib.hid (by rw [betw_no]; omega)
        go_wp2
        go_ret
        exact ⟨by rw [HE.out, HD.out]; rfl, rfl⟩

/-! ### num -/
def numI (o : Option Int) : Int := o.getD 0
def NumPost (o : Option Int) (w : World) (e : Ending) (w' : World) : Prop := e = .returned (.tuple #[.int .i64 (numI o), .bool o.isSome]) ∧ w = w'
theorem numR_minus {s : ByteArray} (h0 : 0 < s.size) (h : s[0].toNat = 45) : numR s.data.toList = match natR (s.data.toList.drop 1) 4 with
    | some n => if 0 < n then some (-(n : Int)) else none
    | none => none := by
  have hb : s[0] = 45 := (u8_eq (n := 45) (by decide)).2 h
  have := drop_byte (s := s) (k := 0) h0
  rw [List.drop_zero, hb] at this
  conv => lhs; rw [this]
  rfl
theorem numR_plus {s : ByteArray} (h : ¬ (0 < s.size ∧ ∀ h0 : 0 < s.size, s[0].toNat = 45)) : numR s.data.toList = (natR s.data.toList 4).map fun n : Nat => (n : Int) := by
  cases hl : s.data.toList with
  | nil => rfl
  | cons b r =>
    have h0 : 0 < s.size := by rw [ba_size, hl]; simp
    have hb := drop_byte (s := s) (k := 0) h0
    rw [List.drop_zero, hl] at hb
    injection hb with hb _
    unfold numR
    split
    · rename_i r' he
      exfalso
      apply h
      refine ⟨h0, fun _ => ?_⟩
      rw [List.cons.injEq] at he
      rw [← hb, he.1]; rfl
    · rfl
set_option maxHeartbeats 2000000 in
theorem rnum_any (s : ByteArray) (w : World) (hs : s.size ≤ 4000000000) : Calls Tryz.prog 77 #[.string s] w (NumPost (numR s.data.toList) w) := by
  by_cases h : 0 < s.size ∧ ∀ h0 : 0 < s.size, s[0].toNat = 45
  · obtain ⟨h0, h45⟩ := h
    have h45 := h45 h0
    have h0i : (0 : Int) < (s.size : Int) := by omega
    have h1i : (1 : Int) ≤ (s.size : Int) := by omega
    have hb : ((s[0].toNat : Int) == 45) = true := by rw [beq_iff_eq]; omega
    have HR := Lib.hid (numR_minus h0 h45)
    have HEX := Lib.hid (ba_drop s 1)
    have HN := Lib.hid (rnat_list (s.data.toList.drop 1) 4 w (by omega) (by rw [List.length_drop, ← ba_size]; omega))
    have hlt : natP (natR (s.data.toList.drop 1) 4) < 10 ^ 4 := natP_lt
    clear h45
    generalize hd : s.data.toList.drop 1 = l at *
    clear hd
    have hlt2 : natP (natR l 4) < 10000 := hlt
    clear hlt
    cases hn : natR l 4 with
    | none =>
      rw [hn] at HR HN
      have HR2 : Hid (numR s.data.toList = none) := Lib.hid HR.out
      clear hn hlt2
      have HN2 : Hid (Calls Tryz.prog 68 #[.string (bsB l), .int .i64 4] w (Nat2 0 false w)) := Lib.hid HN.out
      go_enter Tryz.func77, Tryz.ntmps77
      go_wp2_with fail
      rw [HEX.out]
      refine HN2.out.mono ?_
      rintro e w1 ⟨rfl, rfl⟩
      go_wp2
      go_ret2
      exact ⟨by rw [HR2.out]; rfl, rfl⟩
    | some n =>
      rw [hn] at HR HN hlt2
      have hn4 : n < 10000 := hlt2
      have HN2 : Hid (Calls Tryz.prog 68 #[.string (bsB l), .int .i64 4] w (Nat2 n true w)) := Lib.hid HN.out
      have hw1 : IntKind.i64.wrap (-(n : Int)) = -(n : Int) := IntWalk.i64_in _ (by omega)
      clear hn hlt2
      by_cases hp : 0 < n
      · have hpi : (0 : Int) < (n : Int) := by omega
        have HR2 : Hid (numR s.data.toList = some (-(n : Int))) := Lib.hid (by rw [HR.out]; simp only; rw [if_pos hp])
        have HPP := Lib.hid hp
        clear hp
        go_enter Tryz.func77, Tryz.ntmps77
        go_wp2_with fail
        rw [HEX.out]
        refine HN2.out.mono ?_
        rintro e w1 ⟨rfl, rfl⟩
        go_wp2
        go_ret2
        exact ⟨by rw [HR2.out]; show Ending.returned (Value.tuple #[.int .i64 (-(n : Int)), .bool (decide (0 < n))]) = _; rw [decide_eq_true HPP.out]; rfl, rfl⟩
      · obtain rfl : n = 0 := by omega
        have HR2 : Hid (numR s.data.toList = none) := Lib.hid (by rw [HR.out]; simp)
        clear hp hw1
        go_enter Tryz.func77, Tryz.ntmps77
        go_wp2_with fail
        rw [HEX.out]
        refine HN2.out.mono ?_
        rintro e w1 ⟨rfl, rfl⟩
        go_wp2
        go_ret2
        exact ⟨by rw [HR2.out]; rfl, rfl⟩
  · have HR := Lib.hid (numR_plus h)
    have HN : Hid (Calls Tryz.prog 68 #[.string s, .int .i64 4] w (NumPost (numR s.data.toList) w)) := Lib.hid (by
      refine (rnatural_any s 4 w (by omega) hs).mono ?_
      rintro e w1 ⟨rfl, rfl⟩
      refine ⟨?_, rfl⟩
      rw [HR.out]
      cases natR s.data.toList 4 <;> rfl)
    by_cases h0 : 0 < s.size
    · have h0i : (0 : Int) < (s.size : Int) := by omega
      have hb : ((s[0].toNat : Int) == 45) = false := by
        rw [beq_eq_false_iff_ne]
        intro e
        exact h ⟨h0, fun _ => by omega⟩
      generalize numR s.data.toList = o at *
      clear h
      go_enter Tryz.func77, Tryz.ntmps77
      go_wp2_with fail
      refine HN.out.mono ?_
      rintro e w1 ⟨rfl, rfl⟩
      go_wp2
      go_ret2
      exact ⟨rfl, rfl⟩
    · have h0i : ¬ (0 : Int) < (s.size : Int) := by omega
      generalize numR s.data.toList = o at *
      clear h
      go_enter Tryz.func77, Tryz.ntmps77
      go_wp2_with fail
      refine HN.out.mono ?_
      rintro e w1 ⟨rfl, rfl⟩
      go_wp2
      go_ret2
      exact ⟨rfl, rfl⟩

/-! ### Memory -/
/-- Of what was there below B, only the block S may have turned. -/
structure TS (S B : Nat) (w w' : World) : Prop where
  os : w'.os = w.os
  tape : w'.tape = w.tape
  output : w'.output = w.output
  size : w.heap.size ≤ w'.heap.size
  block : ∀ k, k < w.heap.size → k < B → k ≠ S → w'.heap[k]? = w.heap[k]?
theorem TS.refl (S B : Nat) (w : World) : TS S B w w := ⟨rfl, rfl, rfl, Nat.le_refl _, fun _ _ _ _ => rfl⟩
theorem TS.trans {S B : Nat} {a b c : World} (h : TS S B a b) (k : TS S B b c) : TS S B a c :=
  ⟨k.os.trans h.os, k.tape.trans h.tape, k.output.trans h.output, Nat.le_trans h.size k.size, fun i hi h1 h2 => (k.block i (Nat.lt_of_lt_of_le hi h.size) h1 h2).trans (h.block i hi h1 h2)⟩
theorem TS.of_below {S B : Nat} {w w' : World} (h : Below w.heap.size w w') : TS S B w w' := ⟨h.os, h.tape, h.output, h.size, fun k hk _ _ => h.block k hk⟩
theorem TS.set {S B : Nat} {a b : World} (h : TS S B a b) (j : Nat) (v : Value) : TS S B a (b.setCell ⟨S, j, none⟩ v) :=
  ⟨h.os, h.tape, h.output, by rw [World.size_setCell]; exact h.size, fun k hk h1 h2 => (Below.heap_setCell _ _ _ k h2).trans (h.block k hk h1 h2)⟩
theorem TS.set2 {S B : Nat} {a b : World} (h : TS S B a b) {g : Nat} (hg : B ≤ g) (j : Nat) (v : Value) : TS S B a (b.setCell ⟨g, j, none⟩ v) :=
  ⟨h.os, h.tape, h.output, by rw [World.size_setCell]; exact h.size, fun k hk h1 h2 => (Below.heap_setCell _ _ _ k (by show k ≠ g; omega)).trans (h.block k hk h1 h2)⟩
theorem TS.below {S B : Nat} {w w' : World} (h : TS S B w w') (hS : S < B) (hs : S ≤ w.heap.size) : Below S w w' := ⟨h.os, h.tape, h.output, h.size, fun k hk => h.block k (by omega) (by omega) (by omega)⟩
structure Says3 (w : World) (S B : Nat) (u v t : Value) (ns ts : List ByteArray) (ss : List Int) : Prop where
  cells : w.heap[S]? = some (.cells #[u, v, t] 124 (0, 0))
  names : w.ownsRow B 9 1 u ns.length (ns.map Value.string)
  texts : w.ownsRow B 9 1 v ts.length (ts.map Value.string)
  sums : w.ownsRow B 3 1 t ss.length (ss.map (Value.int .i64))
  apart : ∀ g, u.ownBlock = some g → v.ownBlock ≠ some g
  low : S < B
  size : B ≤ w.heap.size
def SaysAt (w : World) (S B : Nat) (l : List Rw) : Prop := ∃ u v t, Says3 w S B u v t (l.map fun x => x.1) (l.map fun x => x.2.1) (l.map fun x => x.2.2)
section
variable {w w2 : World} {S B : Nat} {u v t : Value} {ns ts : List ByteArray} {ss : List Int}
theorem Says3.lt (h : Says3 w S B u v t ns ts ss) : S < w.heap.size := (Array.getElem?_eq_some_iff.1 h.cells).1
theorem own_high {w : World} {base : Nat} {e : TypeId} {size : Nat} {v : Value} {n : Nat} {xs : List Value} (h : w.ownsRow base e size v n xs) {k : Nat} (hk : v.ownBlock = some k) : base ≤ k ∧ k < w.heap.size := h.lt k hk
theorem own_types {w : World} {b1 b2 : Nat} {e1 e2 : TypeId} {s1 s2 : Nat} {v1 v2 : Value} {n1 n2 : Nat} {x1 x2 : List Value} (h1 : w.ownsRow b1 e1 s1 v1 n1 x1) (h2 : w.ownsRow b2 e2 s2 v2 n2 x2) (he : e1 ≠ e2) {k : Nat} (hk : v1.ownBlock = some k) : v2.ownBlock ≠ some k := fun h => by
  obtain ⟨c1, h3⟩ := own_type h1 hk
  obtain ⟨c2, h4⟩ := own_type h2 h
  rw [h3] at h4
  simp only [Option.some.injEq, Obj.cells.injEq] at h4
  exact he h4.2.1
theorem str_ne_int : (9 : Nat) ≠ 3 := by decide
theorem setCell_sy {W : World} {K : Nat} {a b c : Value} {t : TypeId} (h : W.heap[K]? = some (.cells #[a, b, c] t (0, 0))) (i : Nat) (v : Value) : (W.setCell ⟨K, i, none⟩ v).heap[K]? = some (.cells (#[a, b, c].setIfInBounds i v) t (0, 0)) := by
  obtain ⟨hlt, hk⟩ := Array.getElem?_eq_some_iff.1 h
  show (W.heap.modify K _)[K]? = _
  rw [Array.getElem?_eq_getElem (by rw [Array.size_modify]; exact hlt), Array.getElem_modify_self, hk]
  simp
/-- An append to a row, and the store of its slice. -/
theorem says_turn {o : Option Nat} {ob : Obj} (x : Value) (j : Nat) (hS : S < w.heap.size) (hSB : S < B) (ho : ∀ k, o = some k → B ≤ k ∧ k < w.heap.size) (hg : (w.alloc ob).grownBy w2 o) :
    w2.heap[S]? = w.heap[S]? ∧ (∀ k, k < w.heap.size → k ≠ S → o ≠ some k → (w2.setCell ⟨S, j, none⟩ x).heap[k]? = w.heap[k]?) ∧ (∀ k, k ≠ S → (w2.setCell ⟨S, j, none⟩ x).heap[k]? = w2.heap[k]?) ∧ TS S B w (w2.setCell ⟨S, j, none⟩ x) := by
  have hset : ∀ k, k ≠ S → (w2.setCell ⟨S, j, none⟩ x).heap[k]? = w2.heap[k]? := fun k hk => Below.heap_setCell _ _ _ k hk
  have hal : ∀ k, k < w.heap.size → (w.alloc ob).heap[k]? = w.heap[k]? := fun k hk => Below.heap_alloc _ _ _ (by omega)
  have hsz : (w.alloc ob).heap.size = w.heap.size + 1 := by simp
  refine ⟨?_, fun k hk h1 h2 => ?_, hset, ?_⟩
  · exact (hg.block S (by omega) (fun e => by have := (ho S e.symm).1; omega)).trans (hal S hS)
  · exact (hset k h1).trans ((hg.block k (by omega) (fun e => h2 e.symm)).trans (hal k hk))
  · have hsz2 := hg.size
    exact (⟨hg.os, hg.tape, hg.output, by omega, fun k hk h1 h2 => (hg.block k (by omega) (fun e => by have := (ho k e.symm).1; omega)).trans (hal k hk)⟩ : TS S B w w2).set j x
theorem Says3.name (h : Says3 w S B u v t ns ts ss) {ob : Obj} {g cap : Nat} {n : ByteArray} (hr : w2.ownsRow B 9 1 (.slice (some ⟨g, 0, none⟩) (ns.length + 1) cap) (ns.length + 1) (ns.map Value.string ++ [.string n]))
    (hg : (w.alloc ob).grownBy w2 u.ownBlock) (hat : u.ownBlock = some g ∨ g = w.heap.size + 1) :
    Says3 (w2.setCell ⟨S, 0, none⟩ (.slice (some ⟨g, 0, none⟩) (ns.length + 1) cap)) S B (.slice (some ⟨g, 0, none⟩) (ns.length + 1) cap) v t (ns ++ [n]) ts ss ∧ (w2.cell? ⟨S, 0, none⟩ = some u ∧ w2.frozen? ⟨S, 0, none⟩ = false) ∧ TS S B w (w2.setCell ⟨S, 0, none⟩ (.slice (some ⟨g, 0, none⟩) (ns.length + 1) cap)) := by
  obtain ⟨h1, h2, h3, h4⟩ := says_turn (.slice (some ⟨g, 0, none⟩) (ns.length + 1) cap) 0 h.lt h.low (fun k hk => own_high h.names hk) hg
  have hc2 := h1.trans h.cells
  have hgS : B ≤ g := (own_high hr (k := g) rfl).1
  have hlow := h.low
  refine ⟨⟨?_, ?_, ?_, ?_, ?_, h.low, Nat.le_trans h.size h4.size⟩, ⟨heap_cell hc2 rfl, by simp [World.frozen?, hc2]⟩, h4⟩
  · rw [setCell_sy hc2]; rfl
  · rw [List.map_append, List.length_append]
    exact own_keep hr fun k hk => h3 k (by have : k = g := by simpa [Value.ownBlock] using hk.symm
                                           omega)
  · exact own_keep h.texts fun k hk => h2 k (own_high h.texts hk).2 (by have := (own_high h.texts hk).1; omega) (fun e => h.apart k e hk)
  · exact own_keep h.sums fun k hk => h2 k (own_high h.sums hk).2 (by have := (own_high h.sums hk).1; omega) (own_types h.sums h.names (Ne.symm str_ne_int) hk)
  · intro k hk hk2
    have : k = g := by simpa [Value.ownBlock] using hk.symm
    subst this
    rcases hat with h5 | h5
    · exact h.apart k h5 hk2
    · have := (own_high h.texts hk2).2; omega
theorem Says3.text (h : Says3 w S B u v t ns ts ss) {ob : Obj} {g cap : Nat} {n : ByteArray} (hr : w2.ownsRow B 9 1 (.slice (some ⟨g, 0, none⟩) (ts.length + 1) cap) (ts.length + 1) (ts.map Value.string ++ [.string n]))
    (hg : (w.alloc ob).grownBy w2 v.ownBlock) (hat : v.ownBlock = some g ∨ g = w.heap.size + 1) :
    Says3 (w2.setCell ⟨S, 1, none⟩ (.slice (some ⟨g, 0, none⟩) (ts.length + 1) cap)) S B u (.slice (some ⟨g, 0, none⟩) (ts.length + 1) cap) t ns (ts ++ [n]) ss ∧ (w2.cell? ⟨S, 1, none⟩ = some v ∧ w2.frozen? ⟨S, 1, none⟩ = false) ∧ TS S B w (w2.setCell ⟨S, 1, none⟩ (.slice (some ⟨g, 0, none⟩) (ts.length + 1) cap)) := by
  obtain ⟨h1, h2, h3, h4⟩ := says_turn (.slice (some ⟨g, 0, none⟩) (ts.length + 1) cap) 1 h.lt h.low (fun k hk => own_high h.texts hk) hg
  have hc2 := h1.trans h.cells
  have hgS : B ≤ g := (own_high hr (k := g) rfl).1
  have hlow := h.low
  refine ⟨⟨?_, ?_, ?_, ?_, ?_, h.low, Nat.le_trans h.size h4.size⟩, ⟨heap_cell hc2 rfl, by simp [World.frozen?, hc2]⟩, h4⟩
  · rw [setCell_sy hc2]; rfl
  · exact own_keep h.names fun k hk => h2 k (own_high h.names hk).2 (by have := (own_high h.names hk).1; omega) (h.apart k hk)
  · rw [List.map_append, List.length_append]
    exact own_keep hr fun k hk => h3 k (by have : k = g := by simpa [Value.ownBlock] using hk.symm
                                           omega)
  · exact own_keep h.sums fun k hk => h2 k (own_high h.sums hk).2 (by have := (own_high h.sums hk).1; omega) (own_types h.sums h.texts (Ne.symm str_ne_int) hk)
  · intro k hk hk2
    have : k = g := by simpa [Value.ownBlock] using hk2.symm
    subst this
    rcases hat with h5 | h5
    · exact h.apart k hk h5
    · have := (own_high h.names hk).2; omega
theorem Says3.sum (h : Says3 w S B u v t ns ts ss) {ob : Obj} {g cap : Nat} {n : Int} (hr : w2.ownsRow B 3 1 (.slice (some ⟨g, 0, none⟩) (ss.length + 1) cap) (ss.length + 1) (ss.map (Value.int .i64) ++ [.int .i64 n]))
    (hg : (w.alloc ob).grownBy w2 t.ownBlock) :
    Says3 (w2.setCell ⟨S, 2, none⟩ (.slice (some ⟨g, 0, none⟩) (ss.length + 1) cap)) S B u v (.slice (some ⟨g, 0, none⟩) (ss.length + 1) cap) ns ts (ss ++ [n]) ∧ (w2.cell? ⟨S, 2, none⟩ = some t ∧ w2.frozen? ⟨S, 2, none⟩ = false) ∧ TS S B w (w2.setCell ⟨S, 2, none⟩ (.slice (some ⟨g, 0, none⟩) (ss.length + 1) cap)) := by
  obtain ⟨h1, h2, h3, h4⟩ := says_turn (.slice (some ⟨g, 0, none⟩) (ss.length + 1) cap) 2 h.lt h.low (fun k hk => own_high h.sums hk) hg
  have hc2 := h1.trans h.cells
  have hgS : B ≤ g := (own_high hr (k := g) rfl).1
  have hlow := h.low
  refine ⟨⟨?_, ?_, ?_, ?_, h.apart, h.low, Nat.le_trans h.size h4.size⟩, ⟨heap_cell hc2 rfl, by simp [World.frozen?, hc2]⟩, h4⟩
  · rw [setCell_sy hc2]; rfl
  · exact own_keep h.names fun k hk => h2 k (own_high h.names hk).2 (by have := (own_high h.names hk).1; omega) (own_types h.names h.sums str_ne_int hk)
  · exact own_keep h.texts fun k hk => h2 k (own_high h.texts hk).2 (by have := (own_high h.texts hk).1; omega) (own_types h.texts h.sums str_ne_int hk)
  · rw [List.map_append, List.length_append]
    exact own_keep hr fun k hk => h3 k (by have : k = g := by simpa [Value.ownBlock] using hk.symm
                                           omega)
theorem Says3.cell (h : Says3 w S B u v t ns ts ss) : w.cell? ⟨S, 0, none⟩ = some u ∧ w.cell? ⟨S, 1, none⟩ = some v ∧ w.cell? ⟨S, 2, none⟩ = some t ∧ ∀ j, w.frozen? ⟨S, j, none⟩ = false :=
  ⟨heap_cell h.cells rfl, heap_cell h.cells rfl, heap_cell h.cells rfl, fun j => by simp [World.frozen?, h.cells]⟩
end
end Go.Proofs.YtdfkaijeppdhaaaGreatDoor

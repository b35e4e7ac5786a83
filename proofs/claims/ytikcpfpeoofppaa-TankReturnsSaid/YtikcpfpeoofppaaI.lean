/- Contracts: what any deed does, of both. -/
import Derived.Test.YtikcpfpeoofppaaC2
import Derived.Test.YtikcpfpeoofppaaD
namespace Go.Proofs.Ytikcpfpeoofppaa
open Go.RowKit

/-- Levels as a value of four. -/
def pad (l : List Int) : Value := levV (l.getD 0 0) (l.getD 1 0) (l.getD 2 0) (l.getD 3 0)

/-- A deed of n tanks. -/
def IsD (n : Nat) (d : Deed) : Prop := (d.1 = 1 ∨ d.1 = 2) ∧ d.2.1 = 0 ∧ 0 ≤ d.2.2 ∧ d.2.2 < n ∨ d.1 = 3 ∧ 0 ≤ d.2.1 ∧ d.2.1 < n ∧ 0 ≤ d.2.2 ∧ d.2.2 < n ∧ d.2.1 ≠ d.2.2

/-- The levels behind a deed. -/
def doneL (t l : List Int) (d : Deed) : List Int :=
  if d.1 = 1 then l.set d.2.2.toNat (t.getD d.2.2.toNat 0) else if d.1 = 2 then l.set d.2.2.toNat 0
  else pour l d.2.1.toNat d.2.2.toNat (l.getD d.2.1.toNat 0) (l.getD d.2.2.toNat 0) (min (l.getD d.2.1.toNat 0) (t.getD d.2.2.toNat 0 - l.getD d.2.2.toNat 0))

theorem getD_setI {l : List Int} {k : Nat} (hk : k < l.length) (x : Int) (j : Nat) : (l.set k x).getD j 0 = if k = j then x else l.getD j 0 := by
  by_cases h : k = j
  · subst h; simp [List.getD_eq_getElem?_getD, hk]
  · simp [List.getD_eq_getElem?_getD, List.getElem?_set_ne h, h]

theorem pad_set {l : List Int} {k : Nat} (hk : k < l.length) (x : Int) : pad (l.set k x) = levV (if k = 0 then x else l.getD 0 0) (if k = 1 then x else l.getD 1 0) (if k = 2 then x else l.getD 2 0) (if k = 3 then x else l.getD 3 0) := by
  unfold pad; simp only [getD_setI hk]
theorem pad_pour {l : List Int} {f k : Nat} (hf : f < l.length) (hk : k < l.length) (a b j : Int) : pad (pour l f k a b j) = levV (if k = 0 then b + j else if f = 0 then a - j else l.getD 0 0) (if k = 1 then b + j else if f = 1 then a - j else l.getD 1 0)
    (if k = 2 then b + j else if f = 2 then a - j else l.getD 2 0) (if k = 3 then b + j else if f = 3 then a - j else l.getD 3 0) := by
  unfold pad pour
  have h : k < (l.set f (a - j)).length := by simpa using hk
  simp only [getD_setI h, getD_setI hf]

theorem ends {P : Program} {f : Nat} {args : Array Value} {w : World} {x y : Value} (h : Calls P f args w fun e w' => e = .returned x ∧ Below w.heap.size w w') (e : x = y) : Calls P f args w fun e w' => e = .returned y ∧ Below w.heap.size w w' := by
  subst e; exact h

theorem Lev.bd {t l : List Int} (hl : Lev t l) (ht : Tvl t) : ∀ j, j < t.length → 0 ≤ l.getD j 0 ∧ l.getD j 0 ≤ 12 := fun j hj => by
  have h1 := hl.2 j hj
  have h2 := ht.holds _ (mem_getD hj)
  omega

theorem tDoes_any (v : Value) (t l : List Int) (d : Deed) (w : World) (hv : IntsAt w v t) (ht : Tvl t) (hl : Lev t l) (hd : IsD t.length d) :
    Calls Try.prog 55 #[v, pad l, deedV d] w fun e w' => e = .returned (pad (doneL t l d)) ∧ Below w.heap.size w w' := by
  obtain ⟨o, f, k⟩ := d
  have h4 := ht.hi
  have hlen := hl.1
  have hb := hl.bd ht
  unfold IsD at hd
  simp only at hd
  rcases hd with ⟨h1, rfl, h2, h3⟩ | ⟨rfl, f1, f2, h2, h3, hne⟩
  · obtain ⟨k, rfl⟩ := Int.eq_ofNat_of_zero_le h2
    have hk : k < t.length := by omega
    have hkl : k < l.length := by omega
    have hc : k = 0 ∨ k = 1 ∨ k = 2 ∨ k = 3 := by omega
    rcases h1 with rfl | rfl
    · have e : doneL t l (1, 0, (k : Int)) = l.set k (t.getD k 0) := by unfold doneL; simp
      rw [e, pad_set hkl]
      rcases hc with rfl | rfl | rfl | rfl
      · exact ends (does_fill0 v t _ _ _ _ _ w hv hk rfl) rfl
      · exact ends (does_fill1 v t _ _ _ _ _ w hv hk rfl) rfl
      · exact ends (does_fill2 v t _ _ _ _ _ w hv hk rfl) rfl
      · exact ends (does_fill3 v t _ _ _ _ _ w hv hk rfl) rfl
    · have e : doneL t l (2, 0, (k : Int)) = l.set k 0 := by unfold doneL; simp
      rw [e, pad_set hkl]
      rcases hc with rfl | rfl | rfl | rfl
      · exact ends (does_empty0 v _ _ _ _ w) rfl
      · exact ends (does_empty1 v _ _ _ _ w) rfl
      · exact ends (does_empty2 v _ _ _ _ w) rfl
      · exact ends (does_empty3 v _ _ _ _ w) rfl
  · obtain ⟨k, rfl⟩ := Int.eq_ofNat_of_zero_le h2
    obtain ⟨f, rfl⟩ := Int.eq_ofNat_of_zero_le f1
    have hk : k < t.length := by omega
    have hf : f < t.length := by omega
    have hkl : k < l.length := by omega
    have hfl : f < l.length := by omega
    have e : doneL t l (3, (f : Int), (k : Int)) = pour l f k (l.getD f 0) (l.getD k 0) (min (l.getD f 0) (t.getD k 0 - l.getD k 0)) := by unfold doneL; simp
    have b1 := hb f hf
    have b2 := hb k hk
    have b3 := ht.holds _ (mem_getD hk)
    rw [e, pad_pour hfl hkl]
    have hcf : f = 0 ∨ f = 1 ∨ f = 2 ∨ f = 3 := by omega
    have hck : k = 0 ∨ k = 1 ∨ k = 2 ∨ k = 3 := by omega
    rcases hcf with rfl | rfl | rfl | rfl <;> rcases hck with rfl | rfl | rfl | rfl
    · exact absurd rfl hne
    · exact ends (does_pour01 v t _ _ _ _ _ _ w hv hk b1 b2 (by omega) rfl rfl) rfl
    · exact ends (does_pour02 v t _ _ _ _ _ _ w hv hk b1 b2 (by omega) rfl rfl) rfl
    · exact ends (does_pour03 v t _ _ _ _ _ _ w hv hk b1 b2 (by omega) rfl rfl) rfl
    · exact ends (does_pour10 v t _ _ _ _ _ _ w hv hk b1 b2 (by omega) rfl rfl) rfl
    · exact absurd rfl hne
    · exact ends (does_pour12 v t _ _ _ _ _ _ w hv hk b1 b2 (by omega) rfl rfl) rfl
    · exact ends (does_pour13 v t _ _ _ _ _ _ w hv hk b1 b2 (by omega) rfl rfl) rfl
    · exact ends (does_pour20 v t _ _ _ _ _ _ w hv hk b1 b2 (by omega) rfl rfl) rfl
    · exact ends (does_pour21 v t _ _ _ _ _ _ w hv hk b1 b2 (by omega) rfl rfl) rfl
    · exact absurd rfl hne
    · exact ends (does_pour23 v t _ _ _ _ _ _ w hv hk b1 b2 (by omega) rfl rfl) rfl
    · exact ends (does_pour30 v t _ _ _ _ _ _ w hv hk b1 b2 (by omega) rfl rfl) rfl
    · exact ends (does_pour31 v t _ _ _ _ _ _ w hv hk b1 b2 (by omega) rfl rfl) rfl
    · exact ends (does_pour32 v t _ _ _ _ _ _ w hv hk b1 b2 (by omega) rfl rfl) rfl
    · exact absurd rfl hne

theorem rDone_any (v y : Value) (t l : List Int) (d : Deed) (w : World) (hv : IntsAt w v t) (ht : Tvl t) (hx : IntsAt w y l) (hl : Lev t l) (hd : IsD t.length d) :
    Calls Try.prog 58 #[v, y, deedV d] w (GivesI (doneL t l d) w) := by
  obtain ⟨o, f, k⟩ := d
  unfold IsD at hd
  simp only at hd
  rcases hd with ⟨h1, rfl, h2, h3⟩ | ⟨rfl, f1, f2, h2, h3, hne⟩
  · obtain ⟨k, rfl⟩ := Int.eq_ofNat_of_zero_le h2
    have hk : k < t.length := by omega
    rcases h1 with rfl | rfl
    · have e : doneL t l (1, 0, (k : Int)) = l.set k (t.getD k 0) := by unfold doneL; simp
      rw [e]
      exact done_fill v y t l 0 k w hv ht hx hl hk
    · have e : doneL t l (2, 0, (k : Int)) = l.set k 0 := by unfold doneL; simp
      rw [e]
      exact done_empty v y t l 0 k w hv ht hx hl hk
  · obtain ⟨k, rfl⟩ := Int.eq_ofNat_of_zero_le h2
    obtain ⟨f, rfl⟩ := Int.eq_ofNat_of_zero_le f1
    have e : doneL t l (3, (f : Int), (k : Int)) = pour l f k (l.getD f 0) (l.getD k 0) (min (l.getD f 0) (t.getD k 0 - l.getD k 0)) := by unfold doneL; simp
    rw [e]
    exact done_pour v y t l f k w hv ht hx hl (by omega) (by omega) (by omega)

theorem doneL_lev {t l : List Int} {d : Deed} (ht : Tvl t) (hl : Lev t l) (hd : IsD t.length d) : Lev t (doneL t l d) := by
  obtain ⟨o, f, k⟩ := d
  unfold IsD at hd
  simp only at hd
  have hlen := hl.1
  rcases hd with ⟨h1, rfl, h2, h3⟩ | ⟨rfl, f1, f2, h2, h3, hne⟩
  · obtain ⟨k, rfl⟩ := Int.eq_ofNat_of_zero_le h2
    have hk : k < t.length := by omega
    have hkl : k < l.length := by omega
    have b3 := ht.holds _ (mem_getD hk)
    rcases h1 with rfl | rfl
    · have e : doneL t l (1, 0, (k : Int)) = l.set k (t.getD k 0) := by unfold doneL; simp
      rw [e]
      refine ⟨by simp [hlen], fun j hj => ?_⟩
      rw [getD_setI hkl]
      split
      · rename_i h; subst h; omega
      · exact hl.2 j hj
    · have e : doneL t l (2, 0, (k : Int)) = l.set k 0 := by unfold doneL; simp
      rw [e]
      refine ⟨by simp [hlen], fun j hj => ?_⟩
      rw [getD_setI hkl]
      split
      · rename_i h; subst h; omega
      · exact hl.2 j hj
  · obtain ⟨k, rfl⟩ := Int.eq_ofNat_of_zero_le h2
    obtain ⟨f, rfl⟩ := Int.eq_ofNat_of_zero_le f1
    have e : doneL t l (3, (f : Int), (k : Int)) = pour l f k (l.getD f 0) (l.getD k 0) (min (l.getD f 0) (t.getD k 0 - l.getD k 0)) := by unfold doneL; simp
    have hkl : k < l.length := by omega
    have hfl : f < l.length := by omega
    rw [e]
    unfold pour
    have hkl2 : k < (l.set f (l.getD f 0 - min (l.getD f 0) (t.getD k 0 - l.getD k 0))).length := by simpa using hkl
    have c1 := hl.2 f (by omega)
    have c2 := hl.2 k (by omega)
    refine ⟨by simp [hlen], fun j hj => ?_⟩
    rw [getD_setI hkl2, getD_setI hfl]
    split
    · rename_i h; subst h; omega
    · split
      · rename_i h1 h2; subst h2; omega
      · exact hl.2 j hj

end Go.Proofs.Ytikcpfpeoofppaa

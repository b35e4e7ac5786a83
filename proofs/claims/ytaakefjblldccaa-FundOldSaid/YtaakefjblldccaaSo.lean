/- Contracts: the stable sort of indices by what is left over (at most 8: one block of insertion sort). -/
import Derived.Test.YtaakefjblldccaaWh
import Derived.Deep.RegionHeld3
import Derived.Deep.DeepCutAuto
namespace Go.Proofs.Ytaakefjblldccaa
open Go.RowKit

def KBs (w W : World) : Prop := Below w.heap.size w W
theorem KBs.refl (w : World) : KBs w w := Below.refl _ _
theorem KBs.drew {w W : World} (h : KBs w W) : KBs w W.drew := Below.drew h
theorem KBs.call {w W w2 : World} (h : KBs w W) (hb : Below W.heap.size W w2) : KBs w w2 := Below.trans h (hb.mono h.size)

/-- Ratios that stand for numbers. -/
structure Rep (Q : Int) (R : List Rat2) (G : List Int) : Prop where
  len : R.length = G.length
  hQ : 1 ≤ Q
  den : ∀ i, i < G.length → 1 ≤ (R.getD i (0, 0)).2
  val : ∀ i, i < G.length → (R.getD i (0, 0)).1 * Q = G.getD i 0 * (R.getD i (0, 0)).2
theorem Rep.lt {Q : Int} {R : List Rat2} {G : List Int} (h : Rep Q R G) {i j : Nat} (hi : i < G.length) (hj : j < G.length) : (R.getD i (0, 0)).1 * (R.getD j (0, 0)).2 < (R.getD j (0, 0)).1 * (R.getD i (0, 0)).2 ↔ G.getD i 0 < G.getD j 0 := by
  have h1 := h.val i hi
  have h2 := h.val j hj
  have d1 := h.den i hi
  have d2 := h.den j hj
  have hQ := h.hQ
  generalize R.getD i (0, 0) = a at *
  generalize R.getD j (0, 0) = b at *
  generalize G.getD i 0 = x at *
  generalize G.getD j 0 = y at *
  have hp : 0 < a.2 * b.2 := Int.mul_pos (by omega) (by omega)
  have e1 : a.1 * b.2 * Q = x * (a.2 * b.2) := by rw [Int.mul_right_comm, h1, Int.mul_assoc]
  have e2 : b.1 * a.2 * Q = y * (a.2 * b.2) := by rw [Int.mul_right_comm, h2, Int.mul_assoc, Int.mul_comm b.2]
  constructor
  · intro h3
    have h4 : a.1 * b.2 * Q < b.1 * a.2 * Q := Int.mul_lt_mul_of_pos_right h3 (by omega)
    rw [e1, e2] at h4
    exact Int.lt_of_mul_lt_mul_right h4 (by omega)
  · intro h3
    have h4 : x * (a.2 * b.2) < y * (a.2 * b.2) := Int.mul_lt_mul_of_pos_right h3 hp
    rw [← e1, ← e2] at h4
    exact Int.lt_of_mul_lt_mul_right h4 (by omega)

/-- The ratios in memory behind a variable. -/
structure RatBox (Bx b off cap : Nat) (R : List Rat2) (w : World) : Prop where
  bx : w.cell? ⟨Bx, 0, none⟩ = some (.slice (some ⟨b, off, none⟩) R.length cap)
  at' : ∀ i, i < R.length → w.cell? ⟨b, off + i * 2, none⟩ = some (.int .i64 (R.getD i (0, 0)).1) ∧ w.cell? ⟨b, off + i * 2 + 1, none⟩ = some (.int .i64 (R.getD i (0, 0)).2)
theorem RatBox.keep {Bx b off cap : Nat} {R : List Rat2} {w W : World} (h : RatBox Bx b off cap R w) (hk : ∀ k, k = Bx ∨ k = b → W.heap[k]? = w.heap[k]?) : RatBox Bx b off cap R W :=
  ⟨(World.cell?_of_block (hk Bx (.inl rfl))).trans h.bx, fun i hi => ⟨(World.cell?_of_block (hk b (.inr rfl))).trans (h.at' i hi).1, (World.cell?_of_block (hk b (.inr rfl))).trans (h.at' i hi).2⟩⟩
theorem RatBox.below {Bx b off cap : Nat} {R : List Rat2} {w W : World} (h : RatBox Bx b off cap R w) (hb : Below w.heap.size w W) : RatBox Bx b off cap R W :=
  ⟨keep_cell hb h.bx, fun i hi => ⟨keep_cell hb (h.at' i hi).1, keep_cell hb (h.at' i hi).2⟩⟩

set_option maxRecDepth 100000 in
set_option maxHeartbeats 2000000 in
/-- The comparison: below 0 exactly if what is left over at a is more than at c. -/
theorem whole1_any {Bx b off cap : Nat} {R : List Rat2} {w : World} (h : RatBox Bx b off cap R w) (hm : Mod R) (hl : R.length ≤ 8) {a c : Nat} (ha : a < R.length) (hc : c < R.length) :
    Calls Try.prog 65 #[.int .i64 a, .int .i64 c, .pointer (some ⟨Bx, 0, none⟩)] w fun e w' => e = .returned (.int .i64 (Lib.compareInt ((R.getD c (0, 0)).1 * (R.getD a (0, 0)).2) ((R.getD a (0, 0)).1 * (R.getD c (0, 0)).2))) ∧ Below w.heap.size w w' := by
  have b0 := h.bx
  obtain ⟨x1, d1⟩ := h.at' a ha
  obtain ⟨y1, f1⟩ := h.at' c hc
  have hx := hm _ (getD_mem2 ha)
  have hy := hm _ (getD_mem2 hc)
  have ha' : (a : Int) < (R.length : Int) := by omega
  have hc' : (c : Int) < (R.length : Int) := by omega
  clear h hm
  generalize R.getD a (0, 0) = xd at *
  generalize R.getD c (0, 0) = yd at *
  obtain ⟨n, d⟩ := xd
  obtain ⟨p, q⟩ := yd
  simp only at x1 d1 y1 f1 hx hy ⊢
  have m1 : -1000000000 * 1000000 ≤ n * q ∧ n * q ≤ 1000000000 * 1000000 := by
    constructor
    · have := Int.mul_le_mul_of_nonneg_right (show -1000000000 ≤ n by omega) (show 0 ≤ q by omega)
      omega
    · have := Int.mul_le_mul_of_nonneg_right (show n ≤ 1000000000 by omega) (show 0 ≤ q by omega)
      omega
  have m2 : -1000000000 * 1000000 ≤ p * d ∧ p * d ≤ 1000000000 * 1000000 := by
    constructor
    · have := Int.mul_le_mul_of_nonneg_right (show -1000000000 ≤ p by omega) (show 0 ≤ d by omega)
      omega
    · have := Int.mul_le_mul_of_nonneg_right (show p ≤ 1000000000 by omega) (show 0 ≤ d by omega)
      omega
  have C := Lib.hid (fun W (hW : KBs w W) => (compare_any p q n d W (by omega) (by omega)).mono (R' := fun e w' => e = .returned (.int .i64 (Lib.compareInt (p * d) (n * q))) ∧ KBs w w') (fun e w' ⟨h5, h6⟩ => ⟨h5, KBs.call hW h6⟩))
  generalize Lib.compareInt (p * d) (n * q) = cv at *
  clear m1 m2 hx hy
  have r0 : ∀ W, KBs w W → W.cell? ⟨Bx, 0, none⟩ = some (.slice (some ⟨b, off, none⟩) R.length cap) := fun W h => keep_cell h b0
  have r1 : ∀ W, KBs w W → W.cell? ⟨b, off + a * 2, none⟩ = some (.int .i64 n) := fun W h => keep_cell h x1
  have r2 : ∀ W, KBs w W → W.cell? ⟨b, off + a * 2 + 1, none⟩ = some (.int .i64 d) := fun W h => keep_cell h d1
  have r3 : ∀ W, KBs w W → W.cell? ⟨b, off + c * 2, none⟩ = some (.int .i64 p) := fun W h => keep_cell h y1
  have r4 : ∀ W, KBs w W → W.cell? ⟨b, off + c * 2 + 1, none⟩ = some (.int .i64 q) := fun W h => keep_cell h f1
  clear b0 x1 d1 y1 f1
  go_enter Try.func65, Try.ntmps65
  go_wp2
  go_region_held3 (fun W => KBs w W) (first | exact KBs.drew (KBs.refl _) | assumption | (apply KBs.drew; assumption)) (first
    | (go_at_call 66; (with_reducible refine (C.out _ ?_).mono ?_); (first | exact KBs.drew (KBs.refl _) | exact KBs.refl _); rintro e w5 ⟨rfl, k5⟩)
    | fail)
  all_goals (
    have K5 := Lib.hid k5
    clear k5
    go_wp2
    go_ret
    exact ⟨rfl, (by first | exact K5.out | exact KBs.drew K5.out)⟩)

def asI (L : List Nat) : List Int := L.map (fun (i : Nat) => ((i : Nat) : Int))
theorem asI_len (L : List Nat) : (asI L).length = L.length := by simp [asI]
theorem asI_at {L : List Nat} {j : Nat} (h : j < L.length) : (asI L).getD j 0 = (L[j] : Int) := by simp [asI, List.getD_eq_getElem?_getD, h]
theorem asI_set (L : List Nat) (j x : Nat) : (asI L).set j (x : Int) = asI (L.set j x) := by simp [asI, List.map_set]

/-- The first i are in order. -/
def PreI (G : List Int) (n i : Nat) (arr : List Nat) : Prop := ∃ P : List Nat, arr = P ++ (List.range n).drop i ∧ P.Perm (List.range i) ∧ P.Pairwise (Bef G)
/-- i has come down to j. -/
def InsI (G : List Int) (n i j : Nat) (arr : List Nat) : Prop := ∃ A B : List Nat, A.length = j ∧ arr = A ++ i :: (B ++ (List.range n).drop (i + 1)) ∧ (A ++ B).Perm (List.range i) ∧ (A ++ B).Pairwise (Bef G) ∧ ∀ x ∈ B, G.getD x 0 < G.getD i 0
theorem range_drop {n i : Nat} (h : i < n) : (List.range n).drop i = i :: (List.range n).drop (i + 1) := by
  rw [List.drop_eq_getElem_cons (by simpa using h)]
  simp
theorem pre_start (G : List Int) {n : Nat} (h : 1 ≤ n) : PreI G n 1 (List.range n) := ⟨[0], by
  have := range_drop (n := n) (i := 0) (by omega)
  simpa using this, by simp [List.range_succ], by simp⟩
theorem ins_start {G : List Int} {n i : Nat} {arr : List Nat} (h : PreI G n i arr) (hi : i < n) : InsI G n i i arr := by
  obtain ⟨P, h1, h2, h3⟩ := h
  exact ⟨P, [], by rw [h2.length_eq]; simp, by rw [h1, range_drop hi]; simp, by simpa using h2, by simpa using h3, fun x hx => by simp at hx⟩
theorem ins_len {G : List Int} {n i j : Nat} {arr : List Nat} (h : InsI G n i j arr) (hi : i < n) : arr.length = n ∧ j ≤ i := by
  obtain ⟨A, B, h1, rfl, h2, _⟩ := h
  have := h2.length_eq
  simp at this
  simp
  omega
theorem ins_at {G : List Int} {n i j : Nat} {arr : List Nat} (h : InsI G n i j arr) : arr.getD j 0 = i := by
  obtain ⟨A, B, rfl, rfl, _⟩ := h
  simp [List.getD_eq_getElem?_getD]
theorem ins_prev {G : List Int} {n i j : Nat} {arr : List Nat} (h : InsI G n i (j + 1) arr) : arr.getD j 0 < i := by
  obtain ⟨A, B, h1, rfl, h2, _⟩ := h
  have hj : j < A.length := by omega
  have : (A ++ i :: (B ++ (List.range n).drop (i + 1))).getD j 0 = A[j] := by
    simp [List.getD_eq_getElem?_getD, List.getElem?_append_left hj, hj]
  rw [this]
  have hm : A[j] ∈ List.range i := h2.mem_iff.1 (List.mem_append_left _ (List.getElem_mem hj))
  simpa using hm
theorem ins_swap {G : List Int} {n i j : Nat} {arr : List Nat} (h : InsI G n i (j + 1) arr) (hlt : G.getD (arr.getD j 0) 0 < G.getD i 0) : InsI G n i j ((arr.set (j + 1) (arr.getD j 0)).set j i) := by
  obtain ⟨A, B, h1, rfl, h2, h3, h4⟩ := h
  obtain ⟨A', y, rfl⟩ : ∃ A' y, A = A' ++ [y] := by
    refine ⟨A.dropLast, A.getLast (by intro e; rw [e] at h1; simp at h1), (List.dropLast_concat_getLast _).symm⟩
  have hA : A'.length = j := by simpa using h1
  subst hA
  have e1 : (A' ++ [y] ++ i :: (B ++ (List.range n).drop (i + 1))).getD A'.length 0 = y := by simp [List.getD_eq_getElem?_getD]
  rw [e1] at hlt ⊢
  refine ⟨A', y :: B, rfl, ?_, by simpa using h2, by simpa using h3, fun x hx => ?_⟩
  · simp [List.set_append]
  · rcases List.mem_cons.1 hx with rfl | hx
    · exact hlt
    · exact h4 x hx
theorem ins_stop {G : List Int} {n i j : Nat} {arr : List Nat} (h : InsI G n i j arr) (hi : i < n) (hs : j = 0 ∨ ¬ G.getD (arr.getD (j - 1) 0) 0 < G.getD i 0) : PreI G n (i + 1) arr := by
  obtain ⟨A, B, h1, rfl, h2, h3, h4⟩ := h
  have hmem : ∀ x, x ∈ A ∨ x ∈ B → x < i := fun x hx => by
    have := h2.mem_iff.1 (List.mem_append.2 hx)
    simpa using this
  obtain ⟨pA, pB, pAB⟩ := List.pairwise_append.1 h3
  have hA : ∀ x ∈ A, Bef G x i := fun x hx => by
    obtain ⟨k, hk, rfl⟩ := List.getElem_of_mem hx
    rcases hs with rfl | hs
    · omega
    · have hj : j - 1 < A.length := by omega
      have e1 : (A ++ i :: (B ++ (List.range n).drop (i + 1))).getD (j - 1) 0 = A[j - 1] := by simp [List.getD_eq_getElem?_getD, List.getElem?_append_left hj, hj]
      rw [e1] at hs
      have hlt := hmem A[k] (.inl (List.getElem_mem hk))
      have h5 : G.getD A[j - 1] 0 ≤ G.getD A[k] 0 := by
        rcases Nat.lt_or_ge k (j - 1) with h6 | h6
        · rcases List.pairwise_iff_getElem.1 pA k (j - 1) hk hj h6 with h7 | ⟨h7, _⟩ <;> omega
        · have : k = j - 1 := by omega
          subst this
          exact Int.le_refl _
      unfold Bef
      omega
  refine ⟨A ++ i :: B, by simp, ?_, ?_⟩
  · rw [List.range_succ]
    exact (List.perm_middle.trans ((List.Perm.cons i h2).trans (List.perm_append_singleton i (List.range i)).symm))
  · rw [List.pairwise_append, List.pairwise_cons]
    refine ⟨pA, ⟨fun x hx => .inl (h4 x hx), pB⟩, fun x hx y hy => ?_⟩
    rcases List.mem_cons.1 hy with rfl | hy
    · exact hA x hx
    · exact pAB x hx y hy
theorem pre_end {G : List Int} {n : Nat} {arr : List Nat} (h : PreI G n n arr) (hn : G.length = n) : Orde G arr := by
  obtain ⟨P, rfl, h2, h3⟩ := h
  have : (List.range n).drop n = [] := by simp
  rw [this, List.append_nil, ]
  subst hn
  exact ⟨h2, h3⟩

end Go.Proofs.Ytaakefjblldccaa

/- Plain mathematics: the deeds of Two lead to the amount. -/
import Derived.Test.YtikcpfpeoofppaaW
import Derived.Test.YtikcpfpeoofppaaH
namespace Go.Proofs.Ytikcpfpeoofppaa

theorem twoRun_len {a b n : Nat} : ∀ (k p q : Nat) (r : List (Nat × Nat × Nat)), twoRun a b n k p q = some r → r.length ≤ k
  | 0, p, q, r, h => by
    unfold twoRun at h
    split at h
    · cases h; simp
    · cases h
  | k + 1, p, q, r, h => by
    unfold twoRun at h
    split at h
    · cases h; simp
    · rw [Option.map_eq_some_iff] at h
      obtain ⟨s, hs, rfl⟩ := h
      have := twoRun_len k _ _ _ hs
      simp; omega

theorem twoD_is (b p q : Nat) : twoD b p q = (2, 0, 1) ∨ twoD b p q = (1, 0, 0) ∨ twoD b p q = (3, 0, 1) := by
  unfold twoD
  split
  · exact .inl rfl
  · split
    · exact .inr (.inl rfl)
    · exact .inr (.inr rfl)

theorem twoRun_mem {a b n : Nat} : ∀ (k p q : Nat) (r : List (Nat × Nat × Nat)), twoRun a b n k p q = some r → ∀ d ∈ r, d = (2, 0, 1) ∨ d = (1, 0, 0) ∨ d = (3, 0, 1)
  | 0, p, q, r, h => by
    unfold twoRun at h
    split at h
    · cases h; simp
    · cases h
  | k + 1, p, q, r, h => by
    unfold twoRun at h
    split at h
    · cases h; simp
    · rw [Option.map_eq_some_iff] at h
      obtain ⟨s, hs, rfl⟩ := h
      intro d hd
      rcases List.mem_cons.1 hd with rfl | hd
      · exact twoD_is _ _ _
      · exact twoRun_mem k _ _ _ hs d hd

theorem two_done {a b p q : Nat} (hq : q ≤ b) : doneL [(a : Int), (b : Int)] [(p : Int), (q : Int)] (dZ (twoD b p q)) = [((twoP a b p q : Nat) : Int), ((twoQ b p q : Nat) : Int)] := by
  unfold twoD twoP twoQ
  split
  · simp [doneL, dZ]
  · split
    · simp [doneL, dZ]
    · simp [doneL, dZ, pour]
      omega

theorem twoRun_fold {a b n : Nat} : ∀ (k p q : Nat) (r : List (Nat × Nat × Nat)), p ≤ a → q ≤ b → twoRun a b n k p q = some r → ∃ p' : Nat, (r.map dZ).foldl (doneL [(a : Int), (b : Int)]) [(p : Int), (q : Int)] = [(p' : Int), (n : Int)]
  | 0, p, q, r, hp, hq, h => by
    unfold twoRun at h
    split at h
    · rename_i e
      cases h
      subst e
      exact ⟨p, rfl⟩
    · cases h
  | k + 1, p, q, r, hp, hq, h => by
    unfold twoRun at h
    split at h
    · rename_i e
      cases h
      subst e
      exact ⟨p, rfl⟩
    · rw [Option.map_eq_some_iff] at h
      obtain ⟨s, hs, rfl⟩ := h
      rw [List.map_cons, List.foldl_cons, two_done hq]
      exact twoRun_fold k _ _ s (by unfold twoP; split <;> (try split) <;> omega) (by unfold twoQ; split <;> (try split) <;> omega) hs

/-- The fills are at most b. -/
def fillsN (r : List (Nat × Nat × Nat)) : Nat := (r.filter fun d => d.1 == 1).length
def twosAll : Bool := (List.range 12).all fun i => (List.range 12).all fun j => (List.range 13).all fun n => decide (fillsN (twoT (i + 1) (j + 1) n) ≤ j + 1)
theorem twosAll_true : twosAll = true := by kernel_rfl
theorem two_fills {a b n : Nat} (ha : 1 ≤ a ∧ a ≤ 12) (hb : 1 ≤ b ∧ b ≤ 12) (hn : n ≤ b) : fillsN (twoT a b n) ≤ b := by
  have h := twosAll_true
  simp only [twosAll, List.all_eq_true, List.mem_range] at h
  have h1 := h (a - 1) (by omega) (b - 1) (by omega) n (by omega)
  rw [show a - 1 + 1 = a by omega, show b - 1 + 1 = b by omega] at h1
  exact of_decide_eq_true h1

/-- What the deeds of Two are. -/
structure TwoGood (a b n : Nat) : Prop where
  err : runE [(a : Int), (b : Int)] [0, 0] ((twoT a b n).map dZ) = 0
  val : ∃ p' : Nat, runV [(a : Int), (b : Int)] [0, 0] ((twoT a b n).map dZ) = [(p' : Int), (n : Int)]
  fill : fillsN (twoT a b n) ≤ b
  first : ∀ d ∈ twoT a b n, d.1 = 1 → d.2.2 = 0
  len : (twoT a b n).length ≤ 64

theorem two_good {a b n : Nat} (ha : 1 ≤ a ∧ a ≤ 12) (hb : 1 ≤ b ∧ b ≤ 12) (hn : n ≤ b) (hd : n % Nat.gcd a b = 0) : TwoGood a b n := by
  obtain ⟨r, hr⟩ := two_some ha hb hn hd
  have e : twoT a b n = r := by simp [twoT, hr]
  have hlen := twoRun_len _ _ _ _ hr
  have hmem := twoRun_mem _ _ _ _ hr
  obtain ⟨p', hp'⟩ := twoRun_fold _ 0 0 _ (Nat.zero_le _) (Nat.zero_le _) hr
  have hT := tvl_two ha hb
  have h1 : askE [(a : Int), (b : Int)] [[0, 0]] = 0 := by
    rw [askE_one, if_pos ((tvl_iff _).2 hT), if_pos]
    rw [levB_iff]
    exact lev_two (p := 0) (q := 0) (Nat.zero_le _) (Nat.zero_le _)
  have h2 : areD ([(a : Int), (b : Int)] : List Int).length (r.map dZ) = true := by
    rw [areD_iff]
    refine ⟨by simp; omega, fun d hd => ?_⟩
    obtain ⟨x, hx, rfl⟩ := List.mem_map.1 hd
    rcases hmem x hx with rfl | rfl | rfl <;> simp [IsD, dZ]
  have h3 : runE [(a : Int), (b : Int)] [0, 0] (r.map dZ) = 0 := by unfold runE; rw [if_pos h1, h2]; rfl
  refine ⟨by rw [e]; exact h3, ⟨p', by rw [e]; unfold runV; rw [if_pos h3]; exact hp'⟩, two_fills ha hb hn, ?_, by rw [e]; exact hlen⟩
  rw [e]
  intro d hd h
  rcases hmem d hd with rfl | rfl | rfl <;> simp at h ⊢

end Go.Proofs.Ytikcpfpeoofppaa

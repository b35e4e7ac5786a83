/- Plain mathematics: water in and out. -/
import Derived.Test.YtikcpfpeoofppaaP
namespace Go.Proofs.Ytikcpfpeoofppaa

theorem sum_setI : ∀ (l : List Int) (k : Nat) (x : Int), k < l.length → (l.set k x).sum = l.sum - l.getD k 0 + x
  | [], k, x, h => by simp at h
  | a :: l, 0, x, _ => by simp; omega
  | a :: l, k + 1, x, h => by
    have ih := sum_setI l k x (by simpa using h)
    simp only [List.set_cons_succ, List.sum_cons, List.getD_cons_succ]
    omega

/-- What a deed fills in. -/
def dIn (t l : List Int) (d : Deed) : Int := if d.1 = 1 then t.getD d.2.2.toNat 0 - l.getD d.2.2.toNat 0 else 0
/-- What a deed empties out. -/
def dOut (l : List Int) (d : Deed) : Int := if d.1 = 2 then l.getD d.2.2.toNat 0 else 0
def inK (t l : List Int) (ds : List Deed) : Nat → Int
  | 0 => 0
  | k + 1 => inK t l ds k + dIn t (lvK t l ds k) (ds.getD k noDeed)
def outK (t l : List Int) (ds : List Deed) : Nat → Int
  | 0 => 0
  | k + 1 => outK t l ds k + dOut (lvK t l ds k) (ds.getD k noDeed)

theorem d_bounds {t l : List Int} {d : Deed} (ht : Tvl t) (hl : Lev t l) (hd : IsD t.length d) : 0 ≤ dIn t l d ∧ dIn t l d ≤ 12 ∧ 0 ≤ dOut l d ∧ dOut l d ≤ 12 := by
  obtain ⟨o, f, k⟩ := d
  unfold IsD at hd
  unfold dIn dOut
  simp only at hd ⊢
  rcases hd with ⟨h1, rfl, h2, h3⟩ | ⟨rfl, _⟩
  · have hk : k.toNat < t.length := by omega
    have b1 := hl.bd ht _ hk
    have b2 := ht.holds _ (mem_getD hk)
    have b3 := hl.2 _ hk
    generalize l.getD k.toNat 0 = x at *
    generalize t.getD k.toNat 0 = y at *
    rcases h1 with rfl | rfl <;> simp <;> omega
  · simp

theorem sum_done {t l : List Int} {d : Deed} (ht : Tvl t) (hl : Lev t l) (hd : IsD t.length d) : (doneL t l d).sum - l.sum = dIn t l d - dOut l d ∧ (dIn t l d = 0 ∨ dOut l d = 0) := by
  obtain ⟨o, f, k⟩ := d
  have hlen := hl.1
  unfold IsD at hd
  simp only at hd
  unfold dIn dOut doneL
  simp only
  rcases hd with ⟨h1, rfl, h2, h3⟩ | ⟨rfl, f1, f2, h2, h3, hne⟩
  · have hk : k.toNat < l.length := by omega
    rcases h1 with rfl | rfl
    · have := sum_setI l k.toNat (t.getD k.toNat 0) hk
      refine ⟨?_, .inr (by simp)⟩
      rw [if_pos rfl, if_pos rfl, if_neg (by decide), this]
      omega
    · have := sum_setI l k.toNat 0 hk
      refine ⟨?_, .inl (by simp)⟩
      rw [if_neg (by decide), if_pos rfl, if_neg (by decide), if_pos rfl, this]
      omega
  · refine ⟨?_, .inl (by simp)⟩
    simp only [show ¬ (3 : Int) = 1 by decide, show ¬ (3 : Int) = 2 by decide, if_false]
    unfold pour
    have hf : f.toNat < l.length := by omega
    have hk : k.toNat < (l.set f.toNat (l.getD f.toNat 0 - min (l.getD f.toNat 0) (t.getD k.toNat 0 - l.getD k.toNat 0))).length := by simp; omega
    rw [sum_setI _ _ _ hk, sum_setI _ _ _ hf, getD_setI hf, if_neg (by omega)]
    omega

theorem lv_sum {t l : List Int} {ds : List Deed} (ht : Tvl t) (hl : Lev t l) (hd : areD t.length ds = true) : ∀ k, k ≤ ds.length →
    (lvK t l ds k).sum = l.sum + inK t l ds k - outK t l ds k ∧ 0 ≤ inK t l ds k ∧ inK t l ds k ≤ 12 * k ∧ 0 ≤ outK t l ds k ∧ outK t l ds k ≤ 12 * k
  | 0, _ => by simp [lvK_zero, inK, outK]
  | k + 1, hk => by
    obtain ⟨h1, h2, h3, h4, h5⟩ := lv_sum ht hl hd k (by omega)
    have hL := lvK_lev ht hl hd k (by omega)
    have hD := isD_at hd (show k < ds.length by omega)
    have hb := d_bounds ht hL hD
    have hs := (sum_done ht hL hD).1
    rw [lvK_succ t l ds (by omega)]
    unfold inK outK
    push_cast
    omega

theorem in_max {t l : List Int} {d : Deed} (ht : Tvl t) (hl : Lev t l) (hd : IsD t.length d) : dIn t l d = max ((doneL t l d).sum - l.sum) 0 ∧ dOut l d = max (l.sum - (doneL t l d).sum) 0 := by
  have h1 := d_bounds ht hl hd
  have h2 := sum_done ht hl hd
  omega

end Go.Proofs.Ytikcpfpeoofppaa

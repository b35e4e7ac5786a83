/- Plain mathematics: the search from some levels, in the order in which levels come about. -/
import Derived.Test.YtikcpfpeoofppaaDd
namespace Go.Proofs.Ytikcpfpeoofppaa

theorem lev_ext {t l m : List Int} (hl : Lev t l) (hm : Lev t m) (h : ∀ j, j < t.length → l.getD j 0 = m.getD j 0) : l = m := by
  apply List.ext_getElem (by rw [hl.1, hm.1])
  intro j h1 h2
  have := h j (by rw [← hl.1]; exact h1)
  rwa [List.getD_eq_getElem?_getD, List.getD_eq_getElem?_getD, List.getElem?_eq_getElem h1, List.getElem?_eq_getElem h2] at this

/-- The number of the first k levels, and how many there are. -/
def numK (t l : List Int) : Nat → Nat
  | 0 => 0
  | k + 1 => numK t l k * ((t.getD k 0).toNat + 1) + (l.getD k 0).toNat
def sizeK (t : List Int) : Nat → Nat
  | 0 => 1
  | k + 1 => sizeK t k * ((t.getD k 0).toNat + 1)

theorem numK_lt {t l : List Int} (hl : Lev t l) : ∀ k, k ≤ t.length → numK t l k < sizeK t k
  | 0, _ => by simp [numK, sizeK]
  | k + 1, h => by
    have ih := numK_lt hl k (by omega)
    have hb := hl.2 k (by omega)
    have h1 : (numK t l k + 1) * ((t.getD k 0).toNat + 1) ≤ sizeK t k * ((t.getD k 0).toNat + 1) := Nat.mul_le_mul_right _ ih
    have h2 : (l.getD k 0).toNat ≤ (t.getD k 0).toNat := by omega
    rw [Nat.add_mul] at h1
    unfold numK sizeK
    omega

theorem mul_add_inj {x y T a b : Nat} (ha : a ≤ T) (hb : b ≤ T) (h : x * (T + 1) + a = y * (T + 1) + b) : x = y ∧ a = b := by
  have h1 := congrArg (· % (T + 1)) h
  simp only [Nat.add_comm _ a, Nat.add_comm _ b, Nat.add_mul_mod_self_right] at h1
  rw [Nat.mod_eq_of_lt (by omega), Nat.mod_eq_of_lt (by omega)] at h1
  subst h1
  exact ⟨Nat.eq_of_mul_eq_mul_right (show 0 < T + 1 by omega) (by omega), rfl⟩

theorem numK_inj {t l m : List Int} (hl : Lev t l) (hm : Lev t m) : ∀ k, k ≤ t.length → numK t l k = numK t m k → ∀ j, j < k → l.getD j 0 = m.getD j 0
  | 0, _, _, j, hj => by omega
  | k + 1, h, e, j, hj => by
    have h1 := hl.2 k (by omega)
    have h2 := hm.2 k (by omega)
    unfold numK at e
    obtain ⟨e1, e2⟩ := mul_add_inj (by omega) (by omega) e
    rcases Nat.lt_succ_iff_lt_or_eq.1 hj with h' | rfl
    · exact numK_inj hl hm k (by omega) e1 j h'
    · omega

/-- The number of levels among all that the tanks can have. -/
def numR (t l : List Int) : Nat := numK t l t.length
def sizeR (t : List Int) : Nat := sizeK t t.length
theorem numR_lt {t l : List Int} (hl : Lev t l) : numR t l < sizeR t := numK_lt hl _ (Nat.le_refl _)
theorem numR_inj {t l m : List Int} (hl : Lev t l) (hm : Lev t m) (h : numR t l = numR t m) : l = m := lev_ext hl hm (numK_inj hl hm _ (Nat.le_refl _) h)

theorem sizeK_le {t : List Int} (ht : Tvl t) : ∀ k, k ≤ t.length → sizeK t k ≤ 13 ^ k
  | 0, _ => by simp [sizeK]
  | k + 1, h => by
    have ih := sizeK_le ht k (by omega)
    have hb := ht.holds _ (mem_getD (show k < t.length by omega))
    unfold sizeK
    rw [Nat.pow_succ]
    exact Nat.mul_le_mul ih (by omega)
theorem sizeR_le {t : List Int} (ht : Tvl t) : sizeR t ≤ 28561 :=
  Nat.le_trans (sizeK_le ht _ (Nat.le_refl _)) (Nat.pow_le_pow_right (by omega) ht.hi : 13 ^ t.length ≤ 13 ^ 4)

theorem nodup_lt_len : ∀ (N : Nat) (l : List Nat), l.Nodup → (∀ x ∈ l, x < N) → l.length ≤ N
  | 0, l, _, h => by
    cases l with
    | nil => simp
    | cons x l => have := h x (by simp); omega
  | N + 1, l, hn, h => by
    have h1 : (l.erase N).length ≤ N := nodup_lt_len N _ (hn.erase N) (fun x hx => by
      obtain ⟨h2, h3⟩ := (hn.mem_erase_iff).1 hx
      have := h x h3
      omega)
    by_cases hm : N ∈ l
    · rw [List.length_erase_of_mem hm] at h1; omega
    · rw [List.erase_of_not_mem hm] at h1; omega

/-- An entry: levels, the deeds that lead to them, the levels in front of the last deed. -/
abbrev Ent := List Int × List Deed × List Int
def noE : Ent := ([], [], [])

def stepE (t : List Int) (x : Ent) (es : List Ent) (d : Deed) : List Ent :=
  if doneL t x.1 d ∈ es.map (fun e : Ent => e.1) then es else es ++ [(doneL t x.1 d, x.2.1 ++ [d], x.1)]
def expE (t : List Int) (x : Ent) (es : List Ent) : List Ent := (deedsL t.length).foldl (stepE t x) es
/-- The entries when the first i are done with. -/
def bfs (t l : List Int) : Nat → List Ent
  | 0 => [(l, [], [])]
  | i + 1 => if i < (bfs t l i).length then expE t ((bfs t l i).getD i noE) (bfs t l i) else bfs t l i

structure Good (t l : List Int) (es : List Ent) : Prop where
  head : ∃ r, es = (l, [], []) :: r
  lev : ∀ e ∈ es, Lev t e.1
  nodup : es.Pairwise (fun a b => a.1 ≠ b.1)
  par : ∀ e ∈ es, e = (l, [], []) ∨ ∃ p ∈ es, ∃ d, IsD t.length d ∧ e = (doneL t p.1 d, p.2.1 ++ [d], p.1)
  sorted : es.Pairwise (fun a b => a.2.1.length ≤ b.2.1.length)

theorem stepE_prefix (t : List Int) (x : Ent) (es : List Ent) (d : Deed) : es <+: stepE t x es d := by
  unfold stepE
  split
  · exact List.prefix_rfl
  · exact List.prefix_append _ _

theorem stepE_good {t l : List Int} {x : Ent} {es : List Ent} {d : Deed} (ht : Tvl t) (hg : Good t l es) (hx : x ∈ es) (hd : IsD t.length d) (htop : ∀ e ∈ es, e.2.1.length ≤ x.2.1.length + 1) :
    Good t l (stepE t x es d) ∧ (∀ e ∈ stepE t x es d, e.2.1.length ≤ x.2.1.length + 1) ∧ ∃ e ∈ stepE t x es d, e.1 = doneL t x.1 d ∧ e.2.1.length ≤ x.2.1.length + 1 := by
  unfold stepE
  split
  · rename_i h
    obtain ⟨e, he, h1⟩ := List.mem_map.1 h
    exact ⟨hg, htop, e, he, h1, htop e he⟩
  · rename_i h
    have hnew : ∀ e ∈ es, e.1 ≠ doneL t x.1 d := fun e he h1 => h (List.mem_map.2 ⟨e, he, h1⟩)
    have hlen : (x.2.1 ++ [d]).length = x.2.1.length + 1 := by simp
    refine ⟨⟨?_, ?_, ?_, ?_, ?_⟩, ?_, (doneL t x.1 d, x.2.1 ++ [d], x.1), by simp, rfl, by simp⟩
    · obtain ⟨r, rfl⟩ := hg.head
      exact ⟨r ++ [(doneL t x.1 d, x.2.1 ++ [d], x.1)], by simp⟩
    · intro e he
      rcases List.mem_append.1 he with he | he
      · exact hg.lev e he
      · simp only [List.mem_singleton] at he
        subst he
        exact doneL_lev ht (hg.lev x hx) hd
    · rw [List.pairwise_append]
      refine ⟨hg.nodup, by simp, fun a ha b hb => ?_⟩
      simp only [List.mem_singleton] at hb
      subst hb
      exact hnew a ha
    · intro e he
      rcases List.mem_append.1 he with he | he
      · rcases hg.par e he with h1 | ⟨p, hp, d', h2, h3⟩
        · exact .inl h1
        · exact .inr ⟨p, List.mem_append_left _ hp, d', h2, h3⟩
      · simp only [List.mem_singleton] at he
        exact .inr ⟨x, List.mem_append_left _ hx, d, hd, he⟩
    · rw [List.pairwise_append]
      refine ⟨hg.sorted, by simp, fun a ha b hb => ?_⟩
      simp only [List.mem_singleton] at hb
      subst hb
      have := htop a ha
      simp only [hlen]
      omega
    · intro e he
      rcases List.mem_append.1 he with he | he
      · exact htop e he
      · simp only [List.mem_singleton] at he
        subst he
        simp

theorem foldE_prefix (t : List Int) (x : Ent) : ∀ (ds : List Deed) (es : List Ent), es <+: ds.foldl (stepE t x) es
  | [], _es => List.prefix_rfl
  | d :: ds, es => (stepE_prefix t x es d).trans (foldE_prefix t x ds _)

theorem foldE_good {t l : List Int} {x : Ent} (ht : Tvl t) : ∀ (ds : List Deed) (es : List Ent), Good t l es → x ∈ es → (∀ d ∈ ds, IsD t.length d) → (∀ e ∈ es, e.2.1.length ≤ x.2.1.length + 1) →
    Good t l (ds.foldl (stepE t x) es) ∧ (∀ e ∈ ds.foldl (stepE t x) es, e.2.1.length ≤ x.2.1.length + 1) ∧ ∀ d ∈ ds, ∃ e ∈ ds.foldl (stepE t x) es, e.1 = doneL t x.1 d ∧ e.2.1.length ≤ x.2.1.length + 1
  | [], es, hg, hx, hds, htop => ⟨hg, htop, fun d hd => by simp at hd⟩
  | d :: ds, es, hg, hx, hds, htop => by
    obtain ⟨g1, g2, e, he, g3⟩ := stepE_good ht hg hx (hds d (by simp)) htop
    obtain ⟨k1, k2, k3⟩ := foldE_good ht ds _ g1 ((stepE_prefix t x es d).subset hx) (fun d hd => hds d (by simp [hd])) g2
    refine ⟨k1, k2, fun d' hd' => ?_⟩
    rcases List.mem_cons.1 hd' with rfl | hd'
    · exact ⟨e, (foldE_prefix t x ds _).subset he, g3⟩
    · exact k3 d' hd'

theorem prefix_getD {α : Type} {a b : List α} (h : a <+: b) {i : Nat} (hi : i < a.length) (d : α) : b.getD i d = a.getD i d := by
  obtain ⟨r, rfl⟩ := h
  simp [List.getD_eq_getElem?_getD, List.getElem?_append_left hi]
theorem getD_mem {α : Type} {a : List α} {i : Nat} (hi : i < a.length) (d : α) : a.getD i d ∈ a := by
  rw [List.getD_eq_getElem?_getD, List.getElem?_eq_getElem hi]; exact List.getElem_mem hi

theorem map_getD (es : List Ent) (i : Nat) : (es.map fun e : Ent => e.1).getD i [] = (es.getD i noE).1 := by
  rw [List.getD_eq_getElem?_getD, List.getD_eq_getElem?_getD, List.getElem?_map]
  cases es[i]? <;> rfl

theorem bfs_succ_prefix (t l : List Int) (i : Nat) : bfs t l i <+: bfs t l (i + 1) := by
  rw [bfs]
  split
  · exact foldE_prefix _ _ _ _
  · exact List.prefix_rfl
theorem bfs_prefix (t l : List Int) (i : Nat) : ∀ k, bfs t l i <+: bfs t l (i + k)
  | 0 => List.prefix_rfl
  | k + 1 => (bfs_prefix t l i k).trans (bfs_succ_prefix t l (i + k))
theorem bfs_stop {t l : List Int} {i : Nat} (h : (bfs t l i).length ≤ i) : ∀ k, bfs t l (i + k) = bfs t l i
  | 0 => rfl
  | k + 1 => by
    have ih := bfs_stop h k
    rw [← Nat.add_assoc, bfs, ih, if_neg (by omega)]

/-- What holds when the first i are done with. -/
structure At (t l : List Int) (i : Nat) : Prop where
  good : Good t l (bfs t l i)
  top : i < (bfs t l i).length → ∀ e ∈ bfs t l i, e.2.1.length ≤ ((bfs t l i).getD i noE).2.1.length + 1
  closed : ∀ j, j < i → j < (bfs t l i).length → ∀ d, IsD t.length d → ∃ e ∈ bfs t l i, e.1 = doneL t ((bfs t l i).getD j noE).1 d ∧ e.2.1.length ≤ ((bfs t l i).getD j noE).2.1.length + 1

theorem pairwise_getD {es : List Ent} (h : es.Pairwise (fun a b => a.2.1.length ≤ b.2.1.length)) {i j : Nat} (hij : i ≤ j) (hj : j < es.length) : (es.getD i noE).2.1.length ≤ (es.getD j noE).2.1.length := by
  rw [List.getD_eq_getElem?_getD, List.getD_eq_getElem?_getD, List.getElem?_eq_getElem hj, List.getElem?_eq_getElem (by omega)]
  rcases Nat.lt_or_ge i j with h1 | h1
  · exact List.pairwise_iff_getElem.1 h i j (by omega) hj h1
  · obtain rfl : i = j := by omega
    exact Nat.le_refl _

theorem bfs_at {t l : List Int} (ht : Tvl t) (hl : Lev t l) : ∀ i, At t l i
  | 0 => by
    refine ⟨⟨⟨[], rfl⟩, ?_, by simp [bfs], ?_, by simp [bfs]⟩, ?_, fun j hj => by omega⟩
    · intro e he
      simp only [bfs, List.mem_singleton] at he
      subst he
      exact hl
    · intro e he
      simp only [bfs, List.mem_singleton] at he
      exact .inl he
    · intro _ e he
      simp only [bfs, List.mem_singleton] at he
      subst he
      simp
  | i + 1 => by
    have ih := bfs_at ht hl i
    have hp := bfs_succ_prefix t l i
    by_cases hi : i < (bfs t l i).length
    · have e : bfs t l (i + 1) = expE t ((bfs t l i).getD i noE) (bfs t l i) := by rw [bfs, if_pos hi]
      obtain ⟨g1, g2, g3⟩ := foldE_good (x := (bfs t l i).getD i noE) ht (deedsL t.length) _ ih.good (getD_mem hi _) (fun d hd => mem_deedsL.1 hd) (ih.top hi)
      rw [show (deedsL t.length).foldl (stepE t ((bfs t l i).getD i noE)) (bfs t l i) = bfs t l (i + 1) from e.symm] at g1 g2 g3
      refine ⟨g1, fun h1 x hx => ?_, fun j hj hjl d hd => ?_⟩
      · have h2 := g2 x hx
        have h3 := pairwise_getD g1.sorted (show i ≤ i + 1 by omega) h1
        rw [prefix_getD hp hi] at h3
        omega
      · rcases Nat.lt_succ_iff_lt_or_eq.1 hj with h1 | rfl
        · have h2 : j < (bfs t l i).length := by omega
          obtain ⟨x, hx, h3⟩ := ih.closed j h1 h2 d hd
          rw [prefix_getD hp h2]
          exact ⟨x, hp.subset hx, h3⟩
        · rw [prefix_getD hp hi]
          exact g3 d (mem_deedsL.2 hd)
    · have e : bfs t l (i + 1) = bfs t l i := by rw [bfs, if_neg hi]
      refine ⟨by rw [e]; exact ih.good, fun h1 => by rw [e] at h1; omega, fun j hj hjl d hd => ?_⟩
      rw [e] at hjl ⊢
      exact ih.closed j (by omega) hjl d hd

theorem good_len {t l : List Int} {es : List Ent} (h : Good t l es) : es.length ≤ sizeR t := by
  have h1 : (es.map fun e : Ent => numR t e.1).Nodup := by
    unfold List.Nodup
    rw [List.pairwise_map]
    exact h.nodup.imp_of_mem (fun {a b} ha hb hne he => hne (numR_inj (h.lev a ha) (h.lev b hb) he))
  have := nodup_lt_len (sizeR t) _ h1 (fun x hx => by
    obtain ⟨e, he, rfl⟩ := List.mem_map.1 hx
    exact numR_lt (h.lev e he))
  simpa using this

theorem bfs_len {t l : List Int} (ht : Tvl t) (hl : Lev t l) (i : Nat) : (bfs t l i).length ≤ sizeR t := good_len (bfs_at ht hl i).good

/-- All that comes about. -/
def full (t l : List Int) : List Ent := bfs t l (sizeR t)
theorem full_eq {t l : List Int} (ht : Tvl t) (hl : Lev t l) {i : Nat} (h : (bfs t l i).length ≤ i) : bfs t l i = full t l := by
  unfold full
  rcases Nat.le_total i (sizeR t) with h1 | h1
  · obtain ⟨k, hk⟩ := Nat.le.dest h1
    rw [← hk, bfs_stop h]
  · obtain ⟨k, hk⟩ := Nat.le.dest h1
    rw [← hk, bfs_stop (bfs_len ht hl _)]
theorem full_prefix {t l : List Int} (ht : Tvl t) (hl : Lev t l) (i : Nat) : bfs t l i <+: full t l := by
  unfold full
  rcases Nat.le_total i (sizeR t) with h1 | h1
  · obtain ⟨k, hk⟩ := Nat.le.dest h1
    rw [← hk]; exact bfs_prefix t l i k
  · obtain ⟨k, hk⟩ := Nat.le.dest h1
    rw [← hk, bfs_stop (bfs_len ht hl _)]
    exact List.prefix_rfl
theorem full_good {t l : List Int} (ht : Tvl t) (hl : Lev t l) : Good t l (full t l) := (bfs_at ht hl _).good
theorem full_closed {t l : List Int} (ht : Tvl t) (hl : Lev t l) {x : Ent} (hx : x ∈ full t l) {d : Deed} (hd : IsD t.length d) : ∃ e ∈ full t l, e.1 = doneL t x.1 d ∧ e.2.1.length ≤ x.2.1.length + 1 := by
  obtain ⟨j, hj, rfl⟩ := List.getElem_of_mem hx
  have h1 := bfs_len ht hl (sizeR t)
  have := (bfs_at ht hl (sizeR t)).closed j (Nat.lt_of_lt_of_le hj h1) hj d hd
  rwa [List.getD_eq_getElem?_getD, List.getElem?_eq_getElem (show j < (bfs t l (sizeR t)).length from hj)] at this

/-- The deeds of an entry lead there. -/
theorem Good.way {t l : List Int} {es : List Ent} (h : Good t l es) : ∀ (n : Nat) (e : Ent), e ∈ es → e.2.1.length = n → e.2.1.foldl (doneL t) l = e.1 ∧ ∀ d ∈ e.2.1, IsD t.length d
  | 0, e, he, hn => by
    rcases h.par e he with rfl | ⟨p, hp, d, hd, rfl⟩
    · exact ⟨rfl, fun d hd => by simp at hd⟩
    · simp at hn
  | n + 1, e, he, hn => by
    rcases h.par e he with rfl | ⟨p, hp, d, hd, rfl⟩
    · simp at hn
    · obtain ⟨h1, h2⟩ := h.way n p hp (by simpa using hn)
      refine ⟨by simp [List.foldl_append, h1], fun d' hd' => ?_⟩
      rcases List.mem_append.1 hd' with h3 | h3
      · exact h2 d' h3
      · simp only [List.mem_singleton] at h3
        subst h3; exact hd

/-- Whatever deeds lead to comes about, by as few deeds at most. -/
theorem full_reach {t l : List Int} (ht : Tvl t) (hl : Lev t l) (ds : List Deed) (hds : ∀ d ∈ ds, IsD t.length d) : ∀ k, k ≤ ds.length → ∃ e ∈ full t l, e.1 = (ds.take k).foldl (doneL t) l ∧ e.2.1.length ≤ k
  | 0, _ => by
    obtain ⟨r, hr⟩ := (full_good ht hl).head
    exact ⟨(l, [], []), by rw [hr]; simp, rfl, by simp⟩
  | k + 1, h => by
    obtain ⟨x, hx, h1, h2⟩ := full_reach ht hl ds hds k (by omega)
    have hk : k < ds.length := by omega
    obtain ⟨e, he, h3, h4⟩ := full_closed ht hl hx (hds _ (List.getElem_mem hk))
    refine ⟨e, he, ?_, by omega⟩
    rw [h3, h1, List.take_succ_eq_append_getElem hk, List.foldl_append]
    rfl

/-- The first entry with what is asked. -/
def hit (es : List Ent) (g : List Int → Bool) : Option Ent := es.find? (fun e => g e.1)

theorem find_at {α : Type} (p : α → Bool) : ∀ (l : List α) (k : Nat) (d : α), k < l.length → (∀ j, j < k → p (l.getD j d) = false) → p (l.getD k d) = true → l.find? p = some (l.getD k d)
  | [], k, d, h, _, _ => by simp at h
  | x :: l, 0, d, _, _, h => by
    rw [List.getD_cons_zero] at h
    simp [h]
  | x :: l, k + 1, d, hk, hn, h => by
    have h0 := hn 0 (by omega)
    rw [List.getD_cons_zero] at h0
    rw [List.find?_cons, h0]
    have := find_at p l k d (by simpa using hk) (fun j hj => by simpa using hn (j + 1) (by omega)) (by simpa using h)
    simpa using this
theorem find_no {α : Type} (p : α → Bool) (l : List α) (d : α) (h : ∀ j, j < l.length → p (l.getD j d) = false) : l.find? p = none := by
  rw [List.find?_eq_none]
  intro x hx
  obtain ⟨j, hj, rfl⟩ := List.getElem_of_mem hx
  have := h j hj
  rw [List.getD_eq_getElem?_getD, List.getElem?_eq_getElem hj] at this
  simpa using this

/-- The first has the fewest deeds. -/
theorem hit_least {es : List Ent} {g : List Int → Bool} (hs : es.Pairwise (fun a b => a.2.1.length ≤ b.2.1.length)) {x e : Ent} (hx : hit es g = some x) (he : e ∈ es) (hg : g e.1 = true) : x.2.1.length ≤ e.2.1.length := by
  unfold hit at hx
  induction es with
  | nil => simp at he
  | cons y es ih =>
    rw [List.find?_cons] at hx
    rw [List.pairwise_cons] at hs
    cases hy : g y.1 with
    | true =>
      rw [hy] at hx
      simp only [Option.some.injEq] at hx
      subst hx
      rcases List.mem_cons.1 he with rfl | he
      · exact Nat.le_refl _
      · exact hs.1 e he
    | false =>
      rw [hy] at hx
      rcases List.mem_cons.1 he with rfl | he
      · rw [hy] at hg; cases hg
      · exact ih hs.2 hx he
theorem hit_some {es : List Ent} {g : List Int → Bool} {x : Ent} (h : hit es g = some x) : x ∈ es ∧ g x.1 = true := ⟨List.mem_of_find?_eq_some h, by have := List.find?_some (p := fun e : Ent => g e.1) h; exact this⟩
theorem hit_none {es : List Ent} {g : List Int → Bool} (h : hit es g = none) {e : Ent} (he : e ∈ es) : g e.1 = false := by
  unfold hit at h
  rw [List.find?_eq_none] at h
  simpa using h e he

/-- The fewest deeds from l to what is asked. -/
def way (t l : List Int) (g : List Int → Bool) : Option (List Deed) := (hit (full t l) g).map (fun e => e.2.1)

theorem way_some {t l : List Int} {g : List Int → Bool} {ds : List Deed} (ht : Tvl t) (hl : Lev t l) (h : way t l g = some ds) : g (ds.foldl (doneL t) l) = true ∧ ∀ d ∈ ds, IsD t.length d := by
  unfold way at h
  rw [Option.map_eq_some_iff] at h
  obtain ⟨e, he, rfl⟩ := h
  obtain ⟨h1, h2⟩ := hit_some he
  obtain ⟨h3, h4⟩ := (full_good ht hl).way _ e h1 rfl
  exact ⟨by rw [h3]; exact h2, h4⟩
theorem way_none {t l : List Int} {g : List Int → Bool} (ht : Tvl t) (hl : Lev t l) (h : way t l g = none) {ds : List Deed} (hds : ∀ d ∈ ds, IsD t.length d) : g (ds.foldl (doneL t) l) = false := by
  unfold way at h
  rw [Option.map_eq_none_iff] at h
  obtain ⟨e, he, h1, _⟩ := full_reach ht hl ds hds ds.length (Nat.le_refl _)
  rw [List.take_length] at h1
  rw [← h1]
  exact hit_none h he
theorem way_least {t l : List Int} {g : List Int → Bool} {ds : List Deed} (ht : Tvl t) (hl : Lev t l) (h : way t l g = some ds) {qs : List Deed} (hqs : ∀ d ∈ qs, IsD t.length d) (hq : g (qs.foldl (doneL t) l) = true) : ds.length ≤ qs.length := by
  unfold way at h
  rw [Option.map_eq_some_iff] at h
  obtain ⟨x, hx, rfl⟩ := h
  obtain ⟨e, he, h1, h2⟩ := full_reach ht hl qs hqs qs.length (Nat.le_refl _)
  rw [List.take_length] at h1
  have := hit_least (full_good ht hl).sorted hx he (by rw [h1]; exact hq)
  omega

end Go.Proofs.Ytikcpfpeoofppaa

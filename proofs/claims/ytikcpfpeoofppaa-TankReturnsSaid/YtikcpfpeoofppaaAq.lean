/- Texts of this claim, laid together: Ap, Ax, Aq, Av. -/
import Derived.Test.YtikcpfpeoofppaaTr
import Derived.Test.YtikcpfpeoofppaaNu
import Derived.Test.YtikcpfpeoofppaaTm

/- Plain mathematics: all levels that come about, in order. -/
namespace Go.Proofs.Ytikcpfpeoofppaa

/-- Which of two lists comes first. -/
def cmpI : List Int → List Int → Int
  | [], [] => 0
  | [], _ :: _ => -1
  | _ :: _, [] => 1
  | x :: a, y :: b => if x < y then -1 else if y < x then 1 else cmpI a b
theorem first_diff : ∀ l m : List Int, l.length = m.length → l = m ∨ ∃ k, k < l.length ∧ (∀ j, j < k → l.getD j 0 = m.getD j 0) ∧ l.getD k 0 ≠ m.getD k 0
  | [], [], _ => .inl rfl
  | [], _ :: _, h => by simp at h
  | _ :: _, [], h => by simp at h
  | x :: a, y :: b, h => by
    by_cases hxy : x = y
    · subst hxy
      rcases first_diff a b (by simpa using h) with rfl | ⟨k, hk, h1, h2⟩
      · exact .inl rfl
      · refine .inr ⟨k + 1, by simpa using hk, fun j hj => ?_, by simpa using h2⟩
        rcases j with _ | j
        · rfl
        · simpa using h1 j (by omega)
    · exact .inr ⟨0, by simp, fun j hj => by omega, by simpa using hxy⟩
theorem cmpI_lt : ∀ (l m : List Int) (k : Nat), k < l.length → l.length = m.length → (∀ j, j < k → l.getD j 0 = m.getD j 0) → l.getD k 0 < m.getD k 0 → cmpI l m = -1 ∧ cmpI m l = 1
  | [], _, k, h, _, _, _ => by simp at h
  | _ :: _, [], _, _, h, _, _ => by simp at h
  | x :: a, y :: b, 0, _, _, _, h => by
    simp only [List.getD_cons_zero] at h
    simp only [cmpI]
    rw [if_pos h, if_neg (by omega), if_pos h]
    exact ⟨rfl, rfl⟩
  | x :: a, y :: b, k + 1, hk, hl, he, h => by
    have h0 : x = y := by simpa using he 0 (by omega)
    subst h0
    have ih := cmpI_lt a b k (by simpa using hk) (by simpa using hl) (fun j hj => by simpa using he (j + 1) (by omega)) (by simpa using h)
    simp only [cmpI, Int.lt_irrefl, if_false]
    exact ih
theorem cmpI_self : ∀ l : List Int, cmpI l l = 0
  | [] => rfl
  | x :: a => by
    simp only [cmpI]
    rw [if_neg (Int.lt_irrefl x), if_neg (Int.lt_irrefl x)]
    exact cmpI_self a
theorem numK_same {t l m : List Int} : ∀ k, (∀ j, j < k → l.getD j 0 = m.getD j 0) → numK t l k = numK t m k
  | 0, _ => rfl
  | k + 1, h => by
    unfold numK
    rw [numK_same k (fun j hj => h j (by omega)), h k (by omega)]
theorem numK_less {t l m : List Int} (hl : Lev t l) (hm : Lev t m) {k : Nat} (he : ∀ j, j < k → l.getD j 0 = m.getD j 0) (h : l.getD k 0 < m.getD k 0) : ∀ d, k + 1 + d ≤ t.length → numK t l (k + 1 + d) < numK t m (k + 1 + d)
  | 0, hd => by
    have h1 := hl.2 k (by omega)
    have h2 := hm.2 k (by omega)
    show numK t l (k + 1) < numK t m (k + 1)
    unfold numK
    rw [numK_same k he]
    omega
  | d + 1, hd => by
    have ih := numK_less hl hm he h d (by omega)
    have h1 := hl.2 (k + 1 + d) (by omega)
    have h2 := hm.2 (k + 1 + d) (by omega)
    show numK t l (k + 1 + d + 1) < numK t m (k + 1 + d + 1)
    unfold numK
    have h3 : (numK t l (k + 1 + d) + 1) * ((t.getD (k + 1 + d) 0).toNat + 1) ≤ numK t m (k + 1 + d) * ((t.getD (k + 1 + d) 0).toNat + 1) := Nat.mul_le_mul_right _ ih
    rw [Nat.add_mul] at h3
    have h4 : (l.getD (k + 1 + d) 0).toNat ≤ (t.getD (k + 1 + d) 0).toNat := by omega
    omega
/-- Lists of levels come in the order of their numbers. -/
theorem cmp_num {t l m : List Int} (hl : Lev t l) (hm : Lev t m) : cmpI l m < 0 ↔ numR t l < numR t m := by
  have e1 := hl.1
  have e2 := hm.1
  rcases first_diff l m (by omega) with rfl | ⟨k, hk, he, hne⟩
  · rw [cmpI_self]; simp
  · have less : ∀ {a b : List Int}, Lev t a → Lev t b → (∀ j, j < k → a.getD j 0 = b.getD j 0) → a.getD k 0 < b.getD k 0 → numR t a < numR t b := fun {a b} ha hb h1 h2 => by
      have := numK_less ha hb h1 h2 (t.length - (k + 1)) (by omega)
      rw [show k + 1 + (t.length - (k + 1)) = t.length by omega] at this
      exact this
    rcases Int.lt_trichotomy (l.getD k 0) (m.getD k 0) with h | h | h
    · rw [(cmpI_lt l m k hk (by omega) he h).1]
      have := less hl hm he h
      simp [this]
    · exact absurd h hne
    · rw [(cmpI_lt m l k (by omega) (by omega) (fun j hj => (he j hj).symm) h).2]
      have := less hm hl (fun j hj => (he j hj).symm) h
      constructor
      · intro h; omega
      · intro h; omega

/-- The levels with a number, and those with a number below one, in order. -/
def atN (t : List Int) (es : List Ent) (n : Nat) : Option (List Int) := (es.find? fun e => numR t e.1 == n).map (fun e => e.1)
def outN (t : List Int) (es : List Ent) (k : Nat) : List (List Int) := (List.range k).filterMap (atN t es)
theorem outN_some {t : List Int} {es : List Ent} {k : Nat} {l : List Int} (h : atN t es k = some l) : outN t es (k + 1) = outN t es k ++ [l] := by
  simp [outN, List.range_succ, List.filterMap_append, h]
theorem outN_none {t : List Int} {es : List Ent} {k : Nat} (h : atN t es k = none) : outN t es (k + 1) = outN t es k := by
  simp [outN, List.range_succ, List.filterMap_append, h]
theorem atN_some {t : List Int} {es : List Ent} {n : Nat} {l : List Int} (h : atN t es n = some l) : (∃ e ∈ es, e.1 = l) ∧ numR t l = n := by
  unfold atN at h
  rw [Option.map_eq_some_iff] at h
  obtain ⟨e, he, rfl⟩ := h
  refine ⟨⟨e, List.mem_of_find?_eq_some he, rfl⟩, ?_⟩
  have := List.find?_some he
  simpa using this
theorem atN_new (t : List Int) (es : List Ent) (e : Ent) (n : Nat) : (atN t (es ++ [e]) n).isSome = ((atN t es n).isSome || numR t e.1 == n) := by
  unfold atN
  rw [List.find?_append]
  cases h : es.find? fun e => numR t e.1 == n with
  | some x => simp
  | none =>
    simp only [Option.none_or, List.find?_cons, List.find?_nil]
    cases h2 : numR t e.1 == n <;> simp
theorem seen_atN {t : List Int} {n : Nat} (hn : n < sizeR t) (es : List Ent) : ∀ k, k ≤ es.length → (∀ e ∈ es, numR t e.1 < sizeR t) → (seenL t (es.take k)).getD n false = (atN t (es.take k) n).isSome
  | 0, _, _ => by
    simp [seenL, putN, atN, List.getD_eq_getElem?_getD, hn]
  | k + 1, hk, h => by
    have ih := seen_atN hn es k (by omega) h
    rw [List.take_succ_eq_append_getElem (by omega), seen_new, atN_new]
    have hm := h es[k] (List.getElem_mem _)
    by_cases hne : numR t es[k].1 = n
    · rw [hne]
      simp [List.getD_eq_getElem?_getD, seenL_len, hn]
    · rw [show (numR t es[k].1 == n) = false from beq_eq_false_iff_ne.2 hne, Bool.or_false, ← ih]
      simp [List.getD_eq_getElem?_getD, List.getElem?_set, hne]
theorem perm_sorted : ∀ {A B : List Nat}, A.Perm B → A.Pairwise (· ≤ ·) → B.Pairwise (· ≤ ·) → A = B
  | [], B, h, _, _ => (List.nil_perm.1 h).symm
  | a :: A, [], h, _, _ => by simp at h
  | a :: A, b :: B, h, hA, hB => by
    have h1 : a ∈ b :: B := h.mem_iff.1 (by simp)
    have h2 : b ∈ a :: A := h.mem_iff.2 (by simp)
    rw [List.pairwise_cons] at hA hB
    have e : a = b := by
      have k1 : b ≤ a := by
        rcases List.mem_cons.1 h1 with rfl | h
        · exact Nat.le_refl _
        · exact hB.1 a h
      have k2 : a ≤ b := by
        rcases List.mem_cons.1 h2 with rfl | h
        · exact Nat.le_refl _
        · exact hA.1 b h
      omega
    subst e
    rw [perm_sorted (List.perm_cons a |>.1 h) hA.2 hB.2]
/-- What is sorted of all levels is all levels by their numbers. -/
theorem sorted_out {t l : List Int} {es : List Ent} (hg : Good t l es) {S : List (List Int)} (hp : S.Perm (es.map fun e => e.1)) (hs : S.Pairwise (fun a b => ¬ cmpI b a < 0)) : S = outN t es (sizeR t) := by
  have hlev : ∀ x ∈ S, Lev t x := fun x hx => by
    obtain ⟨e, he, rfl⟩ := List.mem_map.1 (hp.mem_iff.1 hx)
    exact hg.lev e he
  have hO : ∀ x, x ∈ outN t es (sizeR t) ↔ x ∈ es.map fun e => e.1 := fun x => by
    unfold outN
    rw [List.mem_filterMap]
    constructor
    · rintro ⟨n, _, hx⟩
      obtain ⟨⟨e, he, h1⟩, _⟩ := atN_some hx
      exact List.mem_map.2 ⟨e, he, h1⟩
    · intro hx
      obtain ⟨e, he, rfl⟩ := List.mem_map.1 hx
      have hn := numR_lt (hg.lev e he)
      refine ⟨numR t e.1, List.mem_range.2 hn, ?_⟩
      cases h : atN t es (numR t e.1) with
      | some y =>
        obtain ⟨⟨e2, he2, h1⟩, h2⟩ := atN_some h
        rw [numR_inj (h1 ▸ hg.lev e2 he2) (hg.lev e he) h2]
      | none =>
        unfold atN at h
        rw [Option.map_eq_none_iff, List.find?_eq_none] at h
        exact absurd (beq_self_eq_true _) (h e he)
  have hOn : ∀ k, ((outN t es k).map (numR t)).Pairwise (· < ·) ∧ ∀ x ∈ (outN t es k).map (numR t), x < k := fun k => by
    induction k with
    | zero => simp [outN]
    | succ k ih =>
      cases h : atN t es k with
      | none =>
        rw [outN_none h]
        exact ⟨ih.1, fun x hx => Nat.lt_succ_of_lt (ih.2 x hx)⟩
      | some y =>
        rw [outN_some h, List.map_append, List.pairwise_append]
        obtain ⟨_, h2⟩ := atN_some h
        refine ⟨⟨ih.1, by simp, fun a ha b hb => ?_⟩, fun x hx => ?_⟩
        · simp at hb
          subst hb
          rw [h2]
          exact ih.2 a ha
        · rcases List.mem_append.1 hx with h3 | h3
          · exact Nat.lt_succ_of_lt (ih.2 x h3)
          · simp at h3
            omega
  have hnd : (es.map fun e => e.1).Nodup := by
    unfold List.Nodup
    rw [List.pairwise_map]
    exact hg.nodup
  have hp2 : (outN t es (sizeR t)).Perm (es.map fun e => e.1) := by
    have h1 : (outN t es (sizeR t)).Nodup := by
      have := (hOn (sizeR t)).1
      rw [List.pairwise_map] at this
      exact this.imp (fun {a b} h e => by subst e; omega)
    exact (List.perm_ext_iff_of_nodup h1 hnd).2 hO
  have hpp : (S.map (numR t)).Perm ((outN t es (sizeR t)).map (numR t)) := (hp.trans hp2.symm).map _
  have e := perm_sorted hpp (by
    rw [List.pairwise_map]
    refine hs.imp_of_mem (fun {a b} ha hb h => ?_)
    rw [cmp_num (hlev b hb) (hlev a ha)] at h
    omega) ((hOn (sizeR t)).1.imp (fun h => Nat.le_of_lt h))
  have hlen : S.length = (outN t es (sizeR t)).length := (hp.trans hp2.symm).length_eq
  apply List.ext_getElem hlen
  intro i h1 h2
  have hi : (S.map (numR t))[i]? = ((outN t es (sizeR t)).map (numR t))[i]? := by rw [e]
  simp only [List.getElem?_map, List.getElem?_eq_getElem h1, List.getElem?_eq_getElem h2, Option.map_some, Option.some.injEq] at hi
  have m2 : Lev t (outN t es (sizeR t))[i] := by
    obtain ⟨e, he, h⟩ := List.mem_map.1 ((hO _).1 (List.getElem_mem h2))
    rw [← h]
    exact hg.lev e he
  exact numR_inj (hlev _ (List.getElem_mem h1)) m2 hi

end Go.Proofs.Ytikcpfpeoofppaa

/- Plain mathematics: lists of numbers are ordered. -/
namespace Go.Proofs.Ytikcpfpeoofppaa

theorem cmpI_anti : ∀ a b : List Int, cmpI b a = -(cmpI a b)
  | [], [] => rfl
  | [], _ :: _ => rfl
  | _ :: _, [] => rfl
  | x :: a, y :: b => by
    simp only [cmpI]
    by_cases h1 : x < y
    · rw [if_neg (by omega), if_pos h1, if_pos h1]; rfl
    · by_cases h2 : y < x
      · rw [if_pos h2, if_neg h1, if_pos h2]
      · rw [if_neg h2, if_neg h1, if_neg h1, if_neg h2]
        exact cmpI_anti a b
theorem cmpI_eq : ∀ {a b : List Int}, cmpI a b = 0 → a = b
  | [], [], _ => rfl
  | [], _ :: _, h => by simp [cmpI] at h
  | _ :: _, [], h => by simp [cmpI] at h
  | x :: a, y :: b, h => by
    simp only [cmpI] at h
    by_cases h1 : x < y
    · rw [if_pos h1] at h; omega
    · by_cases h2 : y < x
      · rw [if_neg h1, if_pos h2] at h; omega
      · rw [if_neg h1, if_neg h2] at h
        rw [show x = y by omega, cmpI_eq h]
theorem cmpI_trans : ∀ {a b c : List Int}, cmpI a b < 0 → cmpI b c < 0 → cmpI a c < 0
  | [], [], _, h, _ => by simp [cmpI] at h
  | [], _ :: _, [], _, h => by simp [cmpI] at h
  | [], _ :: _, _ :: _, _, _ => by simp [cmpI]
  | _ :: _, [], _, h, _ => by simp [cmpI] at h
  | _ :: _, _ :: _, [], _, h => by simp [cmpI] at h
  | x :: a, y :: b, z :: c, h, h' => by
    simp only [cmpI] at h h' ⊢
    by_cases h1 : x < y
    · by_cases h3 : y < z
      · rw [if_pos (show x < z by omega)]; omega
      · by_cases h4 : z < y
        · rw [if_neg h3, if_pos h4] at h'; omega
        · rw [if_pos (show x < z by omega)]; omega
    · by_cases h2 : y < x
      · rw [if_neg h1, if_pos h2] at h; omega
      · rw [if_neg h1, if_neg h2] at h
        by_cases h3 : y < z
        · rw [if_pos (show x < z by omega)]; omega
        · by_cases h4 : z < y
          · rw [if_neg h3, if_pos h4] at h'; omega
          · rw [if_neg h3, if_neg h4] at h'
            rw [if_neg (show ¬ x < z by omega), if_neg (show ¬ z < x by omega)]
            exact cmpI_trans h h'
theorem cmpI_ntrans {a b c : List Int} (h : ¬ cmpI a b < 0) (h' : ¬ cmpI b c < 0) : ¬ cmpI a c < 0 := fun h2 => by
  have e1 := cmpI_anti a b
  have e2 := cmpI_anti b c
  have e3 := cmpI_anti a c
  rcases Int.lt_trichotomy (cmpI a b) 0 with k | k | k
  · exact h k
  · rw [cmpI_eq k] at h2
    exact h' h2
  · rcases Int.lt_trichotomy (cmpI b c) 0 with k' | k' | k'
    · exact h' k'
    · rw [← cmpI_eq k'] at h2
      exact h h2
    · have := cmpI_trans (a := c) (b := b) (c := a) (by omega) (by omega)
      omega

end Go.Proofs.Ytikcpfpeoofppaa

/- Rows of rows of ints, grown by appends. -/
namespace Go.Proofs.Ytikcpfpeoofppaa
open Go.RowKit

/-- A header of a row of ints that lies in a block of ints. -/
def HeadO (w : World) (x : Value) (l : List Int) : Prop := ∃ b cap, x = .slice (some ⟨b, 0, none⟩) l.length cap ∧ w.ownsRow 0 3 1 (.slice (some ⟨b, 0, none⟩) l.length cap) l.length (l.map (Value.int .i64))
theorem HeadO.keep {w w' : World} {x : Value} {l : List Int} (h : HeadO w x l) (hk : ∀ b, x.ownBlock = some b → w'.heap[b]? = w.heap[b]?) : HeadO w' x l := by
  obtain ⟨b, cap, rfl, hr⟩ := h
  exact ⟨b, cap, rfl, row_keep hr (hk b rfl)⟩
theorem HeadO.lt {w : World} {x : Value} {l : List Int} (h : HeadO w x l) {b : Nat} (hb : x.ownBlock = some b) : b < w.heap.size ∧ ∃ cur, w.heap[b]? = some (.cells cur 3 (0, 0)) := by
  obtain ⟨b', cap, rfl, hr⟩ := h
  simp only [Value.ownBlock, Option.some.injEq] at hb
  subst hb
  obtain ⟨cur, _, hc⟩ := row_block hr
  exact ⟨(Array.getElem?_eq_some_iff.1 hc).1, cur, hc⟩
theorem HeadO.below {w w' : World} {x : Value} {l : List Int} (h : HeadO w x l) (hb : Below w.heap.size w w') : HeadO w' x l := h.keep (fun _ hb' => hb.block _ (h.lt hb').1)
theorem HeadO.ints {w : World} {x : Value} {l : List Int} (h : HeadO w x l) (hl : l.length ≤ 1000) : IntsAt w x l := by
  obtain ⟨b, cap, rfl, hr⟩ := h
  refine ⟨some ⟨b, 0, none⟩, cap, rfl, by omega, fun _ => ⟨b, 0, rfl, fun j hj => ?_⟩⟩
  rw [show 0 + j = j by omega, hr.cellAt j (by omega)]
  simp [List.getD_eq_getElem?_getD, hj]

/-- A slice value that owns headers of the rows L, from B on. -/
def RowsO (w : World) (B : Nat) (v : Value) (L : List (List Int)) : Prop :=
  ∃ H : List Value, H.length = L.length ∧ w.ownsRow B 29 1 v L.length H ∧ ∀ j, j < L.length → HeadO w (H.getD j undef) (L.getD j [])
theorem RowsO.nil (w : World) (B : Nat) : RowsO w B (.slice none 0 0) [] := ⟨[], rfl, World.ownsRow_nil _ _ _ _, fun j h => by simp at h⟩
theorem RowsO.below {w w' : World} {B : Nat} {v : Value} {L : List (List Int)} (h : RowsO w B v L) (hb : Below w.heap.size w w') : RowsO w' B v L := by
  obtain ⟨H, h1, h2, h3⟩ := h
  refine ⟨H, h1, ?_, fun j hj => (h3 j hj).below hb⟩
  refine ⟨h2.1, ?_⟩
  rcases h2.2 with hn | ⟨g, cap, cur, rfl, hg, hh, r⟩
  · exact .inl hn
  · exact .inr ⟨g, cap, cur, rfl, hg, (hb.block g (Array.getElem?_eq_some_iff.1 hh).1).trans hh, r⟩
/-- An append of one more header. -/
theorem RowsO.snoc {w w2 : World} {B : Nat} {v v' x : Value} {L : List (List Int)} {l : List Int} {H : List Value} {tmp : Obj} (h1 : H.length = L.length) (h2 : w.ownsRow B 29 1 v L.length H) (h3 : ∀ j, j < L.length → HeadO w (H.getD j undef) (L.getD j []))
    (hx : HeadO w x l) (hown : w2.ownsRow B 29 1 v' (L.length + 1) (H ++ [x])) (hg : (w.alloc tmp).grownBy w2 v.ownBlock) : RowsO w2 B v' (L ++ [l]) := by
  have keep : ∀ {y : Value} {m : List Int}, HeadO w y m → HeadO w2 y m := fun {y m} hy => hy.keep (fun b hb => by
    obtain ⟨hlt, cur, hc⟩ := hy.lt hb
    refine (hg.block b (by rw [World.size_alloc]; omega) (fun e => ?_)).trans (Below.heap_alloc _ _ _ hlt)
    rcases h2.2 with ⟨rfl, _⟩ | ⟨g, cap, cur2, rfl, _, hh, _⟩
    · cases e
    · simp only [Value.ownBlock, Option.some.injEq] at e
      subst e
      rw [hc] at hh
      simp only [Option.some.injEq, Obj.cells.injEq] at hh
      exact absurd hh.2.1 (by decide))
  refine ⟨H ++ [x], by simp [h1], by simpa using hown, fun j hj => ?_⟩
  simp only [List.length_append, List.length_cons, List.length_nil] at hj
  by_cases hlt : j < L.length
  · have e1 : (H ++ [x]).getD j undef = H.getD j undef := by simp [List.getD_eq_getElem?_getD, List.getElem?_append_left (show j < H.length by omega)]
    have e2 : (L ++ [l]).getD j [] = L.getD j [] := by simp [List.getD_eq_getElem?_getD, List.getElem?_append_left hlt]
    rw [e1, e2]
    exact keep (h3 j hlt)
  · have ej : j = L.length := by omega
    subst ej
    have e1 : (H ++ [x]).getD L.length undef = x := by rw [← h1]; simp [List.getD_eq_getElem?_getD]
    have e2 : (L ++ [l]).getD L.length [] = l := by simp [List.getD_eq_getElem?_getD]
    rw [e1, e2]
    exact keep hx
theorem RowsO.rows {w : World} {B : Nat} {v : Value} {L : List (List Int)} (h : RowsO w B v L) (hL : L.length ≤ 100000) (hl : ∀ l ∈ L, l.length ≤ 1000) : RowsAt w v L := by
  obtain ⟨H, h1, h2, h3⟩ := h
  have hc : ∀ g cap, v = .slice (some ⟨g, 0, none⟩) L.length cap → ∀ i, i < L.length → ∃ x, w.cell? ⟨g, 0 + i, none⟩ = some x ∧ IntsAt w x (L.getD i []) := fun g cap hv i hi => by
    subst hv
    refine ⟨H.getD i undef, ?_, (h3 i hi).ints (hl _ (by rw [List.getD_eq_getElem?_getD, List.getElem?_eq_getElem hi]; exact List.getElem_mem hi))⟩
    rw [show 0 + i = i by omega, h2.cellAt i (by omega)]
    simp [List.getD_eq_getElem?_getD, h1, hi]
  rcases h2.2 with ⟨rfl, h0⟩ | ⟨g, cap, cur, rfl, _⟩
  · exact ⟨none, 0, by rw [h0], by omega, fun h => by omega⟩
  · exact ⟨some ⟨g, 0, none⟩, cap, rfl, by omega, fun _ => ⟨g, 0, rfl, hc g cap rfl⟩⟩

end Go.Proofs.Ytikcpfpeoofppaa

/- Contracts: comparing numbers and lists of them. -/
namespace Go.Proofs.Ytikcpfpeoofppaa
open Go.RowKit

def cmp1 (x y : Int) : Int := if x < y then -1 else if y < x then 1 else 0
theorem isNaN_any (x : Int) (w : World) : Calls Try.prog 110 #[.int .i64 x] w fun e w' => e = .returned (.bool false) ∧ w = w' := by
  go_enter Try.func110, Try.ntmps110
  go_wp2
  go_ret
  first | exact ⟨rfl, rfl⟩ | simp
theorem cmp_any (x y : Int) (w : World) : Calls Try.prog 95 #[.int .i64 x, .int .i64 y] w fun e w' => e = .returned (.int .i64 (cmp1 x y)) ∧ w = w' := by
  have C := Lib.hid (show cmp1 x y = if x < y then -1 else if y < x then 1 else 0 from rfl)
  by_cases h1 : x < y
  · have D := Lib.hid (show cmp1 x y = -1 by rw [C.out, if_pos h1])
    have d1 : decide (x < y) = true := decide_eq_true h1
    go_enter Try.func95, Try.ntmps95
    go_wp2_with (go_at_call 110; refine (isNaN_any _ _).mono ?_; rintro e w' ⟨rfl, rfl⟩)
    go_ret
    exact ⟨by rw [D.out]; rfl, rfl⟩
  · have d1 : decide (x < y) = false := decide_eq_false h1
    by_cases h2 : y < x
    · have D := Lib.hid (show cmp1 x y = 1 by rw [C.out, if_neg h1, if_pos h2])
      have d2 : decide (y < x) = true := decide_eq_true h2
      go_enter Try.func95, Try.ntmps95
      go_wp2_with (go_at_call 110; refine (isNaN_any _ _).mono ?_; rintro e w' ⟨rfl, rfl⟩)
      go_ret
      exact ⟨by rw [D.out]; rfl, rfl⟩
    · have D := Lib.hid (show cmp1 x y = 0 by rw [C.out, if_neg h1, if_neg h2])
      have d2 : decide (y < x) = false := decide_eq_false h2
      go_enter Try.func95, Try.ntmps95
      go_wp2_with (go_at_call 110; refine (isNaN_any _ _).mono ?_; rintro e w' ⟨rfl, rfl⟩)
      go_ret
      exact ⟨by rw [D.out]; rfl, rfl⟩
theorem drop_at {l : List Int} {k : Nat} (h : k < l.length) : l.drop k = l.getD k 0 :: l.drop (k + 1) := by
  rw [List.drop_eq_getElem_cons h]
  simp [List.getD_eq_getElem?_getD, h]

set_option maxRecDepth 100000 in
set_option maxHeartbeats 2000000 in
theorem cmpI_any (v x : Value) (l m : List Int) (w : World) (hv : IntsAt w v l) (hx : IntsAt w x m) (hl : l.length ≤ 1000) :
    Calls Try.prog 83 #[v, x] w fun e w' => e = .returned (.int .i64 (cmpI l m)) ∧ w = w' := by
  obtain ⟨a, cap, rfl, _, hq⟩ := hv
  obtain ⟨a2, cap2, rfl, _, hq2⟩ := hx
  have Q := Lib.hid hq
  have Q2 := Lib.hid hq2
  clear hq hq2
  go_enter Try.func83, Try.ntmps83
  go_wp2
  go_loopw [11] (fun iv wr => ∃ k : Nat, k ≤ l.length ∧ k ≤ m.length ∧ iv = .int .i64 k ∧ Hid (cmpI l m = cmpI (l.drop k) (m.drop k)) ∧ w = wr) (fun iv _ => l.length - (intOf iv).toNat)
  case atStart => exact ⟨0, Nat.zero_le _, Nat.zero_le _, rfl, Lib.hid rfl, rfl⟩
  case round =>
    obtain ⟨k, hk, hk2, rfl, HE, rfl⟩ := hrel
    by_cases hlt : k < l.length
    · have hlt' : (k : Int) < (l.length : Int) := by omega
      obtain ⟨b, off, rfl, hc⟩ := Q.out (by omega)
      have x0 := hc k hlt
      have DL := Lib.hid (drop_at hlt)
      by_cases hlt2 : k < m.length
      · have hlt2' : (k : Int) < (m.length : Int) := by omega
        obtain ⟨b2, off2, rfl, hc2⟩ := Q2.out (by omega)
        have y0 := hc2 k hlt2
        have DM := Lib.hid (drop_at hlt2)
        have CE := Lib.hid (show cmpI l m = if l.getD k 0 < m.getD k 0 then -1 else if m.getD k 0 < l.getD k 0 then 1 else cmpI (l.drop (k + 1)) (m.drop (k + 1)) by rw [HE.out, DL.out, DM.out]; rfl)
        clear hc hc2 HE DL DM
        generalize l.getD k 0 = p at *
        generalize m.getD k 0 = q at *
        have C := Lib.hid (cmp_any p q w)
        by_cases h1 : p < q
        · have D := Lib.hid (show cmp1 p q = -1 from if_pos h1)
          have E := Lib.hid (show cmpI l m = -1 by rw [CE.out, if_pos h1])
          rw [D.out] at C
          clear CE h1
          go_wp2_with fail
          refine C.out.mono ?_
          rintro e w' ⟨rfl, rfl⟩
          go_wp2
          go_ret
          exact ⟨by rw [E.out]; rfl, rfl⟩
        · by_cases h2 : q < p
          · have D := Lib.hid (show cmp1 p q = 1 by unfold cmp1; rw [if_neg h1, if_pos h2])
            have E := Lib.hid (show cmpI l m = 1 by rw [CE.out, if_neg h1, if_pos h2])
            rw [D.out] at C
            clear CE h1 h2
            go_wp2_with fail
            refine C.out.mono ?_
            rintro e w' ⟨rfl, rfl⟩
            go_wp2
            go_ret
            exact ⟨by rw [E.out]; rfl, rfl⟩
          · have D := Lib.hid (show cmp1 p q = 0 by unfold cmp1; rw [if_neg h1, if_neg h2])
            have E := Lib.hid (show cmpI l m = cmpI (l.drop (k + 1)) (m.drop (k + 1)) by rw [CE.out, if_neg h1, if_neg h2])
            rw [D.out] at C
            clear CE h1 h2
            go_wp2_with fail
            refine C.out.mono ?_
            rintro e w' ⟨rfl, rfl⟩
            go_wp2
            go_roundw
            case rel => exact ⟨k + 1, by omega, by omega, by go_num, E, by trivial⟩
            case measure => simp [intOf]; omega
      · have ek : k = m.length := by omega
        have hlt2' : (m.length : Int) ≤ (k : Int) := by omega
        have E := Lib.hid (show cmpI l m = 1 by rw [HE.out, DL.out, List.drop_of_length_le (show m.length ≤ k by omega)]; rfl)
        clear hc HE DL ek
        generalize l.getD k 0 = p at *
        go_wp2
        go_ret
        exact ⟨by rw [E.out]; rfl, rfl⟩
    · have hlt' : ¬ (k : Int) < (l.length : Int) := by omega
      by_cases hlm : l.length < m.length
      · have hlm' : (l.length : Int) < (m.length : Int) := by omega
        have E := Lib.hid (show cmpI l m = -1 by rw [HE.out, List.drop_of_length_le (show l.length ≤ k by omega), drop_at (show k < m.length by omega)]; rfl)
        clear HE
        go_wp2
        go_ret
        exact ⟨by rw [E.out]; rfl, rfl⟩
      · have hlm' : ¬ (l.length : Int) < (m.length : Int) := by omega
        have E := Lib.hid (show cmpI l m = 0 by rw [HE.out, List.drop_of_length_le (show l.length ≤ k by omega), List.drop_of_length_le (show m.length ≤ k by omega)]; rfl)
        clear HE
        go_wp2
        go_ret
        exact ⟨by rw [E.out]; rfl, rfl⟩

end Go.Proofs.Ytikcpfpeoofppaa

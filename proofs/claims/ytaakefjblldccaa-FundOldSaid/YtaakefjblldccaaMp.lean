/- Plain mathematics: the mean over all orders, by those who come ahead. -/
import Derived.Test.YtaakefjblldccaaTu
import Derived.Test.YtaakefjblldccaaPf
import Derived.KernelRfl
namespace Go.Proofs.Ytaakefjblldccaa
open Go.RowKit

/-- A sum by who is in. -/
inductive Tree where
  | leaf (n : Nat)
  | node (l r : Tree)
def Tree.zero : Nat → Tree
  | 0 => .leaf 0
  | d + 1 => .node (zero d) (zero d)
def Tree.add (w : Nat) : List Bool → Tree → Tree
  | [], .leaf n => .leaf (n + w)
  | true :: p, .node l r => .node l (add w p r)
  | false :: p, .node l r => .node (add w p l) r
  | _, t => t
def Tree.val : Tree → (List Bool → Int) → Int
  | .leaf n, F => (n : Int) * F []
  | .node l r, F => l.val (fun p => F (false :: p)) + r.val (fun p => F (true :: p))
def Tree.deep : Tree → Nat → Prop
  | .leaf _, d => d = 0
  | .node l r, d => ∃ e, d = e + 1 ∧ l.deep e ∧ r.deep e
theorem Tree.zero_val : ∀ (d : Nat) (F : List Bool → Int), (Tree.zero d).val F = 0
  | 0, F => by simp [zero, val]
  | d + 1, F => by simp [zero, val, zero_val d]
theorem Tree.zero_deep : ∀ d : Nat, (Tree.zero d).deep d
  | 0 => rfl
  | d + 1 => ⟨d, rfl, zero_deep d, zero_deep d⟩
theorem Tree.add_deep (w : Nat) : ∀ (p : List Bool) (t : Tree) (d : Nat), t.deep d → (t.add w p).deep d
  | [], .leaf n, d, h => h
  | true :: p, .node l r, d, ⟨e, h1, h2, h3⟩ => ⟨e, h1, h2, add_deep w p r e h3⟩
  | false :: p, .node l r, d, ⟨e, h1, h2, h3⟩ => ⟨e, h1, add_deep w p l e h2, h3⟩
  | [], .node l r, d, h => h
  | true :: p, .leaf n, d, h => h
  | false :: p, .leaf n, d, h => h
theorem Tree.add_val (w : Nat) : ∀ (p : List Bool) (t : Tree) (F : List Bool → Int), t.deep p.length → (t.add w p).val F = w * F p + t.val F
  | [], .leaf n, F, h => by
    simp only [add, val]
    rw [show ((n + w : Nat) : Int) = (n : Int) + w from Int.natCast_add n w, Int.add_mul, Int.add_comm]
  | true :: p, .node l r, F, ⟨e, h1, h2, h3⟩ => by
    have : e = p.length := by simp at h1; omega
    subst this
    simp only [add, val]
    rw [add_val w p r _ h3]
    omega
  | false :: p, .node l r, F, ⟨e, h1, h2, h3⟩ => by
    have : e = p.length := by simp at h1; omega
    subst this
    simp only [add, val]
    rw [add_val w p l _ h2]
    omega
  | [], .node l r, F, ⟨e, h1, _⟩ => by simp at h1
  | true :: p, .leaf n, F, h => by simp [deep] at h
  | false :: p, .leaf n, F, h => by simp [deep] at h

/-- Who comes ahead of i. -/
def bv (i : Nat) : List Nat → List Bool → List Bool
  | [], v => v
  | j :: r, v => if j = i then v else bv i r (v.set j true)
def bef (c : List Int) (i : Nat) : List Nat → Int
  | [] => 0
  | j :: r => if j = i then 0 else c.getD j 0 + bef c i r
def csumV : List Int → List Bool → Int
  | x :: c, b :: p => (if b then x else 0) + csumV c p
  | _, _ => 0
theorem bv_len (i : Nat) : ∀ (L : List Nat) (v : List Bool), (bv i L v).length = v.length
  | [], v => rfl
  | j :: r, v => by
    simp only [bv]
    split
    · rfl
    · rw [bv_len i r, List.length_set]
theorem csumV_set : ∀ (c : List Int) (v : List Bool) (j : Nat), v.length = c.length → j < c.length → v.getD j true = false → csumV c (v.set j true) = csumV c v + c.getD j 0
  | [], _, j, _, h, _ => by simp at h
  | x :: c, [], j, h, _, _ => by simp at h
  | x :: c, b :: v, 0, _, _, h => by
    simp at h
    subst h
    simp [csumV]
    omega
  | x :: c, b :: v, j + 1, hl, hj, h => by
    simp at h hl hj
    have := csumV_set c v j hl hj (by simpa using h)
    simp [csumV] at this ⊢
    omega
theorem bef_csum (c : List Int) (i : Nat) : ∀ (L : List Nat) (v : List Bool), v.length = c.length → L.Nodup → (∀ j ∈ L, j < c.length) → (∀ j ∈ L, v.getD j true = false) → csumV c (bv i L v) = csumV c v + bef c i L
  | [], v, _, _, _, _ => by simp [bv, bef]
  | j :: r, v, hv, hn, hb, hf => by
    rw [List.nodup_cons] at hn
    simp only [bv, bef]
    by_cases hji : j = i
    · rw [if_pos hji, if_pos hji]; omega
    · rw [if_neg hji, if_neg hji, bef_csum c i r (v.set j true) (by rw [List.length_set, hv]) hn.2 (fun k hk => hb k (by simp [hk])) (fun k hk => by
          have hne : j ≠ k := fun h => hn.1 (h ▸ hk)
          have := hf k (by simp [hk])
          rw [List.getD_eq_getElem?_getD] at this ⊢
          rw [List.getElem?_set_ne hne]
          exact this),
        csumV_set c v j hv (hb j (by simp)) (hf j (by simp))]
      omega
theorem turnS_keep (c : List Int) (i : Nat) : ∀ (L : List Nat) (s : List Int × Int), i ∉ L → (turnS c L s).1.getD i 0 = s.1.getD i 0
  | [], s, _ => rfl
  | j :: L, s, h => by
    simp at h
    simp only [turnS]
    rw [turnS_keep c i L _ h.2]
    simp only [List.getD_eq_getElem?_getD]
    rw [List.getElem?_set_ne (fun e => h.1 e.symm)]
theorem bef_pos {c : List Int} (hc : ∀ x ∈ c, 0 ≤ x) (i : Nat) : ∀ L : List Nat, (∀ j ∈ L, j < c.length) → 0 ≤ bef c i L
  | [], _ => by simp [bef]
  | j :: r, h => by
    have := hc _ (mem_getD (h j (by simp)))
    have := bef_pos hc i r (fun k hk => h k (by simp [hk]))
    simp only [bef]
    split <;> omega
theorem turn_at {c : List Int} (hc : ∀ x ∈ c, 0 ≤ x) (i : Nat) : ∀ (L : List Nat) (s : List Int × Int), i ∈ L → L.Nodup → (∀ j ∈ L, j < c.length) → i < s.1.length → 0 ≤ s.2 → (turnS c L s).1.getD i 0 = min (c.getD i 0) (max (s.2 - bef c i L) 0)
  | [], _, h, _, _, _, _ => by simp at h
  | j :: L, s, h, hn, hb, hi, hs => by
    rw [List.nodup_cons] at hn
    simp only [turnS, bef]
    have hcj := hc _ (mem_getD (hb j (by simp)))
    by_cases hji : j = i
    · subst hji
      rw [if_pos rfl, turnS_keep c j L _ hn.1]
      simp only [List.getD_eq_getElem?_getD, List.getElem?_set_self hi]
      simp only [Option.getD_some, ← List.getD_eq_getElem?_getD]
      omega
    · have hiL : i ∈ L := by simpa [Ne.symm hji] using h
      have hp := bef_pos hc i L (fun k hk => hb k (by simp [hk]))
      rw [if_neg hji, turn_at hc i L _ hiL hn.2 (fun k hk => hb k (by simp [hk])) (by simpa using hi) (by simp only; omega)]
      simp only
      omega

/-- What one gets behind some. -/
def fV (c : List Int) (i : Nat) (e : Int) (p : List Bool) : Int := min (c.getD i 0) (max (e - csumV c p) 0)
theorem csumV_none : ∀ (c : List Int) (n : Nat), csumV c (List.replicate n false) = 0
  | [], n => by cases n <;> simp [csumV, List.replicate]
  | x :: c, 0 => by simp [csumV]
  | x :: c, n + 1 => by simp [csumV, List.replicate, csumV_none c n]
theorem turn_fV {c : List Int} (hc : ∀ x ∈ c, 0 ≤ x) {L : List Nat} {i : Nat} {e : Int} (hi : i ∈ L) (hn : L.Nodup) (hb : ∀ j ∈ L, j < c.length) (he : 0 ≤ e) : (turnS c L (List.replicate c.length 0, e)).1.getD i 0 = fV c i e (bv i L (List.replicate c.length false)) := by
  rw [turn_at hc i L _ hi hn hb (by simpa using hb i hi) he]
  unfold fV
  rw [bef_csum c i L _ (by simp) hn hb (fun j hj => by simp [List.getD_eq_getElem?_getD, hb j hj]), csumV_none]
  simp

def ways : Nat → Nat
  | 0 => 1
  | n + 1 => ways n * (n + 1)
def bits (n s : Nat) : List Bool := (List.range n).map fun k => s / 2 ^ k % 2 == 1
def sizeOf (p : List Bool) : Nat := p.foldr (fun b n => if b then n + 1 else n) 0
/-- The two sums' trees. -/
def ht1 (n i : Nat) : Tree := (orders n).foldr (fun L t => t.add 1 (bv i L (List.replicate n false))) (Tree.zero n)
def ht2 (n i : Nat) : Tree := (List.range (2 ^ n)).foldr (fun s t => if s / 2 ^ i % 2 = 1 then t else t.add (ways (sizeOf (bits n s)) * ways (n - 1 - sizeOf (bits n s))) (bits n s)) (Tree.zero n)

def okOrd (n : Nat) (L : List Nat) : Bool := L.length == n && L.all (fun i => decide (i < n)) && (List.range n).all (fun i => L.contains i)
set_option maxRecDepth 1000000 in
theorem ht_0 : (List.range 0).map (ht1 0) = (List.range 0).map (ht2 0) := by kernel_rfl
set_option maxRecDepth 1000000 in
theorem ht_1 : (List.range 1).map (ht1 1) = (List.range 1).map (ht2 1) := by kernel_rfl
set_option maxRecDepth 1000000 in
theorem ht_2 : (List.range 2).map (ht1 2) = (List.range 2).map (ht2 2) := by kernel_rfl
set_option maxRecDepth 1000000 in
theorem ht_3 : (List.range 3).map (ht1 3) = (List.range 3).map (ht2 3) := by kernel_rfl
set_option maxRecDepth 1000000 in
theorem ht_4 : (List.range 4).map (ht1 4) = (List.range 4).map (ht2 4) := by kernel_rfl
set_option maxRecDepth 1000000 in
theorem ht_5 : (List.range 5).map (ht1 5) = (List.range 5).map (ht2 5) := by kernel_rfl
set_option maxRecDepth 1000000 in
theorem ht_6 : (List.range 6).map (ht1 6) = (List.range 6).map (ht2 6) := by kernel_rfl

end Go.Proofs.Ytaakefjblldccaa

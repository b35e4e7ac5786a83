/- Texts of this claim, laid together: FdV, FdKb, FdLs, FdWh. -/
import Derived.Test.YtdfkaijeppdhaaaGreatDoorZHq30
import Derived.StillTailTactics

/- Contracts of the laws' helpers: awards that can be those of a rule; at most. What awards by a rule are. -/
namespace Go.Proofs.YtdfkaijeppdhaaaGreatDoor.Fd
open Go.RowKit
/-- Each can be an award of a rule. -/
def Okv (c : List Int) (l : List Rat2) : Prop := l.length = c.length ∧ ∀ k, k < c.length → 1 ≤ (l.getD k (0, 0)).2 ∧ (l.getD k (0, 0)).2 ≤ 10000 ∧ 0 ≤ (l.getD k (0, 0)).1 ∧ (l.getD k (0, 0)).1 ≤ c.getD k 0 * (l.getD k (0, 0)).2

theorem getD_map0 {f : Int → Rat2} {c : List Int} {k : Nat} (hk : k < c.length) : (c.map f).getD k (0, 0) = f (c.getD k 0) := by
  simp [List.getD_eq_getElem?_getD, hk]

theorem shr_okv {c : List Int} {e : Int} {l : List Rat2} {f : Int → Int} {Q : Int} (h : Shr c e l f Q) : Okv c l := by
  refine ⟨by rw [h.aw, List.length_map], fun k hk => ?_⟩
  have hm := mem_getD hk
  have := red_in h.hQ (h.lo _ hm) (h.hi _ hm)
  have hq := h.hQ2
  rw [h.aw, getD_map0 hk]
  omega

theorem Cvl.shr2 {c : List Int} (h : Cvl c) {e r : Int} (he : 0 ≤ e) (hs : e ≤ Go.Proofs.YtdfkaijeppdhaaaGreatDoor.Fd.tot c) (hr : 1 ≤ r ∧ r ≤ 4) : Shr c e (shareL c e r) (frF c e r) (frQ c e r) := share_shr2 h.ne h.pos h.hi h.tot.2 he hs hr

end Go.Proofs.YtdfkaijeppdhaaaGreatDoor.Fd

/- Texts of this claim, laid together: Aw, Kb. -/

/- Plain mathematics: awards by a rule share the estate; who claims more. -/
namespace Go.Proofs.YtdfkaijeppdhaaaGreatDoor.Fd
open Go.RowKit
end Go.Proofs.YtdfkaijeppdhaaaGreatDoor.Fd
/- Small lemmas for the walks of laws. -/
namespace Go.Proofs.YtdfkaijeppdhaaaGreatDoor.Fd
open Go.RowKit
def KB (w W : World) : Prop := Below w.heap.size w W
theorem KB.refl (w : World) : KB w w := Below.refl _ _
theorem KB.alloc {w W : World} (h : KB w W) (o : Obj) : KB w (W.alloc o) := Below.alloc h h.size o
theorem KB.drew {w W : World} (h : KB w W) : KB w W.drew := Below.drew h
theorem KB.call {w W w2 : World} (h : KB w W) (hb : Below W.heap.size W w2) : KB w w2 := Below.trans h (hb.mono h.size)

end Go.Proofs.YtdfkaijeppdhaaaGreatDoor.Fd

/- Contracts: the claimant with the least award, of both. -/
namespace Go.Proofs.YtdfkaijeppdhaaaGreatDoor.Fd
open Go.RowKit
theorem okv_mod {c : List Int} {l : List Rat2} (hc : Cvl c) (h : Okv c l) : Mod l := fun x hx => by
  obtain ⟨k, hk, rfl⟩ := List.getElem_of_mem hx
  have hk' : k < c.length := by have := h.1; omega
  obtain ⟨h1, h2, h3, h4⟩ := h.2 k hk'
  have hb := hc.holds _ (mem_getD hk')
  rw [List.getD_eq_getElem?_getD, List.getElem?_eq_getElem hk] at h1 h2 h3 h4
  simp only [Option.getD_some] at h1 h2 h3 h4
  generalize l[k] = r at *
  have h5 : c.getD k 0 * r.2 ≤ 1000 * r.2 := Int.mul_le_mul_of_nonneg_right (by omega) (by omega)
  exact ⟨by omega, by omega, h1, by omega⟩

/-- What a valid share gives. -/
structure ShOk (c : List Int) (n r : Int) (l : List Rat2) : Prop where
  okv : Okv c l
  mod : Mod l
  pos : 0 < l.length
  hi : l.length ≤ 8
  val : shareV c n r = l
theorem shOk {c : List Int} {n r : Int} (h : shareE c n r = 0) : ShOk c n r (shareL c n r) := by
  have ha : askE c n = 0 ∧ 1 ≤ r ∧ r ≤ 4 := shareE_ok h
  obtain ⟨hc, h1, h2⟩ := askE_ok2 ha.1
  have ho := shr_okv (hc.shr2 h1 h2 ha.2)
  have h3 := hc.lo
  have h4 := hc.hi
  exact ⟨ho, okv_mod hc ho, by rw [ho.1]; omega, by rw [ho.1]; omega, by unfold shareV; rw [if_pos h]⟩

end Go.Proofs.YtdfkaijeppdhaaaGreatDoor.Fd

/- Plain mathematics: the order by what is left over, and who gets one more. -/
namespace Go.Proofs.YtdfkaijeppdhaaaGreatDoor.Fd
open Go.RowKit
/-- j comes before i. -/
def Bef (G : List Int) (j i : Nat) : Prop := G.getD i 0 < G.getD j 0 ∨ (G.getD i 0 = G.getD j 0 ∧ j < i)
structure Orde (G : List Int) (L : List Nat) : Prop where
  perm : L.Perm (List.range G.length)
  sorted : L.Pairwise (Bef G)

/-- One more for each of some. -/
def incL (q : List Int) (L : List Nat) : List Int := L.foldl (fun o i => o.set i (o.getD i 0 + 1)) q
theorem incL_snoc (q : List Int) (L : List Nat) (i : Nat) : incL q (L ++ [i]) = (incL q L).set i ((incL q L).getD i 0 + 1) := by simp [incL, List.foldl_append]
theorem incL_len : ∀ (L : List Nat) (q : List Int), (incL q L).length = q.length
  | [], q => rfl
  | i :: L, q => (incL_len L (q.set i (q.getD i 0 + 1))).trans List.length_set

theorem orde_len {G : List Int} {L : List Nat} (h : Orde G L) : L.length = G.length := by rw [h.perm.length_eq]; simp
theorem orde_lt {G : List Int} {L : List Nat} (h : Orde G L) {i : Nat} (hi : i ∈ L) : i < G.length := by
  have := h.perm.mem_iff.1 hi
  simpa using this
theorem sum_take_le {Q : Int} : ∀ (l : List Int) (k : Nat), (∀ x ∈ l, x ≤ Q) → 0 ≤ Q → (l.take k).sum ≤ k * Q
  | [], k, _, hQ => by simp; exact Int.mul_nonneg (by omega) hQ
  | x :: l, 0, _, _ => by simp
  | x :: l, k + 1, h, hQ => by
    have ih := sum_take_le l k (fun y hy => h y (by simp [hy])) hQ
    have hx := h x (by simp)
    rw [List.take_succ_cons, List.sum_cons]
    push_cast
    rw [Int.add_mul]
    omega
end Go.Proofs.YtdfkaijeppdhaaaGreatDoor.Fd

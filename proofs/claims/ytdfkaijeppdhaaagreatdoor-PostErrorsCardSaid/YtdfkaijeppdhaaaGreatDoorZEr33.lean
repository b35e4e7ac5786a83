/- Texts of this claim, laid together: Am. -/
import Derived.Test.YtdfkaijeppdhaaaGreatDoorZEr01
import Derived.Test.YtdfkaijeppdhaaaGreatDoorZEr32

/- Plain: the order by what is left over is one; who gets what of an estate. -/
namespace Go.Proofs.YtdfkaijeppdhaaaGreatDoor
open Go.RowKit Go.Shelf
def befB (G : List Int) (j i : Nat) : Bool := decide (G.getD i 0 < G.getD j 0) || (decide (G.getD i 0 = G.getD j 0) && decide (j < i))
theorem befB_iff {G : List Int} {j i : Nat} : befB G j i = true ↔ Fd.Bef G j i := by
  unfold befB Fd.Bef
  simp
theorem bef_asym {G : List Int} {j i : Nat} (h : Fd.Bef G j i) : ¬ Fd.Bef G i j := by
  unfold Fd.Bef at *
  omega
theorem bef_total {G : List Int} {j i : Nat} (h : ¬ Fd.Bef G j i) (hne : j ≠ i) : Fd.Bef G i j := by
  unfold Fd.Bef at *
  omega
theorem bef_trans {G : List Int} {i j k : Nat} (h : Fd.Bef G i j) (h' : Fd.Bef G j k) : Fd.Bef G i k := by
  unfold Fd.Bef at *
  omega
theorem orde_eq {G : List Int} : ∀ {l m : List Nat}, l.Pairwise (Fd.Bef G) → m.Pairwise (Fd.Bef G) → l.Perm m → l = m
  | [], m, _, _, hp => (List.nil_perm.1 hp).symm ▸ rfl
  | a :: l, [], _, _, hp => by simpa using hp.length_eq
  | a :: l, b :: m, hl, hm, hp => by
    have h1 := List.pairwise_cons.1 hl
    have h2 := List.pairwise_cons.1 hm
    have hab : a = b := by
      have ha : a ∈ b :: m := hp.mem_iff.1 (by simp)
      have hb : b ∈ a :: l := hp.mem_iff.2 (by simp)
      rcases List.mem_cons.1 ha with e | e
      · exact e
      · rcases List.mem_cons.1 hb with e' | e'
        · exact e'.symm
        · exact absurd (h1.1 _ e') (bef_asym (h2.1 _ e))
    subst hab
    rw [orde_eq h1.2 h2.2 (List.Perm.cons_inv hp)]
/-- Put into an order. -/
def insN (G : List Int) (i : Nat) : List Nat → List Nat
  | [] => [i]
  | x :: r => if befB G i x then i :: x :: r else x :: insN G i r
theorem insN_perm (G : List Int) (i : Nat) : ∀ l, (insN G i l).Perm (i :: l)
  | [] => .refl _
  | x :: r => by
    unfold insN
    split
    · exact .refl _
    · exact ((insN_perm G i r).cons x).trans (.swap i x r)
theorem insN_asc {G : List Int} {i : Nat} : ∀ {l : List Nat}, l.Pairwise (Fd.Bef G) → i ∉ l → (insN G i l).Pairwise (Fd.Bef G)
  | [], _, _ => by simp [insN]
  | x :: r, h, hi => by
    have h1 := List.pairwise_cons.1 h
    unfold insN
    split
    · rename_i hb
      have hb := befB_iff.1 hb
      exact List.pairwise_cons.2 ⟨fun y hy => (List.mem_cons.1 hy).elim (fun e => e ▸ hb) (fun e => bef_trans hb (h1.1 y e)), h⟩
    · rename_i hb
      have hb : Fd.Bef G x i := bef_total (fun h => hb (befB_iff.2 h)) (fun e => hi (e ▸ List.mem_cons_self))
      exact List.pairwise_cons.2 ⟨fun y hy => (List.mem_cons.1 ((insN_perm G i r).mem_iff.1 hy)).elim (fun e => e ▸ hb) (h1.1 y), insN_asc h1.2 fun h => hi (List.mem_cons_of_mem _ h)⟩
def srtN (G : List Int) : List Nat → List Nat
  | [] => []
  | i :: r => insN G i (srtN G r)
theorem srtN_perm (G : List Int) : ∀ l, (srtN G l).Perm l
  | [] => .refl _
  | i :: r => (insN_perm G i _).trans ((srtN_perm G r).cons i)
theorem srtN_asc {G : List Int} : ∀ {l : List Nat}, l.Nodup → (srtN G l).Pairwise (Fd.Bef G)
  | [], _ => List.Pairwise.nil
  | i :: r, h => insN_asc (srtN_asc (List.nodup_cons.1 h).2) fun hm => (List.nodup_cons.1 h).1 ((srtN_perm G r).mem_iff.1 hm)
/-- The order. -/
def ordN (G : List Int) : List Nat := srtN G (List.range G.length)
theorem ordN_orde (G : List Int) : Fd.Orde G (ordN G) := ⟨srtN_perm G _, srtN_asc List.nodup_range⟩
theorem ordN_is {G : List Int} {L : List Nat} (h : Fd.Orde G L) : L = ordN G := orde_eq h.sorted (ordN_orde G).sorted (h.perm.trans (ordN_orde G).perm.symm)
/-- What Whole gives, and its error. -/
def wholeL (c : List Int) (n : Int) : List Int := if Fd.shareE c n 4 = 0 then Fd.incL (Fd.qsL (Fd.shareL c n 4)) ((ordN (Fd.gL c n 4)).take (Fd.whN n (Fd.shareL c n 4))) else []
theorem whole_of {c : List Int} {n : Int} {w : World} {e : Ending} {w' : World} (h : Fd.GivesH c n 4 w e w') : ∃ ov, e = .returned (.tuple #[ov, .int .i64 (Fd.shareE c n 4)]) ∧ Fd.IntsAt w' ov (wholeL c n) ∧ Below w.heap.size w w' := by
  obtain ⟨ov, res, h1, h2, h3, h4, h5⟩ := h
  refine ⟨ov, h1, ?_, h3⟩
  have : res = wholeL c n := by
    unfold wholeL
    split
    · rename_i h0
      obtain ⟨L, hL, hr⟩ := h5 h0
      rw [hr, ordN_is hL]
    · rename_i h0; exact h4 h0
  rw [← this]; exact h2
end Go.Proofs.YtdfkaijeppdhaaaGreatDoor

/- The contracts at valid tides and right arguments, as the laws meet them; and the walk's invariant. -/
import Derived.Test.YtflhpnhehaokpaaLaw
namespace Go.Proofs.Ytflhpnhehaokpaa
open Go.RowKit

/-- What every law carries along: all that lay, lies, and the tide reads as it did. -/
structure Inv (w : World) (v : Value) (t : List (List Int)) (wc : World) : Prop where
  b : Below w.heap.size w wc
  r : RowsAt wc v t

theorem Inv.start {w : World} {v : Value} {t : List (List Int)} (h : RowsAt w v t) : Inv w v t w := ⟨Below.refl _ _, h⟩
theorem Inv.step {w wc wn : World} {v : Value} {t : List (List Int)} (h : Inv w v t wc) (hb : Below wc.heap.size wc wn) : Inv w v t wn := ⟨below_trans h.b hb, h.r.below hb⟩

theorem hourB_of {n : Int} (h1 : -1000000 ≤ n) (h2 : n ≤ 1000000) : hourB n = true := (hourB_iff n).2 ⟨h1, h2⟩

theorem tSpeed_v (v : Value) (t : List (List Int)) (h : Int) (w : World) (hv : RowsAt w v t) (hy : vld t = true) (h1 : -1000000 ≤ h) (h2 : h ≤ 1000000) :
    Calls Try.prog 17 #[v, .int .i64 h] w fun e w' => e = .returned (.tuple #[.int .i64 (spd t h), .int .i64 0]) ∧ Below w.heap.size w w' := by
  have := tSpeed_any v t h w hv
  rwa [hourB_of h1 h2, qi_yes hy, qe_yes hy] at this

theorem tDrift_v (v : Value) (t : List (List Int)) (h n : Int) (w : World) (hv : RowsAt w v t) (hy : vld t = true) (h1 : -1000000 ≤ h) (h2 : h ≤ 1000000) (h3 : 0 ≤ n) (h4 : n ≤ 1000000) :
    Calls Try.prog 19 #[v, .int .i64 h, .int .i64 n] w fun e w' => e = .returned (.tuple #[.int .i64 (acc (spd t) h n.toNat), .int .i64 0]) ∧ Below w.heap.size w w' := by
  have := tDrift_any v t h n w hv
  rwa [hourB_of h1 h2, (spanB_iff n).2 ⟨h3, h4⟩, Bool.and_self, qi_yes hy, qe_yes hy] at this

theorem tRound_v (v : Value) (t : List (List Int)) (w : World) (hv : RowsAt w v t) (hy : vld t = true) :
    Calls Try.prog 24 #[v] w fun e w' => e = .returned (.tuple #[.int .i64 (rnd t : Nat), .int .i64 0]) ∧ Below w.heap.size w w' := by
  have := tRound_any v t w hv
  rwa [qi_yes hy, qe_yes hy] at this

theorem tNet_v (v : Value) (t : List (List Int)) (w : World) (hv : RowsAt w v t) (hy : vld t = true) :
    Calls Try.prog 25 #[v] w fun e w' => e = .returned (.tuple #[.int .i64 (acc (spd t) 0 (rnd t)), .int .i64 0]) ∧ Below w.heap.size w w' := by
  have := tNet_any v t w hv
  rwa [qi_yes hy, qe_yes hy] at this

theorem tBeat_v (v : Value) (t : List (List Int)) (w : World) (hv : RowsAt w v t) (hy : vld t = true) :
    Calls Try.prog 26 #[v] w fun e w' => e = .returned (.tuple #[.int .i64 (bt (spd t) (rnd t) : Nat), .int .i64 0]) ∧ Below w.heap.size w w' := by
  have := tBeat_any v t w hv
  rwa [qi_yes hy, qe_yes hy] at this

theorem u16_bd {n : Int} (h : (Lit.int .u16 n).wf = true) : 0 ≤ n ∧ n ≤ 65535 := by
  have h1 : IntKind.u16.min = 0 := rfl
  have h2 : IntKind.u16.max = 65535 := rfl
  simp only [Lit.wf, Bool.and_eq_true, decide_eq_true_eq] at h
  omega

end Go.Proofs.Ytflhpnhehaokpaa

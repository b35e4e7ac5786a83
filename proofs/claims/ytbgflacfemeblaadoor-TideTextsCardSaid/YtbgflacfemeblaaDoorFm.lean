/- Contracts: Format of the program and of the reference. -/
import Derived.Test.YtbgflacfemeblaaDoorTf
namespace Go.Proofs.YtbgflacfemeblaaDoor
open Go.RowKit Go.Shelf

def fmE (t : List (List Int)) : Int := if vld t then 0 else 10
def fmB (t : List (List Int)) : ByteArray := if vld t then bsB (texL t) else ⟨#[]⟩


set_option maxHeartbeats 1000000 in
theorem tFormat_any (v : Value) (t : List (List Int)) (w : World) (hv : RowsAt w v t) (hV : Vars w) :
    Calls Tryd.prog 6 #[v] w fun e w' => e = .returned (.tuple #[.string (fmB t), .int .i64 (fmE t)]) ∧ Below w.heap.size w w' := by
  cases h : vld t with
  | true =>
    have H := Lib.hid h
    have A := Lib.hid (valid_any v t w hv)
    have T := Lib.hid (text_any v t w hv ((vld_iff t).1 h) hV)
    have E1 := Lib.hid (show fmE t = 0 by unfold fmE; rw [h]; rfl)
    have E2 := Lib.hid (show fmB t = bsB (texL t) by unfold fmB; rw [h]; rfl)
    obtain ⟨va, vc, rfl, _⟩ := hv
    clear h hV
    go_enter Tryd.func6, Tryd.ntmps6
    go_wp2_with fail
    refine (A.out).mono ?_
    rintro e w' ⟨rfl, rfl⟩
    rw [show vld t = _ from H.out]
    go_wp2_with fail
    refine T.out.mono ?_
    rintro e w1 ⟨rfl, hb⟩
    go_wp2
    go_ret2
    exact ⟨by rw [E1.out, E2.out]; rfl, hb⟩
  | false =>
    have H := Lib.hid h
    have A := Lib.hid (valid_any v t w hv)
    have E1 := Lib.hid (show fmE t = 10 by unfold fmE; rw [h]; rfl)
    have E2 := Lib.hid (show fmB t = ⟨#[]⟩ by unfold fmB; rw [h]; rfl)
    obtain ⟨va, vc, rfl, _⟩ := hv
    clear h hV
    go_enter Tryd.func6, Tryd.ntmps6
    go_wp2_with fail
    refine (A.out).mono ?_
    rintro e w' ⟨rfl, rfl⟩
    rw [show vld t = _ from H.out]
    go_wp2
    go_ret2
    exact ⟨by rw [E1.out, E2.out]; rfl, Below.refl _ _⟩
set_option maxHeartbeats 1000000 in
theorem rFormat_any (v : Value) (t : List (List Int)) (w : World) (hv : RowsAt w v t) :
    Calls Tryd.prog 7 #[v] w fun e w' => e = .returned (.tuple #[.string (fmB t), .int .i64 (fmE t)]) ∧ Below w.heap.size w w' := by
  cases h : vld t with
  | true =>
    have H := Lib.hid h
    have A := Lib.hid (rValid_any v t w hv)
    have T := Lib.hid (rtext_any v t w hv ((vld_iff t).1 h))
    have E1 := Lib.hid (show fmE t = 0 by unfold fmE; rw [h]; rfl)
    have E2 := Lib.hid (show fmB t = bsB (texL t) by unfold fmB; rw [h]; rfl)
    obtain ⟨va, vc, rfl, _⟩ := hv
    clear h
    go_enter Tryd.func7, Tryd.ntmps7
    go_wp2_with fail
    refine (A.out).mono ?_
    rintro e w' ⟨rfl, rfl⟩
    rw [show vld t = _ from H.out]
    go_wp2_with fail
    refine T.out.mono ?_
    rintro e w1 ⟨rfl, hb⟩
    go_wp2
    go_ret2
    exact ⟨by rw [E1.out, E2.out]; rfl, hb⟩
  | false =>
    have H := Lib.hid h
    have A := Lib.hid (rValid_any v t w hv)
    have E1 := Lib.hid (show fmE t = 10 by unfold fmE; rw [h]; rfl)
    have E2 := Lib.hid (show fmB t = ⟨#[]⟩ by unfold fmB; rw [h]; rfl)
    obtain ⟨va, vc, rfl, _⟩ := hv
    clear h
    go_enter Tryd.func7, Tryd.ntmps7
    go_wp2_with fail
    refine (A.out).mono ?_
    rintro e w' ⟨rfl, rfl⟩
    rw [show vld t = _ from H.out]
    go_wp2
    go_ret2
    exact ⟨by rw [E1.out, E2.out]; rfl, Below.refl _ _⟩
end Go.Proofs.YtbgflacfemeblaaDoor

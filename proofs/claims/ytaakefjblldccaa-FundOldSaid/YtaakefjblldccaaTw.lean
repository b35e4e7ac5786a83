/- Contract: what claimants get who come in an order (the walk of turn). -/
import Derived.Test.YtaakefjblldccaaTu
import Derived.Test.YtaakefjblldccaaWw
namespace Go.Proofs.Ytaakefjblldccaa
open Go.RowKit

def zst (c : List Int) (e : Int) : List Int × Int := (List.replicate c.length 0, e)
def GivesT (c : List Int) (L : List Nat) (e0 : Int) (w : World) (e : Ending) (w' : World) : Prop :=
  ∃ g, e = .returned (.slice (some ⟨g, 0, none⟩) c.length c.length) ∧ OwnI w.heap.size w' g c.length (turnS c L (zst c e0)).1 ∧ Below w.heap.size w w'

set_option maxRecDepth 100000 in
set_option maxHeartbeats 2000000 in
theorem turn_any (v x : Value) (c : List Int) (L : List Nat) (e0 : Int) (w : World) (hv : IntsAt w v c) (hx : IntsAt w x (asI L)) (hc : Cvl c) (hl : ∀ i ∈ L, i < c.length) (hL : L.length ≤ 1000) (he : 0 ≤ e0 ∧ e0 ≤ 8000) :
    Calls Try.prog 71 #[v, x, .int .i64 e0] w (GivesT c L e0 w) := by
  have HH := Lib.hid hc
  have hlo := hc.lo
  have hhi := hc.hi
  have HLL := Lib.hid hl
  obtain ⟨b, off, cap, rfl, hcc⟩ := ints_cell hv (by omega)
  have HCC := Lib.hid hcc
  obtain ⟨xa, xc, rfl, hxl, hxx⟩ := hx
  have HXX := Lib.hid hxx
  have hal : (asI L).length = L.length := asI_len L
  have HAL := Lib.hid hal
  obtain ⟨j0, hj0, hy0, hy1, hy2⟩ := info_parts Try.infoInt
  have HE := Lib.hid he
  rw [hal] at hxl ⊢
  clear hc hl hcc hv hxx hal
  go_enter Try.func71, Try.ntmps71
  go_upto_region 2 with (at_make; refine wpList_make_full _ rfl _ _ 29 rfl w.heap.size 3 j0 (.int .i64 0) 1 Try.underlying29 hj0 hy0 hy1 .i64 .i64 _ _ c.length rfl rfl rfl rfl (by rw [hy2]; omega) (by unfold maxLen; omega) (Nat.le_refl _) ?_; intro w1 hown1 hgrow1)
  have hb1 : Below w.heap.size w w1 := (Below.refl _ _).grown hgrow1 (Nat.le_refl _) (fun k e => by cases e)
  rw [zeros_vals] at hown1
  have HB1 := Lib.hid hb1
  have HO1 := Lib.hid (show OwnI w.heap.size w1 w.heap.size c.length (List.replicate c.length 0) from ⟨by simpa using hown1, Nat.le_refl _⟩)
  have HC1 := Lib.hid (fun j hj => keep_cell hb1 (HCC.out j hj))
  clear hown1 hgrow1 hb1
  have ZL := Lib.hid (show (zst c e0).1.length = c.length by simp [zst])
  go_wp2
  go_loopw [2, 15] (fun sv iv wr => ∃ k : Nat, k ≤ L.length ∧ iv = .int .i64 k ∧ sv = .int .i64 (turnS c (L.take k) (zst c e0)).2 ∧ OwnI w.heap.size wr w.heap.size c.length (turnS c (L.take k) (zst c e0)).1 ∧ Below w.heap.size w wr) (fun _ iv _ => L.length - (intOf iv).toNat)
  case atStart => exact ⟨0, Nat.zero_le _, rfl, rfl, HO1.out, HB1.out⟩
  case round =>
    clear HO1 HB1 HC1
    obtain ⟨k, hk, rfl, rfl, hO, hbel⟩ := hrel
    by_cases hlt : k < L.length
    · have hlt' : (k : Int) < (L.length : Int) := by omega
      obtain ⟨bx, ox, rfl, hxc⟩ := HXX.out (by rw [HAL.out]; omega)
      have x1 := keep_cell hbel (hxc k (by rw [HAL.out]; exact hlt))
      rw [asI_at hlt] at x1
      have hin := HLL.out L[k] (List.getElem_mem hlt)
      have hin' : (L[k] : Int) < (c.length : Int) := by omega
      have c1 := keep_cell hbel (HCC.out L[k] hin)
      have hcb := HH.out.holds _ (mem_getD hin)
      have hbd := turnS_bd (c := c) HH.out.pos (L.take k) (zst c e0) (fun i hi => HLL.out i (List.mem_of_mem_take hi)) (by simp only [zst]; exact HE.out.1)
      have hz2 : (zst c e0).2 ≤ 8000 := HE.out.2
      have hln : (turnS c (L.take k) (zst c e0)).1.length = c.length := by rw [turnS_len, ZL.out]
      have TS := Lib.hid (show turnS c (L.take (k + 1)) (zst c e0) = ((turnS c (L.take k) (zst c e0)).1.set L[k] (min (c.getD L[k] 0) (turnS c (L.take k) (zst c e0)).2), (turnS c (L.take k) (zst c e0)).2 - min (c.getD L[k] 0) (turnS c (L.take k) (zst c e0)).2) by
        rw [List.take_succ_eq_append_getElem hlt, turnS_snoc])
      have o1 := hO.cell L[k] (by rw [hln]; exact hin)
      have f1 := hO.frozen L[k]
      have HO := Lib.hid hO
      have HBE := Lib.hid hbel
      have HS := Lib.hid (hO.set L[k] (min (c.getD L[k] 0) (turnS c (L.take k) (zst c e0)).2))
      have HBS := Lib.hid (hbel.setCell (p := ⟨w.heap.size, L[k], none⟩) (Nat.le_refl _) (.int .i64 (min (c.getD L[k] 0) (turnS c (L.take k) (zst c e0)).2)))
      have HLN := Lib.hid hln
      clear hO hbel hxc hln
      generalize turnS c (L.take k) (zst c e0) = st at *
      obtain ⟨out, left⟩ := st
      simp only at hbd o1
      generalize out.getD L[k] 0 = oo at *
      generalize c.getD L[k] 0 = cl at *
      have hxk : L[k] < c.length := hin
      generalize L[k] = i at *
      obtain ⟨mm, hmm⟩ : ∃ mm, mm = min cl left := ⟨_, rfl⟩
      have HMM := Lib.hid hmm
      have hmb : 0 ≤ mm ∧ mm ≤ left := by omega
      simp only at HS HBS TS HLN
      rw [← hmm] at HS HBS TS
      clear hmm
      go_upto_region 6 with fail
      rw [← HMM.out]
      have m1 := HS.out.cell i (by rw [List.length_set, HLN.out]; exact hxk)
      rw [show (out.set i mm).getD i 0 = mm by simp [List.getD_eq_getElem?_getD, show i < out.length by rw [HLN.out]; exact hxk]] at m1
      generalize wr.setCell ⟨w.heap.size, i, none⟩ (.int .i64 mm) = w5 at *
      clear o1 f1 c1 x1
      go_wp2
      go_roundw
      case rel => exact ⟨k + 1, by omega, by go_num, by rw [TS.out], by rw [TS.out]; exact HS.out, HBS.out⟩
      case measure => simp [intOf]; omega
    · have e : k = L.length := by omega
      subst e
      rw [List.take_length] at hO
      have HO := Lib.hid hO
      have HBE := Lib.hid hbel
      clear hO hbel
      go_wp2
      go_ret
      exact ⟨w.heap.size, rfl, HO.out, HBE.out⟩

end Go.Proofs.Ytaakefjblldccaa

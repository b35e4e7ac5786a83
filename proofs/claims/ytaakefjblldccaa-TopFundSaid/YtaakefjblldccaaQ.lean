/- Contracts: the reference's claims less awards. -/
import Derived.Test.YtaakefjblldccaaP3
import Derived.Deep.RegionHeld3
import Derived.Deep.AppendLies
namespace Go.Proofs.Ytaakefjblldccaa
open Go.RowKit

theorem OwnR.drew {w : World} {B : Nat} {v : Value} {l : List Rat2} (h : OwnR w B v l) : OwnR w.drew B v l := own_below h ((Below.refl _ w).drew)

set_option maxRecDepth 100000 in
set_option maxHeartbeats 3200000 in
theorem rless_any (v x : Value) (c : List Int) (l : List Rat2) (w : World) (hv : IntsAt w v c) (hx : RatsAt w x l) (hc : Cvl c) (hl : l.length = c.length) (hm : Mod l) :
    Calls Try.prog 105 #[v, x] w (GivesR (lessL c l) w) := by
  obtain ⟨i0, hi0, hz0, hz1, hz2⟩ := info_parts Try.infoRatio
  have hhi := hc.hi
  have hlo := hc.lo
  have lc : c.length ≤ l.length := by omega
  obtain ⟨b, off, cap, rfl, hcc⟩ := ints_cell hv (by omega)
  obtain ⟨b2, off2, cap2, hcap, rfl, hcl⟩ := rats_cell hx (by omega)
  have HC := Lib.hid hcc
  have HR := Lib.hid hcl
  have HM := Lib.hid hm
  have HH := Lib.hid hc
  have HL := Lib.hid (lessL_length c l hl)
  clear hm hv hx hc hl hcc hcl
  go_enter Try.func105, Try.ntmps105
  go_wp2
  go_loopw [5, 6] (fun o i wr => ∃ k : Nat, k ≤ c.length ∧ i = .int .i64 k ∧ OwnR wr w.heap.size o ((lessL c l).take k) ∧ Below w.heap.size w wr) (fun _ i _ => c.length - (intOf i).toNat)
  case atStart => exact ⟨0, Nat.zero_le _, rfl, OwnR.nil _ _, Below.refl _ _⟩
  case round =>
    obtain ⟨k, hk, rfl, hown, hbel⟩ := hrel
    have hTk : ((lessL c l).take k).length ≤ 8 := by have := HL.out; simp; omega
    by_cases hlt : k < c.length
    · have hkl : k < l.length := by omega
      obtain ⟨x0, d0⟩ := HR.out k hkl
      have c0 := HC.out k hlt
      have x1 := keep_cell hbel x0
      have d1 := keep_cell hbel d0
      have c1 := keep_cell hbel c0
      have hx := HM.out _ (getD_mem2 hkl)
      have hcb := HH.out.holds _ (mem_getD hlt)
      have T := Lib.hid (less_snoc hlt hkl)
      have hi0' : (0 : Int) ≤ (k : Int) := Int.natCast_nonneg _
      have hi1 : (k : Int) < (c.length : Int) := by omega
      have hi2 : (k : Int) < (l.length : Int) := by omega
      generalize l.getD k (0, 0) = xd at *
      obtain ⟨n, d⟩ := xd
      simp only at x1 d1 hx T x0 d0
      generalize c.getD k 0 = cl at *
      have m1 : 0 ≤ cl * d ∧ cl * d ≤ 1000 * 1000000 := ⟨Int.mul_nonneg (by omega) (by omega), Int.mul_le_mul (by omega) (by omega) (by omega) (by omega)⟩
      have RQ := Lib.hid (fun W => rRatio_any (cl * d - n) d W (by omega) (by omega) (by omega) (by omega))
      have hbl : b < w.heap.size := World.block_lt_of_cell? _ _ c0
      have hbl2 : b2 < w.heap.size := World.block_lt_of_cell? _ _ x0
      have C0 := Lib.hid c0
      have X0 := Lib.hid x0
      have D0 := Lib.hid d0
      have HO := Lib.hid hown
      have HB := Lib.hid hbel
      have hsz := hbel.size
      have e1 : IntKind.i64.wrap (cl * d) = cl * d := IntWalk.i64_in _ (by omega)
      have e2 : IntKind.i64.wrap (cl * d - n) = cl * d - n := IntWalk.i64_in _ (by omega)
      clear c0 x0 d0 hown hbel
      go_wp2_with fail
      go_region_held3 (fun w' => w'.cell? ⟨b, off + k, none⟩ = some (.int .i64 cl) ∧ w'.cell? ⟨b2, off2 + k * 2, none⟩ = some (.int .i64 n) ∧ w'.cell? ⟨b2, off2 + k * 2 + 1, none⟩ = some (.int .i64 d))
        (first
          | (exact ⟨keep_cell hB3 C0.out, keep_cell hB3 X0.out, keep_cell hB3 D0.out⟩)
          | (exact ⟨keep_cell (hbW.alloc hbW.size _) C0.out, keep_cell (hbW.alloc hbW.size _) X0.out, keep_cell (hbW.alloc hbW.size _) D0.out⟩)
          | (exact ⟨keep_cell hbW C0.out, keep_cell hbW X0.out, keep_cell hbW D0.out⟩)
          | go_keep)
        (first
          | (go_at_call 56; refine (RQ.out _).mono ?_; rintro e w2 ⟨rfl, hb2⟩; have hbW := below_trans HB.out.drew hb2; have hownW := HO.out.drew.below hb2; unfold ratV)
          | (refine step_append_lies _ (by rfl) _ _ _ (by rfl) w.heap.size 23 i0 _ 2 16 Try.underlying30 hi0 hz0 hz1 hz2 rfl (by omega) _ _ _ (by rfl) (hownW.row.alloc _)
              ⟨w2.heap.size, 0, none⟩ 1 1 [.int .i64 (rn (cl * d - n) d), .int .i64 (rd (cl * d - n) d)] (by rfl) (by rfl) (World.news_of_block (cs := #[.int .i64 (rn (cl * d - n) d), .int .i64 (rd (cl * d - n) d)]) (t := 23) (fr := (0, 0)) (heap_alloc_new w2 _)) (by simp [Value.oneCell'])
              (by omega) (by unfold maxLen; omega) (by omega) (by have := hbW.size; simp; omega) (w2.heap.size + 1) (by simp) ?_; intro gg cp w3 hown' hgrow hat hlt3; have hB3 := below_append hbW hbW.size hownW.row hgrow))
      have O3 : Hid (OwnR w3 w.heap.size _ ((lessL c l).take (k + 1))) := Lib.hid (by rw [T.out]; exact OwnR.snoc (by first | rfl | simp) hown')
      have B3 := Lib.hid hB3
      clear hown' hgrow hownW hbW hB3 e1 e2 hb2 x1 d1 c1
      go_wp2
      go_roundw
      case rel => exact ⟨k + 1, by omega, by go_num, (by have := O3.out; rwa [List.length_take] at this), B3.out⟩
      case measure => simp [intOf]; omega
    · have e : k = c.length := by omega
      subst e
      have O : Hid (OwnR wr w.heap.size u5 (lessL c l)) := Lib.hid (by rwa [List.take_of_length_le (by rw [HL.out]; exact Nat.le_refl _)] at hown)
      have B := Lib.hid hbel
      clear hown hbel
      go_wp2
      go_ret
      exact ⟨_, rfl, O.out, B.out⟩

end Go.Proofs.Ytaakefjblldccaa

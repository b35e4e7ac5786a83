/- The walk of the law FundFair. -/
import Derived.Test.YtaakefjblldccaaAw
import Derived.Deep.RegionHeld3
import Derived.Deep.DeepCutAuto
namespace Go.Proofs.Ytaakefjblldccaa
open Go.RowKit

def KB (w W : World) : Prop := Below w.heap.size w W
theorem KB.refl (w : World) : KB w w := Below.refl _ _
theorem KB.alloc {w W : World} (h : KB w W) (o : Obj) : KB w (W.alloc o) := Below.alloc h h.size o
theorem KB.drew {w W : World} (h : KB w W) : KB w W.drew := Below.drew h
theorem KB.call {w W w2 : World} (h : KB w W) (hb : Below W.heap.size W w2) : KB w w2 := Below.trans h (hb.mono h.size)

theorem u16_bounds {x : Int} (h : (Lit.int .u16 x).wf = true) : 0 ≤ x ∧ x ≤ 65535 := by
  simp only [Lit.wf] at h
  have h1 : IntKind.u16.min = 0 := rfl
  have h2 : IntKind.u16.max = 65535 := rfl
  simp [h1, h2] at h
  omega

theorem shareV_bad {c : List Int} {n r : Int} (h : shareE c n r ≠ 0) : shareV c n r = [] := by unfold shareV; rw [if_neg h]
theorem shareE_zero {c : List Int} {n r : Int} (h : shareE c n r = 0) : askE c n = 0 ∧ 1 ≤ r ∧ r ≤ 4 := by
  unfold shareE at h
  split at h
  · split at h
    · rename_i h1 h2
      exact ⟨h1, (betw_iff _ _ _).1 h2⟩
    · omega
  · rename_i h1
    exact absurd h h1

theorem askE_of {c : List Int} {n : Int} (hc : Cvl c) (h0 : 0 ≤ n) (h1 : n ≤ tot c) : askE c n = 0 := by
  unfold askE
  rw [(cvl_iff c).2 hc, if_pos rfl, (betw_iff _ _ _).2 ⟨h0, h1⟩, if_pos rfl]

set_option maxRecDepth 100000 in
set_option maxHeartbeats 8000000 in
theorem FundFair_walk (v : Value) (c : List Int) (n r m : Int) (w : World) (hv : IntsAt w v c) (hm : (Lit.int .u16 m).wf = true) :
    Calls Try.prog 11 #[v, .agg #[.int .i64 n, .int .i64 r], .int .u16 m] w fun e w' => e = .returned (.bool true) ∧ Below w.heap.size w w' := by
  have HV := Lib.hid hv
  have hmb := u16_bounds hm
  have hB1 := (Below.refl w.heap.size w).alloc (Nat.le_refl _) (.cells #[.int .i64 n, .int .i64 r] 54)
  have HB1 := Lib.hid hB1
  have hc0 : (w.alloc (.cells #[.int .i64 n, .int .i64 r] 54)).cell? ⟨w.heap.size, 0, none⟩ = some (.int .i64 n) := by simp
  have hc1 : (w.alloc (.cells #[.int .i64 n, .int .i64 r] 54)).cell? ⟨w.heap.size, 1, none⟩ = some (.int .i64 r) := by simp
  have LG := Lib.hid (fun W (hb : Below w.heap.size w W) => long_any v c W (HV.out.below hb))
  have SN := Lib.hid sane_any
  clear hv hm hB1
  by_cases h40 : 40 < c.length
  · have L : Hid (decide (40 < c.length) = true) := Lib.hid (decide_eq_true h40)
    clear h40
    go_enter Try.func11, Try.ntmps11
    go_wp2
    go_region
    all_goals go_wp2_with fail
    have HB2 := Lib.hid (HB1.out.drew)
    clear hc0 hc1 HB1
    generalize (w.alloc (.cells #[.int .i64 n, .int .i64 r] 54)).drew = W1 at *
    refine (LG.out _ HB2.out).mono ?_
    rintro e w' ⟨rfl, rfl⟩
    rw [L.out]
    go_wp2_with fail
    refine (SN.out _).mono ?_
    rintro e w2 ⟨rfl, hb2⟩
    go_wp2
    go_ret
    exact ⟨rfl, HB2.out.trans (hb2.mono HB2.out.size)⟩
  · have L : Hid (decide (40 < c.length) = false) := Lib.hid (decide_eq_false h40)
    clear h40
    by_cases h0 : shareE c n r = 0
    · obtain ⟨ha, hr0, hr1⟩ := shareE_zero h0
      obtain ⟨hc, h1, h2⟩ := askE_ok2 ha
      have A := Lib.hid ha
      have HH := Lib.hid hc
      have hlo := hc.lo
      have hhi := hc.hi
      have ht := hc.tot
      obtain ⟨b, off, cap, rfl, hcc⟩ := ints_cell HV.out (by omega)
      have HCC := Lib.hid hcc
      have M : Hid (missV c n = tot c - n) := Lib.hid (by unfold missV; rw [if_pos ha])
      have S1 := Lib.hid (fun W q => Share_good (.slice (some ⟨b, off, none⟩) c.length cap) c n r W q A.out (by omega))
      have OA := Lib.hid (shr_okv (hc.shr2 h1 h2 (r := r) (by omega)))
      have SV := Lib.hid (share_sV ha ⟨hr0, hr1⟩)
      have FR := Lib.hid (fun i k hi hk => shr_fairs (hc.shr2 h1 h2 (r := r) (by omega)) (i := i) (k := k) hi hk)
      have q1 := Int.emod_nonneg m (show tot c - n + 1 ≠ 0 by omega)
      have q2 := Int.emod_lt_of_pos m (show 0 < tot c - n + 1 by omega)
      have ha2 : askE c (n + m % (tot c - n + 1)) = 0 := askE_of hc (by omega) (by omega)
      have S2 := Lib.hid (fun W q => Share_good (.slice (some ⟨b, off, none⟩) c.length cap) c (n + m % (tot c - n + 1)) r W q ha2 (by omega))
      have OB := Lib.hid (shr_okv (hc.shr2 (e := n + m % (tot c - n + 1)) (by omega) (by omega) (r := r) (by omega)))
      have MO := Lib.hid (fun k hk => share_more (k := k) hc h1 (show n ≤ n + m % (tot c - n + 1) by omega) (by omega) ⟨hr0, hr1⟩ hk)
      have ht0 : 0 ≤ tot c - n ∧ tot c - n ≤ 8000 := by omega
      have hn8 : n ≤ 8000 := by omega
      generalize shareL c n r = la at *
      generalize shareL c (n + m % (tot c - n + 1)) r = lb at *
      generalize tot c - n = mi at *
      clear hcc hc ha h0 ha2 ht
      go_enter Try.func11, Try.ntmps11
      go_wp2
      go_region
      all_goals go_wp2_with fail
      have HB2 := Lib.hid (HB1.out.drew)
      clear hc0 hc1 HB1
      generalize (w.alloc (.cells #[.int .i64 n, .int .i64 r] 54)).drew = W1 at *
      refine (LG.out _ HB2.out).mono ?_
      rintro e w' ⟨rfl, rfl⟩
      rw [L.out]
      go_wp2_with fail
      refine (S1.out _ (HV.out.below HB2.out)).mono ?_
      rintro e w1 ⟨v1, rfl, HA, hb1⟩
      have HA1 := Lib.hid HA
      have HB3 := Lib.hid (HB2.out.trans (hb1.mono HB2.out.size))
      clear HA hb1
      go_wp2_with fail
      refine (tShares_any _ _ _ _ _ _ (HV.out.below HB3.out) HA1.out).mono ?_
      rintro e w2 ⟨rfl, hb2⟩
      rw [SV.out.1, SV.out.2]
      have HA2 := Lib.hid (HA1.out.below hb2)
      have HB4 := Lib.hid (HB3.out.trans (hb2.mono HB3.out.size))
      clear hb2
      go_wp2_with fail
      refine (valid_ok _ _ _ _ _ (HV.out.below HB4.out) HA2.out HH.out OA.out).mono ?_
      rintro e w3 ⟨rfl, hb3⟩
      have HA3 := Lib.hid (HA2.out.below hb3)
      have HB5 := Lib.hid (HB4.out.trans (hb3.mono HB4.out.size))
      clear hb3
      have lla : c.length ≤ la.length := by have := OA.out.1; omega
      obtain ⟨ba, oa, ca, _, rfl, hla⟩ := rats_cell HA3.out (by omega)
      have RA := Lib.hid hla
      clear hla
      go_wp2
      go_loopw [13] (fun i wr => ∃ k : Nat, k ≤ c.length ∧ i = .int .i64 k ∧ Below w3.heap.size w3 wr) (fun i _ => c.length - (intOf i).toNat)
      case atStart => exact ⟨0, Nat.zero_le _, rfl, Below.refl _ _⟩
      case round =>
        obtain ⟨k, hk, rfl, hbel⟩ := hrel
        obtain ⟨wo, rfl⟩ : ∃ wo : World, wo = wr := ⟨_, rfl⟩
        by_cases hlt : k < c.length
        · have hlt' : (k : Int) < (c.length : Int) := by omega
          go_wp2
          go_loopw [14] (fun i wr => ∃ j : Nat, j ≤ c.length ∧ i = .int .i64 j ∧ Below w3.heap.size w3 wr) (fun i _ => c.length - (intOf i).toNat)
          case atStart => exact ⟨0, Nat.zero_le _, rfl, hbel⟩
          case round =>
            clear hbel
            obtain ⟨j, hj, rfl, hbel⟩ := hrel
            by_cases hjt : j < c.length
            · have hjt' : (j : Int) < (c.length : Int) := by omega
              obtain ⟨x0, d0⟩ := RA.out k (by omega)
              obtain ⟨y0, f0⟩ := RA.out j (by omega)
              have x1 := keep_cell hbel x0
              have d1 := keep_cell hbel d0
              have y1 := keep_cell hbel y0
              have f1 := keep_cell hbel f0
              have c1 := keep_cell (below_trans HB5.out hbel) (HCC.out k hlt)
              have c2 := keep_cell (below_trans HB5.out hbel) (HCC.out j hjt)
              have hx := OA.out.2 k hlt
              have hy := OA.out.2 j hjt
              have hcx := HH.out.holds _ (mem_getD hlt)
              have hcy := HH.out.holds _ (mem_getD hjt)
              have F := Lib.hid (FR.out k j hlt hjt)
              have HBL := Lib.hid hbel
              clear x0 d0 y0 f0 hbel
              generalize la.getD k (0, 0) = xd at *
              generalize la.getD j (0, 0) = yd at *
              generalize c.getD k 0 = cx at *
              generalize c.getD j 0 = cy at *
              obtain ⟨p, d⟩ := xd
              obtain ⟨q, f⟩ := yd
              simp only at x1 d1 y1 f1 hx hy
              have ja : (k : Int) < (la.length : Int) := by omega
              have jb : (j : Int) < (la.length : Int) := by omega
              have s1 : cx * d ≤ 1000 * d := Int.mul_le_mul_of_nonneg_right (by omega) (by omega)
              have s2 : cy * f ≤ 1000 * f := Int.mul_le_mul_of_nonneg_right (by omega) (by omega)
              have s3 : 0 ≤ cx * d := Int.mul_nonneg (by omega) (by omega)
              have s4 : 0 ≤ cy * f := Int.mul_nonneg (by omega) (by omega)
              have e1 : IntKind.i64.wrap (cx * d) = cx * d := IntWalk.i64_in _ (by omega)
              have e2 : IntKind.i64.wrap (cy * f) = cy * f := IntWalk.i64_in _ (by omega)
              have e3 : IntKind.i64.wrap (cx * d - p) = cx * d - p := IntWalk.i64_in _ (by omega)
              have e4 : IntKind.i64.wrap (cy * f - q) = cy * f - q := IntWalk.i64_in _ (by omega)
              have t0 : 0 ≤ p * f ∧ p * f ≤ 10000000 * 10000 := ⟨Int.mul_nonneg (by omega) (by omega), Int.mul_le_mul (by omega) (by omega) (by omega) (by omega)⟩
              have t1 : 0 ≤ q * d ∧ q * d ≤ 10000000 * 10000 := ⟨Int.mul_nonneg (by omega) (by omega), Int.mul_le_mul (by omega) (by omega) (by omega) (by omega)⟩
              have t2 : 0 ≤ (cx * d - p) * f ∧ (cx * d - p) * f ≤ 10000000 * 10000 := ⟨Int.mul_nonneg (by omega) (by omega), Int.mul_le_mul (by omega) (by omega) (by omega) (by omega)⟩
              have t3 : 0 ≤ (cy * f - q) * d ∧ (cy * f - q) * d ≤ 10000000 * 10000 := ⟨Int.mul_nonneg (by omega) (by omega), Int.mul_le_mul (by omega) (by omega) (by omega) (by omega)⟩
              have M1 := Lib.hid (fun W => most_any p d q f W (by omega) (by omega))
              have M2 := Lib.hid (fun W => most_any (cx * d - p) d (cy * f - q) f W (by omega) (by omega))
              have HXB := Lib.hid (And.intro hx hy)
              clear s1 s2 s3 s4 t0 t1 t2 t3
              have r1 : ∀ W, KB wr W → W.cell? ⟨b, off + k, none⟩ = some (.int .i64 cx) := fun W h => keep_cell h c1
              have r2 : ∀ W, KB wr W → W.cell? ⟨b, off + j, none⟩ = some (.int .i64 cy) := fun W h => keep_cell h c2
              have r3 : ∀ W, KB wr W → W.cell? ⟨ba, oa + k * 2, none⟩ = some (.int .i64 p) := fun W h => keep_cell h x1
              have r4 : ∀ W, KB wr W → W.cell? ⟨ba, oa + k * 2 + 1, none⟩ = some (.int .i64 d) := fun W h => keep_cell h d1
              have r5 : ∀ W, KB wr W → W.cell? ⟨ba, oa + j * 2, none⟩ = some (.int .i64 q) := fun W h => keep_cell h y1
              have r6 : ∀ W, KB wr W → W.cell? ⟨ba, oa + j * 2 + 1, none⟩ = some (.int .i64 f) := fun W h => keep_cell h f1
              go_upto_region 16 with fail
              go_cut [15, 16] (fun s15 s16 wx => ∃ g h : Nat, s15 = .pointer (some ⟨g, 0, none⟩) ∧ s16 = .pointer (some ⟨h, 0, none⟩) ∧ wx.cell? ⟨g, 0, none⟩ = some (.int .i64 (cx * d - p)) ∧ wx.cell? ⟨g, 1, none⟩ = some (.int .i64 d) ∧ wx.cell? ⟨h, 0, none⟩ = some (.int .i64 (cy * f - q)) ∧ wx.cell? ⟨h, 1, none⟩ = some (.int .i64 f) ∧ KB wr wx)
              case first =>
                go_region_held3 (fun W => KB wr W) (first | exact KB.drew (KB.refl _) | (unfold KB; repeat (first | assumption | exact Below.refl _ _ | refine Below.setCell ?_ (by first | omega | (simp; done) | (simp; omega)) _ | refine Below.drew ?_ | refine Below.alloc ?_ (by first | omega | (simp; done) | (simp; omega)) _))) (fail)
                all_goals (go_wp2_with fail; go_meet)
                · exact ⟨_, _, rfl, rfl, by simp, by simp, by simp, by simp, KB.drew (KB.alloc (KB.alloc (KB.refl _) _) _)⟩
                · exact ⟨_, _, rfl, rfl, by simp, by simp, by simp, by simp, KB.drew (KB.alloc (KB.alloc (KB.refl _) _) _)⟩
              case rest =>
                obtain ⟨g, h, rfl, rfl, g0, g1, h0, h1, hkb⟩ := hcut
                have HKB := Lib.hid hkb
                have z1 : ∀ W, KB wc W → W.cell? ⟨b, off + k, none⟩ = some (.int .i64 cx) := fun W h => r1 W (KB.call hkb h)
                have z2 : ∀ W, KB wc W → W.cell? ⟨b, off + j, none⟩ = some (.int .i64 cy) := fun W h => r2 W (KB.call hkb h)
                have z3 : ∀ W, KB wc W → W.cell? ⟨ba, oa + k * 2, none⟩ = some (.int .i64 p) := fun W h => r3 W (KB.call hkb h)
                have z4 : ∀ W, KB wc W → W.cell? ⟨ba, oa + k * 2 + 1, none⟩ = some (.int .i64 d) := fun W h => r4 W (KB.call hkb h)
                have z5 : ∀ W, KB wc W → W.cell? ⟨ba, oa + j * 2, none⟩ = some (.int .i64 q) := fun W h => r5 W (KB.call hkb h)
                have z6 : ∀ W, KB wc W → W.cell? ⟨ba, oa + j * 2 + 1, none⟩ = some (.int .i64 f) := fun W h => r6 W (KB.call hkb h)
                have z7 : ∀ W, KB wc W → W.cell? ⟨g, 0, none⟩ = some (.int .i64 (cx * d - p)) := fun W h => keep_cell h g0
                have z8 : ∀ W, KB wc W → W.cell? ⟨g, 1, none⟩ = some (.int .i64 d) := fun W h => keep_cell h g1
                have z9 : ∀ W, KB wc W → W.cell? ⟨h, 0, none⟩ = some (.int .i64 (cy * f - q)) := fun W h => keep_cell h h0
                have za : ∀ W, KB wc W → W.cell? ⟨h, 1, none⟩ = some (.int .i64 f) := fun W h => keep_cell h h1
                clear r1 r2 r3 r4 r5 r6 g0 g1 h0 h1 hkb e1 e2 e3 e4 c1 c2 x1 d1 y1 f1
                by_cases hxy : cx ≤ cy
                · have N1 := Lib.hid (fun W (hW : KB wc W) => (M1.out W).mono (R' := fun e w' => e = .returned (.bool true) ∧ KB wc w') (fun e w' ⟨h5, h6⟩ => ⟨by rw [h5, decide_eq_true (F.out.most hxy)], KB.call hW h6⟩))
                  have N2 := Lib.hid (fun W (hW : KB wc W) => (M2.out W).mono (R' := fun e w' => e = .returned (.bool true) ∧ KB wc w') (fun e w' ⟨h5, h6⟩ => ⟨by rw [h5, decide_eq_true (F.out.lost hxy)], KB.call hW h6⟩))
                  have hd1 : decide (cx ≤ cy) = true := decide_eq_true hxy
                  by_cases hxe : cx = cy
                  · have hsm := F.out.same hxe
                    simp only [Prod.mk.injEq] at hsm
                    obtain ⟨rfl, rfl⟩ := hsm
                    subst hxe
                    clear M1 M2 F hxy
                    go_wp2
                    go_region_held3 (fun W => KB wc W) (first | exact KB.drew (KB.refl _) | assumption | (apply KB.drew; assumption)) (first
                      | (go_at_call 44; (with_reducible refine (N1.out _ ?_).mono ?_); (first | exact KB.drew (KB.refl _) | exact KB.refl _ | assumption | (apply KB.drew; assumption)); rintro e w5 ⟨rfl, k5⟩)
                      | (go_at_call 44; (with_reducible refine (N2.out _ ?_).mono ?_); (first | exact KB.drew (KB.refl _) | exact KB.refl _ | assumption | (apply KB.drew; assumption)); rintro e w5 ⟨rfl, k5⟩)
                      | fail)
                    all_goals (
                      have K5 := Lib.hid k5
                      clear k5
                      go_wp2
                      go_roundw
                      case rel => exact ⟨j + 1, by omega, by go_num, HBL.out.trans (Below.mono (KB.call HKB.out (by first | exact K5.out | exact KB.drew K5.out)) HBL.out.size)⟩
                      case measure => simp [intOf]; omega)
                  · have hd2 : (cx == cy) = false := beq_eq_false_iff_ne.2 hxe
                    have hd3 : decide (cx = cy) = false := decide_eq_false hxe
                    clear M1 M2 F hxy hxe
                    go_wp2
                    refine wp_region_held_drew (S := fun W => KB wc W) (by kernel_rfl) (KB.drew (KB.refl _)) (fun hHeld => ?_)
                    refine wpAnyH_take (i := 0) (v := .slice (some ⟨b, off, none⟩) c.length cap) rfl (by kernel_rfl) (by kernel_rfl) (by kernel_rfl) (fun _ _ _ h => h) (Or.inl ⟨by rfl, fun W3 hS3 => ?take⟩) hHeld ?_
                    case take => go_simp
                    try simp only [Act.put, List.getElem_toArray, List.getElem_cons_zero, List.getElem_cons_succ, List.setIfInBounds_toArray, List.set_cons_zero, List.set_cons_succ]
                    refine wpAnyH_take (i := 1) (v := .int .i64 k) rfl (by kernel_rfl) (by kernel_rfl) (by kernel_rfl) (fun _ _ _ h => h) (Or.inl ⟨by rfl, fun W3 hS3 => ?take⟩) hHeld ?_
                    case take => go_simp
                    try simp only [Act.put, List.getElem_toArray, List.getElem_cons_zero, List.getElem_cons_succ, List.setIfInBounds_toArray, List.set_cons_zero, List.set_cons_succ]
                    refine wpAnyH_take (i := 2) (v := .pointer (some ⟨b, off + k, none⟩)) rfl (by kernel_rfl) (by kernel_rfl) (by kernel_rfl) (fun _ _ _ h => h) (Or.inl ⟨by rfl, fun W3 hS3 => ?take⟩) hHeld ?_
                    case take => go_simp
                    try simp only [Act.put, List.getElem_toArray, List.getElem_cons_zero, List.getElem_cons_succ, List.setIfInBounds_toArray, List.set_cons_zero, List.set_cons_succ]
                    refine wpAnyH_take (i := 3) (v := .int .i64 cx) rfl (by kernel_rfl) (by kernel_rfl) (by kernel_rfl) (fun _ _ _ h => h) (Or.inl ⟨by rfl, fun W3 hS3 => ?take⟩) hHeld ?_
                    case take => go_simp
                    try simp only [Act.put, List.getElem_toArray, List.getElem_cons_zero, List.getElem_cons_succ, List.setIfInBounds_toArray, List.set_cons_zero, List.set_cons_succ]
                    refine wpAnyH_take (i := 4) (v := .slice (some ⟨b, off, none⟩) c.length cap) rfl (by kernel_rfl) (by kernel_rfl) (by kernel_rfl) (fun _ _ _ h => h) (Or.inl ⟨by rfl, fun W3 hS3 => ?take⟩) hHeld ?_
                    case take => go_simp
                    try simp only [Act.put, List.getElem_toArray, List.getElem_cons_zero, List.getElem_cons_succ, List.setIfInBounds_toArray, List.set_cons_zero, List.set_cons_succ]
                    refine wpAnyH_take (i := 5) (v := .int .i64 j) rfl (by kernel_rfl) (by kernel_rfl) (by kernel_rfl) (fun _ _ _ h => h) (Or.inl ⟨by rfl, fun W3 hS3 => ?take⟩) hHeld ?_
                    case take => go_simp
                    try simp only [Act.put, List.getElem_toArray, List.getElem_cons_zero, List.getElem_cons_succ, List.setIfInBounds_toArray, List.set_cons_zero, List.set_cons_succ]
                    refine wpAnyH_take (i := 6) (v := .pointer (some ⟨b, off + j, none⟩)) rfl (by kernel_rfl) (by kernel_rfl) (by kernel_rfl) (fun _ _ _ h => h) (Or.inl ⟨by rfl, fun W3 hS3 => ?take⟩) hHeld ?_
                    case take => go_simp
                    try simp only [Act.put, List.getElem_toArray, List.getElem_cons_zero, List.getElem_cons_succ, List.setIfInBounds_toArray, List.set_cons_zero, List.set_cons_succ]
                    refine wpAnyH_take (i := 7) (v := .int .i64 cy) rfl (by kernel_rfl) (by kernel_rfl) (by kernel_rfl) (fun _ _ _ h => h) (Or.inl ⟨by rfl, fun W3 hS3 => ?take⟩) hHeld ?_
                    case take => go_simp
                    try simp only [Act.put, List.getElem_toArray, List.getElem_cons_zero, List.getElem_cons_succ, List.setIfInBounds_toArray, List.set_cons_zero, List.set_cons_succ]
                    refine wpAnyH_take (i := 8) (v := .bool true) rfl (by kernel_rfl) (by kernel_rfl) (by kernel_rfl) (fun _ _ _ h => h) (Or.inl ⟨by rfl, fun W3 hS3 => ?take⟩) hHeld ?_
                    case take => go_simp
                    try simp only [Act.put, List.getElem_toArray, List.getElem_cons_zero, List.getElem_cons_succ, List.setIfInBounds_toArray, List.set_cons_zero, List.set_cons_succ]
                    refine wpAnyH_take (i := 9) (v := .bool true) rfl (by kernel_rfl) (by kernel_rfl) (by kernel_rfl) (fun _ _ _ h => h) (Or.inl ⟨by rfl, fun W3 hS3 => ?take⟩) hHeld ?_
                    case take => go_simp
                    try simp only [Act.put, List.getElem_toArray, List.getElem_cons_zero, List.getElem_cons_succ, List.setIfInBounds_toArray, List.set_cons_zero, List.set_cons_succ]
                    refine wpAnyH_take (i := 10) (v := .slice (some ⟨ba, oa, none⟩) la.length ca) rfl (by kernel_rfl) (by kernel_rfl) (by kernel_rfl) (fun _ _ _ h => h) (Or.inl ⟨by rfl, fun W3 hS3 => ?take⟩) hHeld ?_
                    case take => go_simp
                    try simp only [Act.put, List.getElem_toArray, List.getElem_cons_zero, List.getElem_cons_succ, List.setIfInBounds_toArray, List.set_cons_zero, List.set_cons_succ]
                    refine wpAnyH_take (i := 11) (v := .int .i64 k) rfl (by kernel_rfl) (by kernel_rfl) (by kernel_rfl) (fun _ _ _ h => h) (Or.inl ⟨by rfl, fun W3 hS3 => ?take⟩) hHeld ?_
                    case take => go_simp
                    try simp only [Act.put, List.getElem_toArray, List.getElem_cons_zero, List.getElem_cons_succ, List.setIfInBounds_toArray, List.set_cons_zero, List.set_cons_succ]
                    refine wpAnyH_take (i := 12) (v := .pointer (some ⟨ba, oa + k * 2, none⟩)) rfl (by kernel_rfl) (by kernel_rfl) (by kernel_rfl) (fun _ _ _ h => h) (Or.inl ⟨by rfl, fun W3 hS3 => ?take⟩) hHeld ?_
                    case take => go_simp
                    try simp only [Act.put, List.getElem_toArray, List.getElem_cons_zero, List.getElem_cons_succ, List.setIfInBounds_toArray, List.set_cons_zero, List.set_cons_succ]
                    refine wpAnyH_take (i := 13) (v := .agg #[.int .i64 p, .int .i64 d]) rfl (by kernel_rfl) (by kernel_rfl) (by kernel_rfl) (fun _ _ _ h => h) (Or.inl ⟨by rfl, fun W3 hS3 => ?take⟩) hHeld ?_
                    case take => go_simp
                    try simp only [Act.put, List.getElem_toArray, List.getElem_cons_zero, List.getElem_cons_succ, List.setIfInBounds_toArray, List.set_cons_zero, List.set_cons_succ]
                    refine wpAnyH_take (i := 14) (v := .slice (some ⟨ba, oa, none⟩) la.length ca) rfl (by kernel_rfl) (by kernel_rfl) (by kernel_rfl) (fun _ _ _ h => h) (Or.inl ⟨by rfl, fun W3 hS3 => ?take⟩) hHeld ?_
                    case take => go_simp
                    try simp only [Act.put, List.getElem_toArray, List.getElem_cons_zero, List.getElem_cons_succ, List.setIfInBounds_toArray, List.set_cons_zero, List.set_cons_succ]
                    refine wpAnyH_take (i := 15) (v := .int .i64 j) rfl (by kernel_rfl) (by kernel_rfl) (by kernel_rfl) (fun _ _ _ h => h) (Or.inl ⟨by rfl, fun W3 hS3 => ?take⟩) hHeld ?_
                    case take => go_simp
                    try simp only [Act.put, List.getElem_toArray, List.getElem_cons_zero, List.getElem_cons_succ, List.setIfInBounds_toArray, List.set_cons_zero, List.set_cons_succ]
                    refine wpAnyH_take (i := 16) (v := .pointer (some ⟨ba, oa + j * 2, none⟩)) rfl (by kernel_rfl) (by kernel_rfl) (by kernel_rfl) (fun _ _ _ h => h) (Or.inl ⟨by rfl, fun W3 hS3 => ?take⟩) hHeld ?_
                    case take => go_simp
                    try simp only [Act.put, List.getElem_toArray, List.getElem_cons_zero, List.getElem_cons_succ, List.setIfInBounds_toArray, List.set_cons_zero, List.set_cons_succ]
                    refine wpAnyH_take (i := 17) (v := .agg #[.int .i64 q, .int .i64 f]) rfl (by kernel_rfl) (by kernel_rfl) (by kernel_rfl) (fun _ _ _ h => h) (Or.inl ⟨by rfl, fun W3 hS3 => ?take⟩) hHeld ?_
                    case take => go_simp
                    try simp only [Act.put, List.getElem_toArray, List.getElem_cons_zero, List.getElem_cons_succ, List.setIfInBounds_toArray, List.set_cons_zero, List.set_cons_succ]
                    refine wpAnyH_ready (rs := [18]) (by kernel_rfl) (by simp) ?_
                    refine AllReadyH.cons rfl (fun K hK => ?_) AllReadyH.nil
                    go_simp
                    refine (N1.out _ hHeld).mono ?_
                    rintro e w5 ⟨rfl, k5⟩
                    go_wp2_with fail
                    refine hK.out _ _ k5 (fun hHeld => ?_)
                    clear hK K
                    try simp only [Act.put, List.getElem_toArray, List.getElem_cons_zero, List.getElem_cons_succ, List.setIfInBounds_toArray, List.set_cons_zero, List.set_cons_succ]
                    refine wpAnyH_take (i := 19) (v := .bool false) rfl (by kernel_rfl) (by kernel_rfl) (by kernel_rfl) (fun _ _ _ h => h) (Or.inl ⟨by rfl, fun W3 hS3 => ?take⟩) hHeld ?_
                    case take => go_simp
                    try simp only [Act.put, List.getElem_toArray, List.getElem_cons_zero, List.getElem_cons_succ, List.setIfInBounds_toArray, List.set_cons_zero, List.set_cons_succ]
                    refine wpAnyH_take (i := 20) (v := .bool false) rfl (by kernel_rfl) (by kernel_rfl) (by kernel_rfl) (fun _ _ _ h => h) (Or.inl ⟨by rfl, fun W3 hS3 => ?take⟩) hHeld ?_
                    case take => go_simp
                    try simp only [Act.put, List.getElem_toArray, List.getElem_cons_zero, List.getElem_cons_succ, List.setIfInBounds_toArray, List.set_cons_zero, List.set_cons_succ]
                    refine wpAnyH_take (i := 21) (v := .agg #[.int .i64 (cx * d - p), .int .i64 d]) rfl (by kernel_rfl) (by kernel_rfl) (by kernel_rfl) (fun _ _ _ h => h) (Or.inl ⟨by rfl, fun W3 hS3 => ?take⟩) hHeld ?_
                    case take => go_simp
                    try simp only [Act.put, List.getElem_toArray, List.getElem_cons_zero, List.getElem_cons_succ, List.setIfInBounds_toArray, List.set_cons_zero, List.set_cons_succ]
                    refine wpAnyH_take (i := 22) (v := .agg #[.int .i64 (cy * f - q), .int .i64 f]) rfl (by kernel_rfl) (by kernel_rfl) (by kernel_rfl) (fun _ _ _ h => h) (Or.inl ⟨by rfl, fun W3 hS3 => ?take⟩) hHeld ?_
                    case take => go_simp
                    try simp only [Act.put, List.getElem_toArray, List.getElem_cons_zero, List.getElem_cons_succ, List.setIfInBounds_toArray, List.set_cons_zero, List.set_cons_succ]
                    refine wpAnyH_ready (rs := [23]) (by kernel_rfl) (by simp) ?_
                    refine AllReadyH.cons rfl (fun K hK => ?_) AllReadyH.nil
                    go_simp
                    refine (N2.out _ hHeld).mono ?_
                    rintro e w5 ⟨rfl, k5⟩
                    go_wp2_with fail
                    refine hK.out _ _ k5 (fun hHeld => ?_)
                    clear hK K
                    try simp only [Act.put, List.getElem_toArray, List.getElem_cons_zero, List.getElem_cons_succ, List.setIfInBounds_toArray, List.set_cons_zero, List.set_cons_succ]
                    refine wpAnyH_take (i := 24) (v := .bool false) rfl (by kernel_rfl) (by kernel_rfl) (by kernel_rfl) (fun _ _ _ h => h) (Or.inl ⟨by rfl, fun W3 hS3 => ?take⟩) hHeld ?_
                    case take => go_simp
                    try simp only [Act.put, List.getElem_toArray, List.getElem_cons_zero, List.getElem_cons_succ, List.setIfInBounds_toArray, List.set_cons_zero, List.set_cons_succ]
                    refine wpAnyH_take (i := 25) (v := .bool false) rfl (by kernel_rfl) (by kernel_rfl) (by kernel_rfl) (fun _ _ _ h => h) (Or.inl ⟨by rfl, fun W3 hS3 => ?take⟩) hHeld ?_
                    case take => go_simp
                    try simp only [Act.put, List.getElem_toArray, List.getElem_cons_zero, List.getElem_cons_succ, List.setIfInBounds_toArray, List.set_cons_zero, List.set_cons_succ]
                    refine wpAnyH_take (i := 26) (v := .bool false) rfl (by kernel_rfl) (by kernel_rfl) (by kernel_rfl) (fun _ _ _ h => h) (Or.inl ⟨by rfl, fun W3 hS3 => ?take⟩) hHeld ?_
                    case take => go_simp
                    try simp only [Act.put, List.getElem_toArray, List.getElem_cons_zero, List.getElem_cons_succ, List.setIfInBounds_toArray, List.set_cons_zero, List.set_cons_succ]
                    refine wpAnyH_take (i := 27) (v := .bool false) rfl (by kernel_rfl) (by kernel_rfl) (by kernel_rfl) (fun _ _ _ h => h) (Or.inl ⟨by rfl, fun W3 hS3 => ?take⟩) hHeld ?_
                    case take => go_simp
                    try simp only [Act.put, List.getElem_toArray, List.getElem_cons_zero, List.getElem_cons_succ, List.setIfInBounds_toArray, List.set_cons_zero, List.set_cons_succ]
                    refine wpAnyH_take (i := 28) (v := .slice (some ⟨b, off, none⟩) c.length cap) rfl (by kernel_rfl) (by kernel_rfl) (by kernel_rfl) (fun _ _ _ h => h) (Or.inl ⟨by rfl, fun W3 hS3 => ?take⟩) hHeld ?_
                    case take => go_simp
                    try simp only [Act.put, List.getElem_toArray, List.getElem_cons_zero, List.getElem_cons_succ, List.setIfInBounds_toArray, List.set_cons_zero, List.set_cons_succ]
                    refine wpAnyH_take (i := 29) (v := .int .i64 k) rfl (by kernel_rfl) (by kernel_rfl) (by kernel_rfl) (fun _ _ _ h => h) (Or.inl ⟨by rfl, fun W3 hS3 => ?take⟩) hHeld ?_
                    case take => go_simp
                    try simp only [Act.put, List.getElem_toArray, List.getElem_cons_zero, List.getElem_cons_succ, List.setIfInBounds_toArray, List.set_cons_zero, List.set_cons_succ]
                    refine wpAnyH_take (i := 30) (v := .pointer (some ⟨b, off + k, none⟩)) rfl (by kernel_rfl) (by kernel_rfl) (by kernel_rfl) (fun _ _ _ h => h) (Or.inl ⟨by rfl, fun W3 hS3 => ?take⟩) hHeld ?_
                    case take => go_simp
                    try simp only [Act.put, List.getElem_toArray, List.getElem_cons_zero, List.getElem_cons_succ, List.setIfInBounds_toArray, List.set_cons_zero, List.set_cons_succ]
                    refine wpAnyH_take (i := 31) (v := .int .i64 cx) rfl (by kernel_rfl) (by kernel_rfl) (by kernel_rfl) (fun _ _ _ h => h) (Or.inl ⟨by rfl, fun W3 hS3 => ?take⟩) hHeld ?_
                    case take => go_simp
                    try simp only [Act.put, List.getElem_toArray, List.getElem_cons_zero, List.getElem_cons_succ, List.setIfInBounds_toArray, List.set_cons_zero, List.set_cons_succ]
                    refine wpAnyH_take (i := 32) (v := .slice (some ⟨b, off, none⟩) c.length cap) rfl (by kernel_rfl) (by kernel_rfl) (by kernel_rfl) (fun _ _ _ h => h) (Or.inl ⟨by rfl, fun W3 hS3 => ?take⟩) hHeld ?_
                    case take => go_simp
                    try simp only [Act.put, List.getElem_toArray, List.getElem_cons_zero, List.getElem_cons_succ, List.setIfInBounds_toArray, List.set_cons_zero, List.set_cons_succ]
                    refine wpAnyH_take (i := 33) (v := .int .i64 j) rfl (by kernel_rfl) (by kernel_rfl) (by kernel_rfl) (fun _ _ _ h => h) (Or.inl ⟨by rfl, fun W3 hS3 => ?take⟩) hHeld ?_
                    case take => go_simp
                    try simp only [Act.put, List.getElem_toArray, List.getElem_cons_zero, List.getElem_cons_succ, List.setIfInBounds_toArray, List.set_cons_zero, List.set_cons_succ]
                    refine wpAnyH_take (i := 34) (v := .pointer (some ⟨b, off + j, none⟩)) rfl (by kernel_rfl) (by kernel_rfl) (by kernel_rfl) (fun _ _ _ h => h) (Or.inl ⟨by rfl, fun W3 hS3 => ?take⟩) hHeld ?_
                    case take => go_simp
                    try simp only [Act.put, List.getElem_toArray, List.getElem_cons_zero, List.getElem_cons_succ, List.setIfInBounds_toArray, List.set_cons_zero, List.set_cons_succ]
                    refine wpAnyH_take (i := 35) (v := .int .i64 cy) rfl (by kernel_rfl) (by kernel_rfl) (by kernel_rfl) (fun _ _ _ h => h) (Or.inl ⟨by rfl, fun W3 hS3 => ?take⟩) hHeld ?_
                    case take => go_simp
                    try simp only [Act.put, List.getElem_toArray, List.getElem_cons_zero, List.getElem_cons_succ, List.setIfInBounds_toArray, List.set_cons_zero, List.set_cons_succ]
                    refine wpAnyH_take (i := 36) (v := .bool false) rfl (by kernel_rfl) (by kernel_rfl) (by kernel_rfl) (fun _ _ _ h => h) (Or.inl ⟨by rfl, fun W3 hS3 => ?take⟩) hHeld ?_
                    case take => go_simp
                    try simp only [Act.put, List.getElem_toArray, List.getElem_cons_zero, List.getElem_cons_succ, List.setIfInBounds_toArray, List.set_cons_zero, List.set_cons_succ]
                    refine wpAnyH_take (i := 37) (v := .bool false) rfl (by kernel_rfl) (by kernel_rfl) (by kernel_rfl) (fun _ _ _ h => h) (Or.inl ⟨by rfl, fun W3 hS3 => ?take⟩) hHeld ?_
                    case take => go_simp
                    try simp only [Act.put, List.getElem_toArray, List.getElem_cons_zero, List.getElem_cons_succ, List.setIfInBounds_toArray, List.set_cons_zero, List.set_cons_succ]
                    refine wpAnyH_take (i := 38) (v := undef) rfl (by kernel_rfl) (by kernel_rfl) (by kernel_rfl) (fun _ _ _ h => h) (Or.inr ⟨by rfl, rfl⟩) hHeld ?_
                    try simp only [Act.put, List.getElem_toArray, List.getElem_cons_zero, List.getElem_cons_succ, List.setIfInBounds_toArray, List.set_cons_zero, List.set_cons_succ]
                    refine wpAnyH_take (i := 39) (v := undef) rfl (by kernel_rfl) (by kernel_rfl) (by kernel_rfl) (fun _ _ _ h => h) (Or.inr ⟨by rfl, rfl⟩) hHeld ?_
                    try simp only [Act.put, List.getElem_toArray, List.getElem_cons_zero, List.getElem_cons_succ, List.setIfInBounds_toArray, List.set_cons_zero, List.set_cons_succ]
                    refine wpAnyH_take (i := 40) (v := undef) rfl (by kernel_rfl) (by kernel_rfl) (by kernel_rfl) (fun _ _ _ h => h) (Or.inr ⟨by rfl, rfl⟩) hHeld ?_
                    try simp only [Act.put, List.getElem_toArray, List.getElem_cons_zero, List.getElem_cons_succ, List.setIfInBounds_toArray, List.set_cons_zero, List.set_cons_succ]
                    refine wpAnyH_take (i := 41) (v := undef) rfl (by kernel_rfl) (by kernel_rfl) (by kernel_rfl) (fun _ _ _ h => h) (Or.inr ⟨by rfl, rfl⟩) hHeld ?_
                    try simp only [Act.put, List.getElem_toArray, List.getElem_cons_zero, List.getElem_cons_succ, List.setIfInBounds_toArray, List.set_cons_zero, List.set_cons_succ]
                    refine wpAnyH_take (i := 42) (v := undef) rfl (by kernel_rfl) (by kernel_rfl) (by kernel_rfl) (fun _ _ _ h => h) (Or.inr ⟨by rfl, rfl⟩) hHeld ?_
                    try simp only [Act.put, List.getElem_toArray, List.getElem_cons_zero, List.getElem_cons_succ, List.setIfInBounds_toArray, List.set_cons_zero, List.set_cons_succ]
                    refine wpAnyH_take (i := 43) (v := undef) rfl (by kernel_rfl) (by kernel_rfl) (by kernel_rfl) (fun _ _ _ h => h) (Or.inr ⟨by rfl, rfl⟩) hHeld ?_
                    try simp only [Act.put, List.getElem_toArray, List.getElem_cons_zero, List.getElem_cons_succ, List.setIfInBounds_toArray, List.set_cons_zero, List.set_cons_succ]
                    refine wpAnyH_take (i := 44) (v := undef) rfl (by kernel_rfl) (by kernel_rfl) (by kernel_rfl) (fun _ _ _ h => h) (Or.inr ⟨by rfl, rfl⟩) hHeld ?_
                    try simp only [Act.put, List.getElem_toArray, List.getElem_cons_zero, List.getElem_cons_succ, List.setIfInBounds_toArray, List.set_cons_zero, List.set_cons_succ]
                    refine wpAnyH_take (i := 45) (v := undef) rfl (by kernel_rfl) (by kernel_rfl) (by kernel_rfl) (fun _ _ _ h => h) (Or.inr ⟨by rfl, rfl⟩) hHeld ?_
                    try simp only [Act.put, List.getElem_toArray, List.getElem_cons_zero, List.getElem_cons_succ, List.setIfInBounds_toArray, List.set_cons_zero, List.set_cons_succ]
                    refine wpAnyH_take (i := 46) (v := undef) rfl (by kernel_rfl) (by kernel_rfl) (by kernel_rfl) (fun _ _ _ h => h) (Or.inr ⟨by rfl, rfl⟩) hHeld ?_
                    try simp only [Act.put, List.getElem_toArray, List.getElem_cons_zero, List.getElem_cons_succ, List.setIfInBounds_toArray, List.set_cons_zero, List.set_cons_succ]
                    refine wpAnyH_take (i := 47) (v := .bool false) rfl (by kernel_rfl) (by kernel_rfl) (by kernel_rfl) (fun _ _ _ h => h) (Or.inl ⟨by rfl, fun W3 hS3 => ?take⟩) hHeld ?_
                    case take => go_simp
                    try simp only [Act.put, List.getElem_toArray, List.getElem_cons_zero, List.getElem_cons_succ, List.setIfInBounds_toArray, List.set_cons_zero, List.set_cons_succ]
                    refine wpAnyH_take (i := 48) (v := .bool false) rfl (by kernel_rfl) (by kernel_rfl) (by kernel_rfl) (fun _ _ _ h => h) (Or.inl ⟨by rfl, fun W3 hS3 => ?take⟩) hHeld ?_
                    case take => go_simp
                    try simp only [Act.put, List.getElem_toArray, List.getElem_cons_zero, List.getElem_cons_succ, List.setIfInBounds_toArray, List.set_cons_zero, List.set_cons_succ]
                    refine wpAnyH_done (by kernel_rfl) ?_ _
                    have K5 := Lib.hid hHeld
                    go_wp2
                    go_roundw
                    case rel => exact ⟨j + 1, by omega, by go_num, HBL.out.trans (Below.mono (KB.call HKB.out (by first | exact K5.out | exact KB.drew K5.out)) HBL.out.size)⟩
                    case measure => simp [intOf]; omega
                · have hd1 : decide (cx ≤ cy) = false := decide_eq_false hxy
                  have hd2 : (cx == cy) = false := beq_eq_false_iff_ne.2 (by omega)
                  have hd3 : decide (cx = cy) = false := decide_eq_false (by omega)
                  have N1 := M1
                  have N2 := M2
                  clear M1 M2 F hxy
                  go_wp2
                  have y1 := z1 wc (KB.refl _)
                  have y2 := z2 wc (KB.refl _)
                  have y3 := z3 wc (KB.refl _)
                  have y4 := z4 wc (KB.refl _)
                  have y5 := z5 wc (KB.refl _)
                  have y6 := z6 wc (KB.refl _)
                  clear z1 z2 z3 z4 z5 z6 z7 z8 z9 za
                  refine wp_region_quiet_lit (by kernel_rfl) (by kernel_rfl) ?_
                  repeat (any_goals (first | go_big_quiet_step (fail) | quiet_step (fail)))
                  all_goals (refine wpQuiet_nil ?_; intro _ hw'; obtain ⟨nq, hw''⟩ := hw'; subst hw'')
                  all_goals (
                    go_wp2
                    go_roundw
                    case rel => exact ⟨j + 1, by omega, by go_num, HBL.out.trans (Below.mono (below_drewN HKB.out _) HBL.out.size)⟩
                    case measure => simp [intOf]; omega)
            · have e : j = c.length := by omega
              subst e
              go_wp2
              go_roundw
              case rel => exact ⟨k + 1, by omega, by go_num, hbel⟩
              case measure => simp [intOf]; omega
        · have e : k = c.length := by omega
          subst e
          have HB6 := Lib.hid (HB5.out.trans (hbel.mono HB5.out.size))
          have HA4 := Lib.hid (HA3.out.below hbel)
          have HBE := Lib.hid hbel
          clear hbel
          go_wp2_with fail
          refine (Missing_any _ _ _ _ (HV.out.below HB6.out)).mono ?_
          rintro e w' ⟨rfl, rfl⟩
          rw [M.out, A.out]
          go_wp2_with fail
          with_reducible refine (S2.out _ (HV.out.below HB6.out)).mono ?_
          rintro e w7 ⟨v7, rfl, hL7, hb7⟩
          have HL7 := Lib.hid hL7
          have HB7 := Lib.hid (HB6.out.trans (hb7.mono HB6.out.size))
          have HA7 := Lib.hid (HA4.out.below hb7)
          clear hL7 hb7
          go_wp2_with fail
          refine (valid_ok _ _ _ _ _ (HV.out.below HB7.out) HL7.out HH.out OB.out).mono ?_
          rintro e w8 ⟨rfl, hb8⟩
          have HL8 := Lib.hid (HL7.out.below hb8)
          have HA8 := Lib.hid (HA7.out.below hb8)
          have HB8 := Lib.hid (HB7.out.trans (hb8.mono HB7.out.size))
          clear hb8
          have llb : c.length ≤ lb.length := by have := OB.out.1; omega
          obtain ⟨bb, ob, cb, _, rfl, hlb⟩ := rats_cell HL8.out (by omega)
          obtain ⟨ba', oa', ca', _, hbe, hla8⟩ := rats_cell HA8.out (by omega)
          simp only [Value.slice.injEq, Option.some.injEq, Addr.mk.injEq] at hbe
          obtain ⟨⟨rfl, rfl, -⟩, -, rfl⟩ := hbe
          have RA8 := Lib.hid hla8
          have RB8 := Lib.hid hlb
          clear hlb hla8
          go_wp2
          go_loopw [19] (fun i wr => ∃ j : Nat, j ≤ c.length ∧ i = .int .i64 j ∧ Below w8.heap.size w8 wr) (fun i _ => c.length - (intOf i).toNat)
          case atStart => exact ⟨0, Nat.zero_le _, rfl, Below.refl _ _⟩
          case round =>
            obtain ⟨j, hj, rfl, hbel⟩ := hrel
            by_cases hjt : j < c.length
            · have hjt' : (j : Int) < (c.length : Int) := by omega
              obtain ⟨x0, d0⟩ := RA8.out j (by omega)
              obtain ⟨y0, f0⟩ := RB8.out j (by omega)
              have x1 := keep_cell hbel x0
              have d1 := keep_cell hbel d0
              have y1 := keep_cell hbel y0
              have f1 := keep_cell hbel f0
              have hx := OA.out.2 j hjt
              have hy := OB.out.2 j hjt
              have hcx := HH.out.holds _ (mem_getD hjt)
              have F := Lib.hid (MO.out j hjt)
              have HBL := Lib.hid hbel
              clear x0 d0 y0 f0 hbel
              generalize la.getD j (0, 0) = xd at *
              generalize lb.getD j (0, 0) = yd at *
              generalize c.getD j 0 = cx at *
              obtain ⟨p, d⟩ := xd
              obtain ⟨q, f⟩ := yd
              simp only at x1 d1 y1 f1 hx hy F
              have ja : (j : Int) < (la.length : Int) := by omega
              have jb : (j : Int) < (lb.length : Int) := by omega
              have s1 : cx * d ≤ 1000 * d := Int.mul_le_mul_of_nonneg_right (by omega) (by omega)
              have s2 : cx * f ≤ 1000 * f := Int.mul_le_mul_of_nonneg_right (by omega) (by omega)
              have t0 : 0 ≤ p * f ∧ p * f ≤ 10000000 * 10000 := ⟨Int.mul_nonneg (by omega) (by omega), Int.mul_le_mul (by omega) (by omega) (by omega) (by omega)⟩
              have t1 : 0 ≤ q * d ∧ q * d ≤ 10000000 * 10000 := ⟨Int.mul_nonneg (by omega) (by omega), Int.mul_le_mul (by omega) (by omega) (by omega) (by omega)⟩
              have N1 := Lib.hid (fun W (hW : KB wr W) => (most_any p d q f W (by omega) (by omega)).mono (R' := fun e w' => e = .returned (.bool true) ∧ KB wr w') (fun e w' ⟨h5, h6⟩ => ⟨by rw [h5, decide_eq_true F.out], KB.call hW h6⟩))
              clear s1 s2 t0 t1 F
              have r3 : ∀ W, KB wr W → W.cell? ⟨ba, oa + j * 2, none⟩ = some (.int .i64 p) := fun W h => keep_cell h x1
              have r4 : ∀ W, KB wr W → W.cell? ⟨ba, oa + j * 2 + 1, none⟩ = some (.int .i64 d) := fun W h => keep_cell h d1
              have r5 : ∀ W, KB wr W → W.cell? ⟨bb, ob + j * 2, none⟩ = some (.int .i64 q) := fun W h => keep_cell h y1
              have r6 : ∀ W, KB wr W → W.cell? ⟨bb, ob + j * 2 + 1, none⟩ = some (.int .i64 f) := fun W h => keep_cell h f1
              clear x1 d1 y1 f1
              go_wp2
              go_region_held3 (fun W => KB wr W) (first | exact KB.drew (KB.refl _) | assumption | (apply KB.drew; assumption)) (first
                | (go_at_call 44; (with_reducible refine (N1.out _ ?_).mono ?_); (first | exact KB.drew (KB.refl _) | exact KB.refl _ | assumption | (apply KB.drew; assumption)); rintro e w5 ⟨rfl, k5⟩)
                | fail)
              all_goals (
                have K5 := Lib.hid k5
                clear k5
                go_wp2
                go_roundw
                case rel => exact ⟨j + 1, by omega, by go_num, HBL.out.trans (Below.mono (show Below wr.heap.size wr _ by first | exact K5.out | exact KB.drew K5.out) HBL.out.size)⟩
                case measure => simp [intOf]; omega)
            · have e : j = c.length := by omega
              subst e
              go_wp2_with fail
              refine (SN.out _).mono ?_
              rintro e w9 ⟨rfl, hb9⟩
              have h9 := HB8.out.trans (hbel.mono HB8.out.size)
              go_wp2
              go_ret
              exact ⟨rfl, h9.trans (hb9.mono h9.size)⟩
    · have E := Lib.hid (shareV_bad h0)
      have hl := shareV_len c n r
      have hb : (shareE c n r != 0) = true := bne_iff_ne.2 h0
      clear h0
      go_enter Try.func11, Try.ntmps11
      go_wp2
      go_region
      all_goals go_wp2_with fail
      have HB2 := Lib.hid (HB1.out.drew)
      clear hc0 hc1 HB1
      generalize (w.alloc (.cells #[.int .i64 n, .int .i64 r] 54)).drew = W1 at *
      refine (LG.out _ HB2.out).mono ?_
      rintro e w' ⟨rfl, rfl⟩
      rw [L.out]
      go_wp2_with fail
      refine (Share_any _ _ _ _ _ (HV.out.below HB2.out)).mono ?_
      rintro e w1 ⟨v1, rfl, ho1, hb1⟩
      have H1 := ho1.at hl
      rw [E.out] at H1
      obtain ⟨oa, oc, rfl, _⟩ := H1
      have HB3 := Lib.hid (HB2.out.trans (hb1.mono HB2.out.size))
      clear ho1 hb1
      go_wp2_with fail
      refine (SN.out _).mono ?_
      rintro e w2 ⟨rfl, hb2⟩
      go_wp2
      go_ret
      exact ⟨rfl, HB3.out.trans (hb2.mono HB3.out.size)⟩

end Go.Proofs.Ytaakefjblldccaa

/- The walk of the law FundOld, they do not. -/
import Derived.Test.YtaakefjblldccaaLawMa
namespace Go.Proofs.Ytaakefjblldccaa
open Go.RowKit

set_option maxRecDepth 100000 in
set_option maxHeartbeats 8000000 in
theorem FundOld_F (v x : Value) (c : List Int) (aw : List Rat2) (n : Int) (w : World) (hv : IntsAt w v c) (hx : RatsAt w x aw) (h40 : ¬ 40 < c.length) (h41 : ¬ 40 < aw.length) (h0 : shareE c n 4 = 0) (hag : agV c n aw = false) (hae : awE c n aw = 0) :
    Calls Try.prog 12 #[v, .int .i64 n, x] w fun e w' => e = .returned (.bool true) ∧ Below w.heap.size w w' := by
  have HV := Lib.hid hv
  have HX := Lib.hid hx
  have LG := Lib.hid (long_any v c w hv)
  have SN := Lib.hid sane_any
  have L : Hid (decide (40 < c.length) = false) := Lib.hid (decide_eq_false h40)
  have h41' : ¬ (40 : Int) < aw.length := by omega
  obtain ⟨ha, _, _⟩ := shareE_zero h0
  obtain ⟨hc, h1, h2⟩ := askE_ok2 ha
  have HH := Lib.hid hc
  have hlo := hc.lo
  have hhi := hc.hi
  obtain ⟨b, off, cap, rfl, hcc⟩ := ints_cell HV.out (by omega)
  have HCC := Lib.hid hcc
  have S1 := Lib.hid (Share_good (.slice (some ⟨b, off, none⟩) c.length cap) c n 4 w HV.out ha (by omega))
  have OA := Lib.hid (shr_okv (hc.shr2 h1 h2 (r := 4) (by omega)))
  have AG := Lib.hid (old_agrees ha)
  have AE := Lib.hid (show awE c n (shareL c n 4) = 0 by rcases agV_ae2 (l := shareL c n 4) ha with h | h; exact h.2; rw [AG.out] at h; simp at h)
  have SAME := Lib.hid (fun h => agree_same (c := c) (n := n) (l := aw) h)
  have TWO := Lib.hid (fun h => two_facts (c := c) (n := n) ha h)
  have ARA := Lib.hid (fun (h : agV c n aw = true) => agV_arA h)
  obtain ⟨xa, xc, rfl, hl2, _⟩ := hx
  have C2 := Lib.hid (fun W (hb : Below w.heap.size w W) => tAgrees_any (.slice (some ⟨b, off, none⟩) c.length cap) (.slice xa aw.length xc) c aw n W (HV.out.below hb) (HX.out.below hb))
  have C1 := Lib.hid (fun W x1 (hb : Below w.heap.size w W) (hr : RatsAt W x1 (shareL c n 4)) => tAgrees_any (.slice (some ⟨b, off, none⟩) c.length cap) x1 c (shareL c n 4) n W (HV.out.below hb) hr)
  rw [AG.out, AE.out] at C1
  rw [hag, hae] at C2
  rw [hag] at SAME ARA
  generalize shareL c n 4 = l at *
  clear hcc hc ha h0 h40 h41 hag hae
  go_enter Try.func12, Try.ntmps12
  go_wp2_with fail
  refine LG.out.mono ?_
  rintro e w' ⟨rfl, rfl⟩
  rw [L.out]
  go_wp2_with fail
  refine S1.out.mono ?_
  rintro e w1 ⟨v1, rfl, HA, hb1⟩
  have HA1 := Lib.hid HA
  have HB1 := Lib.hid hb1
  clear HA hb1
  go_wp2_with fail
  refine (C1.out w1 _ HB1.out HA1.out).mono ?_
  rintro e w2 ⟨rfl, hb2⟩
  have HA2 := Lib.hid (HA1.out.below hb2)
  have HB2 := Lib.hid (HB1.out.trans (hb2.mono HB1.out.size))
  clear hb2 HA1
  go_wp2_with fail
  refine (C2.out w2 HB2.out).mono ?_
  rintro e w3 ⟨rfl, hb3⟩
  have HA3 := Lib.hid (HA2.out.below hb3)
  have HB3 := Lib.hid (HB2.out.trans (hb3.mono HB2.out.size))
  clear hb3 HA2
  go_wp2_with fail
  refine (valid_ok _ _ c l w3 (HV.out.below HB3.out) HA3.out HH.out OA.out).mono ?_
  rintro e w4 ⟨rfl, hb4⟩
  have HA4 := Lib.hid (HA3.out.below hb4)
  have HB4 := Lib.hid (HB3.out.trans (hb4.mono HB3.out.size))
  clear hb4 HA3
  obtain ⟨bl, ol, cl, _, rfl, hla⟩ := rats_cell HA4.out (by rw [OA.out.1]; exact HH.out.lo)
  have RL := Lib.hid hla
  clear hla
  have OL := Lib.hid OA.out.1
  rw [OL.out]
  go_wp2
  go_loopw [13] (fun i wr => i = .int .i64 0 ∧ Below w4.heap.size w4 wr) (fun _ _ => 0)
  case atStart => exact ⟨rfl, Below.refl _ _⟩
  case round =>
    obtain ⟨rfl, hbel⟩ := hrel
    have h0' : (0 : Int) < (c.length : Int) := by omega
    have HBX := Lib.hid (HB4.out.trans (hbel.mono HB4.out.size))
    have RW := Lib.hid (fun j hj => (show wr.cell? ⟨bl, ol + j * 2, none⟩ = _ ∧ wr.cell? ⟨bl, ol + j * 2 + 1, none⟩ = _ from ⟨keep_cell hbel (RL.out j hj).1, keep_cell hbel (RL.out j hj).2⟩))
    have HAW := Lib.hid (HA4.out.below hbel)
    clear hbel RL HA4
    by_cases h2 : c.length = 2
    · obtain ⟨t1, t2, t3, t4⟩ := TWO.out h2
      have GR := Lib.hid (garR_yes t3)
      have G0 := Lib.hid (fun W => Garment_any (c.getD 0 0) (c.getD 1 0) n W)
      rw [GR.out] at G0
      have G := G0
      clear G0
      have MV := Lib.hid (show midV c n = l by unfold midV; rw [if_pos t4, t2, t1])
      have MD := Lib.hid (fun W (hb : Below w.heap.size w W) => tMiddle_any (.slice (some ⟨b, off, none⟩) c.length cap) c n W (HV.out.below hb))
      unfold GivesM at MD
      rw [t4, MV.out] at MD
      have l0 := RW.out 0 (by rw [OL.out, h2]; omega)
      have l1 := RW.out 1 (by rw [OL.out, h2]; omega)
      rw [t1] at l0 l1
      simp only [twoL, red, List.getD_cons_zero, List.getD_cons_succ] at l0 l1
      rw [show ol + 0 * 2 = ol by omega] at l0
      rw [show ol + 1 * 2 = ol + 2 by omega] at l1
      have c0 := keep_cell HBX.out (HCC.out 0 (by omega))
      have c1 := keep_cell HBX.out (HCC.out 1 (by omega))
      rw [show off + 0 = off by omega] at c0
      generalize rn (garm (c.getD 0 0) (c.getD 1 0) n 1) 2 = p0 at *
      generalize rd (garm (c.getD 0 0) (c.getD 1 0) n 1) 2 = q0 at *
      generalize rn (garm (c.getD 1 0) (c.getD 0 0) n 1) 2 = p1 at *
      generalize rd (garm (c.getD 1 0) (c.getD 0 0) n 1) 2 = q1 at *
      generalize c.getD 0 0 = ca at *
      generalize c.getD 1 0 = cb at *
      have HL2 := Lib.hid h2
      have z0 : (0 : Int) < (c.length : Int) := by omega
      have z1 : (1 : Int) < (c.length : Int) := by omega
      have hl2 : ((c.length : Int) != 2) = false := by rw [bne_eq_false_iff_eq]; omega
      have r0 : ∀ W, KB wr W → W.cell? ⟨b, off, none⟩ = some (.int .i64 ca) := fun W h => keep_cell h c0
      have r1 : ∀ W, KB wr W → W.cell? ⟨b, off + 1, none⟩ = some (.int .i64 cb) := fun W h => keep_cell h c1
      clear t1 t2 t3 t4 GR TWO c0 c1 h2 C1 C2 S1 SAME ARA
      go_upto_region 17 with fail
      have z2 : (0 : Int) < (c.length : Int) := by omega
      have z3 : (1 : Int) < (c.length : Int) := by omega
      have z4 : 0 < c.length := by omega
      have z5 : 1 < c.length := by omega
      go_cut [8, 14, 15] (fun s8 s14 s15 wx => OldTwo wr p0 q0 p1 q1 s8 s14 s15 wx)
      case first =>
        go_region_held3 (fun W => KB wr W) (first | exact KB.drew (KB.refl _) | assumption | (unfold KB at *; repeat (first | assumption | exact Below.refl _ _ | refine Below.setCell ?_ (by first | omega | (simp; done) | (simp; omega)) _ | refine Below.drew ?_ | refine Below.alloc ?_ (by first | omega | (simp; done) | (simp; omega)) _))) (first
        | (go_at_call 17; refine (G.out wr.drew).mono ?_; rintro e w5 ⟨rfl, k5⟩; have q5 : KB wr w5 := KB.call (KB.drew (KB.refl _)) k5; have s5 : wr.heap.size ≤ w5.heap.size := k5.size; clear k5)
        | (go_at_call 17; refine (G.out (wr.alloc _).drew).mono ?_; rintro e w5 ⟨rfl, k5⟩; have q5 : KB wr w5 := KB.call (KB.drew (KB.alloc (KB.refl _) _)) k5; obtain ⟨⟨s5, s6, s7⟩, a00, a01, f00, f01⟩ := after1 k5; clear k5)
        | (go_at_call 17; refine (G.out ((wr.alloc _).alloc _).drew).mono ?_; rintro e w5 ⟨rfl, k5⟩; have q5 : KB wr w5 := KB.call (KB.drew (KB.alloc (KB.alloc (KB.refl _) _) _)) k5; obtain ⟨⟨s5, s6, s7, s8, s9, s10⟩, a00, a01, f00, f01, a10, a11, f10, f11⟩ := after2 k5; clear k5)
        | fail)
        all_goals (go_wp2_with fail; go_meet)
        all_goals (first
          | with_reducible exact two1 q5
          | with_reducible exact two2 q5
          | with_reducible exact two3 q5 a00 a01
          | with_reducible exact two5 q5 a00 a01
          | with_reducible exact two4 q5 a00 a01 a10 a11
          | with_reducible exact two6 q5 a00 a01 a10 a11
          | fail)
      case rest =>
        obtain ⟨g, h, rfl, rfl, rfl, ⟨g0, g1⟩, ⟨h0, h1⟩, hkb⟩ := hcut
        have HBC := Lib.hid (HBX.out.trans (Below.mono hkb HBX.out.size))
        have HAC := Lib.hid (HAW.out.below hkb)
        have x0 := keep_cell hkb l0.1
        have x1 := keep_cell hkb l0.2
        have y0 := keep_cell hkb l1.1
        have y1 := keep_cell hkb l1.2
        clear hkb l0 l1 r0 r1 G RW
        go_wp2_with fail
        refine (MD.out wc HBC.out).mono ?_
        rintro e w7 ⟨v7, rfl, hi7, hb7⟩
        have I7 := Lib.hid hi7
        have HB7 := Lib.hid (HBC.out.trans (hb7.mono HBC.out.size))
        have HA7 := Lib.hid (HAC.out.below hb7)
        have SR := Lib.hid (fun W (hW : KB w7 W) => (sameRats_any v7 (.slice (some ⟨bl, ol, none⟩) l.length cl) l W (I7.out.below hW) (HA7.out.below hW)).mono (R' := fun e w' => e = .returned (.bool true) ∧ KB w7 w') (fun e w' ⟨h5, h6⟩ => ⟨h5, KB.call hW h6⟩))
        rw [OL.out] at SR
        have SK := Lib.hid (fun W (hW : KB w7 W) => (SN.out W).mono (R' := fun e w' => e = .returned (.bool true) ∧ KB w7 w') (fun e w' ⟨h5, h6⟩ => ⟨h5, KB.call hW h6⟩))
        obtain ⟨a7, c7, rfl, _, _⟩ := hi7
        have s0 : ∀ W, KB w7 W → W.cell? ⟨g, 0, none⟩ = some (.int .i64 p0) := fun W h => keep_cell h (keep_cell hb7 g0)
        have s1 : ∀ W, KB w7 W → W.cell? ⟨g, 1, none⟩ = some (.int .i64 q0) := fun W h => keep_cell h (keep_cell hb7 g1)
        have s2 : ∀ W, KB w7 W → W.cell? ⟨h, 0, none⟩ = some (.int .i64 p1) := fun W hh => keep_cell hh (keep_cell hb7 h0)
        have s3 : ∀ W, KB w7 W → W.cell? ⟨h, 1, none⟩ = some (.int .i64 q1) := fun W hh => keep_cell hh (keep_cell hb7 h1)
        have s4 : ∀ W, KB w7 W → W.cell? ⟨bl, ol, none⟩ = some (.int .i64 p0) := fun W h => keep_cell h (keep_cell hb7 x0)
        have s5 : ∀ W, KB w7 W → W.cell? ⟨bl, ol + 1, none⟩ = some (.int .i64 q0) := fun W h => keep_cell h (keep_cell hb7 x1)
        have s6 : ∀ W, KB w7 W → W.cell? ⟨bl, ol + 2, none⟩ = some (.int .i64 p1) := fun W h => keep_cell h (keep_cell hb7 y0)
        have s7 : ∀ W, KB w7 W → W.cell? ⟨bl, ol + 2 + 1, none⟩ = some (.int .i64 q1) := fun W h => keep_cell h (keep_cell hb7 y1)
        clear g0 g1 h0 h1 x0 x1 y0 y1 hb7 MD HAC I7
        go_upto_region 19 with fail
        go_region_held3 (fun W => KB w7 W) (first | exact KB.drew (KB.refl _) | assumption | (apply KB.drew; assumption)) (first
          | (go_at_call 34; (with_reducible refine (SR.out _ ?_).mono ?_); (first | exact KB.drew (KB.refl _) | exact KB.refl _ | assumption | (apply KB.drew; assumption)); rintro e w8 ⟨rfl, k8⟩)
          | (go_at_call 19; (with_reducible refine (SK.out _ ?_).mono ?_); (first | exact KB.drew (KB.refl _) | exact KB.refl _ | assumption | (apply KB.drew; assumption)); rintro e w9 ⟨rfl, k9⟩)
          | fail)
        all_goals go_wp2
        all_goals go_ret
        all_goals exact ⟨rfl, HB7.out.trans (Below.mono k9 HB7.out.size)⟩
    · have hl2 : ((c.length : Int) != 2) = true := by rw [bne_iff_ne]; omega
      go_wp2_with (go_at_call 19; refine (SN.out _).mono ?_; rintro e w' ⟨rfl, hbS⟩)
      go_ret
      exact ⟨rfl, HBX.out.trans (hbS.mono HBX.out.size)⟩

end Go.Proofs.Ytaakefjblldccaa

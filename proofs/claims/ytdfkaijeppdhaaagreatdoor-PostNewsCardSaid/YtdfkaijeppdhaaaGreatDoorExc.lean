/- Texts of this claim, laid together: Exn, Exp. -/
import Derived.Test.YtdfkaijeppdhaaaGreatDoorEw

/- Contracts: Do of drop of none. -/
namespace Go.Proofs.YtdfkaijeppdhaaaGreatDoor
open Go.RowKit Go.Shelf

set_option maxRecDepth 100000 in
set_option maxHeartbeats 8000000 in
theorem do_drop_none (P n : Nat) (hn : n < 4) (F : List Nat) (b : Book) (line : ByteArray) (hs : line.size ≤ 1000000) (w : World) (h : PostAt w P F n b) (hok : BookOk b) (hV : Vars w) (hfree : ∀ k ∈ F, ¬ isVar k) (nm : ByteArray) (hc : parseB line = some (.drop nm)) (htx : (saysB (allB b)).txt nm = none) :
    Calls Tryz.prog 24 #[.pointer (some ⟨P, 0, none⟩), .string line] w (DoPost P n F (doB b n line) w) := by
  have hd : (Cmd.drop nm).deed = true := rfl
  have HTX := Lib.hid htx
  clear htx
  have HP := Lib.hid h
  obtain ⟨K, G, hP, hB, hF⟩ := id h
  have HN := Lib.hid (none_any P K n _ w hP)
  have HA := Lib.hid (parse_any line hs w hV)
  have HDC := Lib.hid (And.intro hc hd)
  have HOK := Lib.hid hok
  have HPC := Lib.hid hP
  obtain ⟨vs, hvs, hG⟩ := bookIs_of hB
  have HVS := Lib.hid hvs
  have HFG := Lib.hid (And.intro hF hG)
  have HVR := Lib.hid hV
  have HFREE := Lib.hid hfree
  obtain ⟨la, lc, hl⟩ := hvs.slice hn
  have hlen := (hok n hn).len
  have hcnt := cntB_le hok
  clear h hP hB hF hG hV hd hc hok hvs hfree
  obtain ⟨R, hR⟩ : ∃ R, R = doB b n line := ⟨_, rfl⟩
  have HR := Lib.hid hR
  rw [← hR]
  clear hR
  go_enter Tryz.func24, Tryz.ntmps24
  go_wp2_with fail
  refine HN.out.mono ?_
  rintro e w1 ⟨rfl, rfl⟩
  go_wp2_with fail
  refine HA.out.mono ?_
  rintro e w1 ⟨⟨pv, rfl, hpv⟩, hb1⟩
  have hta := assert_deed hpv w1
  rw [HDC.out.1] at hta hpv
  have HPV := Lib.hid hpv
  rw [show Cmd.deedO (some (.drop nm)) = true from HDC.out.2] at hta
  unfold ifV at hta
  simp only [if_true] at hta
  have HB1 := Lib.hid hb1
  have HP1 := Lib.hid ((hb1.block P (Array.getElem?_eq_some_iff.1 HPC.out).1).trans HPC.out)
  have HS1 := Lib.hid (HVS.out.below hb1)
  have HV1 := Lib.hid (HVR.out.below hb1)
  clear hpv hb1
  go_wp2
  have HCT := Lib.hid (fun W (hW : KB w1 W) => count_any K _ b W (HS1.out.at.keep (fun k hk => hW.block k (by
    rcases hk with rfl | hk
    · exact HS1.out.lt
    · exact HS1.out.at.lt hk))) (fun i hi => (HOK.out i hi).len))
  have r0 : ∀ W, KB w1 W → W.cell? ⟨P, 0, none⟩ = some (.pointer (some ⟨K, 0, none⟩)) := fun W hW => keep_cell hW (heap_cell HP1.out rfl)
  have r1 : ∀ W, KB w1 W → W.cell? ⟨P, 1, none⟩ = some (.int .i64 (n : Int)) := fun W hW => keep_cell hW (heap_cell HP1.out rfl)
  have r2 : ∀ W, KB w1 W → W.cell? ⟨K, n, none⟩ = some (.slice la (b n).length lc) := fun W hW => by rw [← hl]; exact keep_cell hW (HS1.out.cell hn)
  have HL := Lib.hid hl
  clear hl
  generalize hbl : (b n).length = bl at *
  have HBL := Lib.hid hbl
  clear hbl
  generalize hct : cntB b = ct at *
  have HCTE := Lib.hid hct
  clear hct
  have i1 : (0 : Int) ≤ (n : Int) := by omega
  have i2 : (n : Int) < 4 := by omega
  have v1 : IntKind.i64.wrap ((bl : Int) + 1) = (bl : Int) + 1 := IntWalk.i64_in _ (by omega)
  have v2 : IntKind.i64.wrap (ct + 1) = ct + 1 := IntWalk.i64_in _ (by omega)
  go_region_held3 (fun W => KB w1 W) (first | exact KB.drew (KB.refl _) | assumption | (unfold KB at *; repeat (first | assumption | exact Below.refl _ _ | refine Below.setCell ?_ (by first | omega | (simp; done) | (simp; omega)) _ | refine Below.drew ?_ | refine Below.alloc ?_ (by first | omega | (simp; done) | (simp; omega)) _)) | fail) (first
    | (go_at_call 53; refine (HCT.out _ (by first | exact KB.drew (KB.refl _) | assumption | (unfold KB; exact (Below.refl _ _).alloc (Nat.le_refl _) _) | (unfold KB; exact ((Below.refl _ _).alloc (Nat.le_refl _) _).drew))).mono ?_; rintro e w2 ⟨rfl, rfl⟩)
    | fail)
  all_goals (
    obtain ⟨W2, hW2⟩ : ∃ W2, W2 = (w1.alloc (.cells #[.int .i64 (n : Int), .int .i64 ((bl : Int) + 1), .int .i64 (ct + 1), .string line] 43)).drew := ⟨_, rfl⟩
    rw [← hW2]
    have HB2 : Hid (Below w1.heap.size w1 W2) := Lib.hid (by rw [hW2]; exact ((Below.refl _ _).alloc (Nat.le_refl _) _).drew)
    have HE2 : Hid (W2.heap[w1.heap.size]? = some (.cells #[.int .i64 (n : Int), .int .i64 ((bl : Int) + 1), .int .i64 (ct + 1), .string line] 43 (0, 0))) := Lib.hid (by rw [hW2]; exact World.alloc_heap_new w1 _)
    have HS2 := Lib.hid (HS1.out.below HB2.out)
    have HP2 := Lib.hid ((HB2.out.block P (Array.getElem?_eq_some_iff.1 HP1.out).1).trans HP1.out)
    clear hW2 r0 r1 r2
    obtain ⟨a0, k0, hq0⟩ := HS2.out.slice (p := 0) (by omega)
    obtain ⟨a1, k1, hq1⟩ := HS2.out.slice (p := 1) (by omega)
    obtain ⟨a2, k2, hq2⟩ := HS2.out.slice (p := 2) (by omega)
    obtain ⟨a3, k3, hq3⟩ := HS2.out.slice (p := 3) (by omega)
    have x0 := HS2.out.cell (i := 0) (by omega)
    have x1 := HS2.out.cell (i := 1) (by omega)
    have x2 := HS2.out.cell (i := 2) (by omega)
    have x3 := HS2.out.cell (i := 3) (by omega)
    rw [hq0] at x0
    rw [hq1] at x1
    rw [hq2] at x2
    rw [hq3] at x3
    have HQ := Lib.hid (And.intro hq0 (And.intro hq1 (And.intro hq2 hq3)))
    clear hq0 hq1 hq2 hq3
    have y0 := heap_cell (j := 0) HP2.out rfl
    obtain ⟨o3, ho3⟩ : ∃ o3 : Obj, o3 = .cells #[.slice a0 (b 0).length k0, .slice a1 (b 1).length k1, .slice a2 (b 2).length k2, .slice a3 (b 3).length k3] 96 := ⟨_, rfl⟩
    have hb3 : Below W2.heap.size W2 (W2.alloc o3) := (Below.refl _ _).alloc (Nat.le_refl _) _
    have e0 := keep_cell hb3 (heap_cell (j := 0) HE2.out rfl)
    have e1 := keep_cell hb3 (heap_cell (j := 1) HE2.out rfl)
    have e2 := keep_cell hb3 (heap_cell (j := 2) HE2.out rfl)
    have e3 := keep_cell hb3 (heap_cell (j := 3) HE2.out rfl)
    have HB3 := Lib.hid hb3
    clear hb3
    rw [ho3] at e0 e1 e2 e3
    have HO3 := Lib.hid ho3
    clear ho3
    go_wp2_with fail
    rw [← HO3.out]
    have HS3 : Hid (BookIs (W2.alloc o3) W2.heap.size vs b) := Lib.hid ⟨by
      have := World.alloc_heap_new W2 o3
      rw [this, HO3.out, HQ.out.1, HQ.out.2.1, HQ.out.2.2.1, HQ.out.2.2.2], fun i hi => (HS2.out.list i hi).keep fun k hk => HB3.out.block k ((HS2.out.list i hi).lt hk), HS2.out.apart⟩
    have HS3K := Lib.hid (HS2.out.below HB3.out)
    have HP3 := Lib.hid ((HB3.out.block P (Array.getElem?_eq_some_iff.1 HP2.out).1).trans HP2.out)
    have HAD := Lib.hid (addB_any W2.heap.size vs b (newE b n line) (W2.alloc o3) HS3.out HOK.out)
    have HEV : Hid (entV (newE b n line) = .agg #[.int .i64 (n : Int), .int .i64 ((bl : Int) + 1), .int .i64 (ct + 1), .string line]) := Lib.hid (by rw [← HBL.out, ← HCTE.out]; rfl)
    rw [HEV.out] at HAD
    have HB13 := Lib.hid (below_trans HB1.out (below_trans HB2.out HB3.out))
    clear e0 e1 e2 e3 x0 x1 x2 x3 y0
    have HFN := Lib.hid (follows_new HOK.out hn (deed_line HDC.out.1 HDC.out.2))
    rw [HBL.out, HCTE.out] at HFN
    cases hfo : follows b (newE b n line) with
    | false =>
      have HRX : Hid (R = (emp, 4, b)) := Lib.hid (by
        rw [HR.out]
        unfold doB
        rw [HDC.out.1]
        simp only
        rw [if_neg (by rw [HDC.out.2]; decide), if_pos]
        rw [HBL.out, HCTE.out]
        have h9 : ¬ (bl < 60 ∧ ct < 1000000) := fun h => by rw [HFN.out.2 h] at hfo; cases hfo
        omega)
      rw [hfo] at HAD
      simp only [Bool.false_eq_true, if_false] at HAD
      clear hfo
      refine HAD.out.mono ?_
      rintro e w4 ⟨rfl, hb4⟩
      have HB4 := Lib.hid hb4
      clear hb4
      go_wp2
      go_ret2
      rw [HRX.out]
      have hB := HB13.out.trans (HB4.out.mono HB13.out.size)
      exact ⟨rfl, F, HP.out.below hB, newOr_refl _ _, Off.of_below hB⟩
    | true =>
      rw [hfo] at HAD
      simp only [if_true] at HAD
      have hlim := HFN.out.1 hfo
      have HLIM := Lib.hid hlim
      clear hfo hlim
      refine HAD.out.mono ?_
      rintro e w4 ⟨rfl, v', hadd⟩
      have HADD := Lib.hid hadd
      clear hadd
      have HNX : Hid (∀ k, (vs n).ownBlock = some k → k ≠ K ∧ k ≠ P ∧ ¬ isVar k) := Lib.hid (fun k hk => by
        refine ⟨HVS.out.ne hn hk, fun e => ?_, ?_⟩
        · subst e
          rcases (HVS.out.list n hn).2 with ⟨h1, _⟩ | ⟨g', cap', cur, h1, _, h2, _⟩
          · rw [h1] at hk; cases hk
          · rw [h1] at hk
            have : g' = k := by simpa [Value.ownBlock] using hk
            subst this
            rw [HPC.out] at h2
            simp at h2
        · refine HFREE.out k ?_
          rw [HFG.out.1, HFG.out.2]
          simp only [List.mem_cons]
          exact .inr (.inr (mem_blks.2 ⟨n, hn, hk⟩)))
      have HSZ : Hid (W2.heap.size < (W2.alloc o3).heap.size) := Lib.hid (by rw [World.size_alloc]; omega)
      have HEP : Hid ((ePost (newE b n line)).toNat = n) := Lib.hid (Int.toNat_natCast n)
      have HBK : Hid (∀ k, k < W2.heap.size → (vs n).ownBlock ≠ some k → w4.heap[k]? = (W2.alloc o3).heap[k]?) := Lib.hid (fun k hk h9 => HADD.out.block k (by have := HSZ.out; omega) (by omega) (by rw [HEP.out]; exact h9))
      have HS4 : Hid (BookIs w4 K vs b) := Lib.hid ⟨(HBK.out K HS2.out.lt (fun e => (HNX.out K e).1 rfl)).trans HS3K.out.cells, HADD.out.old, HS2.out.apart⟩
      have HP4 := Lib.hid ((HBK.out P (Array.getElem?_eq_some_iff.1 HP2.out).1 (fun e => (HNX.out P e).2.1 rfl)).trans HP3.out)
      have HV4 : Hid (Vars w4) := Lib.hid ((HV1.out.below (below_trans HB2.out HB3.out)).keep fun k hk => HBK.out k (by have h8 := (HV1.out.below HB2.out).lt hk; exact h8) (fun e => (HNX.out k e).2.2 hk))
      have r4 : ∀ W, KB w4 W → W.cell? ⟨P, 0, none⟩ = some (.pointer (some ⟨K, 0, none⟩)) := fun W hW => keep_cell hW (heap_cell HP4.out rfl)
      have HALL := Lib.hid (fun W (hW : KB w4 W) => all_any K _ b W (HS4.out.below hW).at HOK.out)
      have HENT : Hid (∀ e ∈ allB b, (eLine e).size ≤ 60) := Lib.hid (fun e he => ((isLineB_iff _).1 (by rw [← lineB_is]; exact (book_bounds HOK.out he).2.2.2)).1)
      have HLEN : Hid ((allB b).length ≤ 1000) := Lib.hid (by rw [allB_len]; have := lenB_le HOK.out; omega)
      have HSTK := Lib.hid (stk_says (allB b) HLEN.out)
      clear hta
      go_wp2
      obtain rfl : pv = _ := HPV.out
      have hme : ∀ w, (method 462 138 (.agg #[.string nm]) "skimmer/post.say").run Tryz.prog w = .ok (285, .agg #[.string nm]) w := fun w => method_drop _ w
      have hah : ∀ w, (nilAhead 462 138 (.agg #[.string nm]) "skimmer/post.say").run Tryz.prog w = .ok (some false) w := fun w => ahead_drop _ w
      have HNM := Lib.hid ((Cmd.names_small HDC.out.1).2.1 nm rfl)
      have HPF : Hid (∀ W, KB w4 W → W.cell? ⟨P, 0, none⟩ = some (.pointer (some ⟨K, 0, none⟩)) ∧ W.frozen? ⟨P, 0, none⟩ = false) := Lib.hid (fun W hW => ⟨keep_cell hW (heap_cell HP4.out rfl), by have h9 := (hW.block P (Array.getElem?_eq_some_iff.1 HP4.out).1).trans HP4.out; simp [World.frozen?, h9]⟩)
      have HRX : Hid (R = (emp, 5, b)) := Lib.hid (by
        rw [HR.out]
        unfold doB
        rw [HDC.out.1]
        simp only
        rw [if_neg (by rw [HDC.out.2]; decide), if_neg (by rw [HBL.out, HCTE.out]; have := HLIM.out; omega)]
        simp only [sayB, HTX.out]
        rfl)
      go_region_held3 (fun W => KB w4 W) (first | exact KB.refl _ | exact KB.drew (KB.refl _) | assumption | exact KB.drew (by assumption) | fail) (first
        | (go_at_call 57; refine (HALL.out _ (by first | exact KB.refl _ | exact KB.drew (KB.refl _) | assumption)).mono ?_; rintro e w5 ⟨v5, rfl, hl5, ho5, hb5⟩; have q5 : KB w4 w5 := KB.call (KB.drew (KB.refl _)) hb5; have HSY := Lib.hid (says_any v5 (allB b) w5 (hl5.ents (by have := HLEN.out; omega)) HLEN.out HENT.out (HV4.out.below q5)); clear hl5 ho5 hb5)
        | (go_at_call 56; refine HSY.out.mono ?_; rintro e w6 ⟨ka, kb, rfl, hk6, hka, hkb, hb6⟩; have q6 : KB w4 w6 := KB.call q5 hb6; have HK6 := Lib.hid hk6; have HKA := Lib.hid (And.intro (Nat.le_trans q5.size hka) (Nat.le_trans q5.size hkb)); have HV6 := Lib.hid (HV4.out.below q6); clear hk6 hka hkb hb6)
        | (go_at_call 285; refine (drop_say ka kb _ _ nm (by have := HNM.out; omega) HLEN.out _ HK6.out).mono ?_; rintro e w7 ⟨he7, hk7, ho7⟩; obtain rfl : e = .returned (.tuple #[.string ⟨#[]⟩, .int .i64 5]) := (by rw [he7]; simp only [sayB, HTX.out]; rfl); have q7 : KB w4 w7 := off_below q6 q6.size ho7 (by have := HKA.out; simp; omega); have c7 := (HPF.out _ q7).1; have f7 := (HPF.out _ q7).2; clear hk7 ho7)
        | fail)
      all_goals go_wp2
      all_goals go_ret2
      all_goals (
        rw [HRX.out]
        exact ⟨rfl, F, do_keep (HFG.out.1.trans (by rw [HFG.out.2])) HS4.out HP4.out q7, newOr_refl _ _, do_off HB13.out (by have h9 := HADD.out; rw [HEP.out] at h9; exact h9) (fun k hk => by rw [HFG.out.1, HFG.out.2]; simp only [List.mem_cons]; exact .inr (.inr (mem_blks.2 ⟨n, hn, hk⟩))) (Nat.le_trans HB1.out.size HB2.out.size) q7⟩))
end Go.Proofs.YtdfkaijeppdhaaaGreatDoor

/- Contracts: Do of put. -/
namespace Go.Proofs.YtdfkaijeppdhaaaGreatDoor
open Go.RowKit Go.Shelf

set_option maxRecDepth 100000 in
set_option maxHeartbeats 8000000 in
theorem do_put (P n : Nat) (hn : n < 4) (F : List Nat) (b : Book) (line : ByteArray) (hs : line.size ≤ 1000000) (w : World) (h : PostAt w P F n b) (hok : BookOk b) (hV : Vars w) (hfree : ∀ k ∈ F, ¬ isVar k) (nm tx : ByteArray) (hc : parseB line = some (.put nm tx)) :
    Calls Tryz.prog 24 #[.pointer (some ⟨P, 0, none⟩), .string line] w (DoPost P n F (doB b n line) w) := by
  have hd : (Cmd.put nm tx).deed = true := rfl
  have HP := Lib.hid h
  obtain ⟨K, G, hP, hB, hF⟩ := id h
  have HN := Lib.hid (none_any P K n _ w hP)
  have HA := Lib.hid (parse_any line hs w hV)
  have HDC := Lib.hid (And.intro hc hd)
  have HOK := Lib.hid hok
  have HPC := Lib.hid hP
  obtain ⟨vs, hvs, hG⟩ := bookIs_of hB
  have HVS := Lib.hid hvs
  have HFG := Lib.hid (And.intro hF hG)
  have HVR := Lib.hid hV
  have HFREE := Lib.hid hfree
  obtain ⟨la, lc, hl⟩ := hvs.slice hn
  have hlen := (hok n hn).len
  have hcnt := cntB_le hok
  clear h hP hB hF hG hV hd hc hok hvs hfree
  obtain ⟨R, hR⟩ : ∃ R, R = doB b n line := ⟨_, rfl⟩
  have HR := Lib.hid hR
  rw [← hR]
  clear hR
  go_enter Tryz.func24, Tryz.ntmps24
  go_wp2_with fail
  refine HN.out.mono ?_
  rintro e w1 ⟨rfl, rfl⟩
  go_wp2_with fail
  refine HA.out.mono ?_
  rintro e w1 ⟨⟨pv, rfl, hpv⟩, hb1⟩
  have hta := assert_deed hpv w1
  rw [HDC.out.1] at hta hpv
  have HPV := Lib.hid hpv
  rw [show Cmd.deedO (some (.put nm tx)) = true from HDC.out.2] at hta
  unfold ifV at hta
  simp only [if_true] at hta
  have HB1 := Lib.hid hb1
  have HP1 := Lib.hid ((hb1.block P (Array.getElem?_eq_some_iff.1 HPC.out).1).trans HPC.out)
  have HS1 := Lib.hid (HVS.out.below hb1)
  have HV1 := Lib.hid (HVR.out.below hb1)
  clear hpv hb1
  go_wp2
  have HCT := Lib.hid (fun W (hW : KB w1 W) => count_any K _ b W (HS1.out.at.keep (fun k hk => hW.block k (by
    rcases hk with rfl | hk
    · exact HS1.out.lt
    · exact HS1.out.at.lt hk))) (fun i hi => (HOK.out i hi).len))
  have r0 : ∀ W, KB w1 W → W.cell? ⟨P, 0, none⟩ = some (.pointer (some ⟨K, 0, none⟩)) := fun W hW => keep_cell hW (heap_cell HP1.out rfl)
  have r1 : ∀ W, KB w1 W → W.cell? ⟨P, 1, none⟩ = some (.int .i64 (n : Int)) := fun W hW => keep_cell hW (heap_cell HP1.out rfl)
  have r2 : ∀ W, KB w1 W → W.cell? ⟨K, n, none⟩ = some (.slice la (b n).length lc) := fun W hW => by rw [← hl]; exact keep_cell hW (HS1.out.cell hn)
  have HL := Lib.hid hl
  clear hl
  generalize hbl : (b n).length = bl at *
  have HBL := Lib.hid hbl
  clear hbl
  generalize hct : cntB b = ct at *
  have HCTE := Lib.hid hct
  clear hct
  have i1 : (0 : Int) ≤ (n : Int) := by omega
  have i2 : (n : Int) < 4 := by omega
  have v1 : IntKind.i64.wrap ((bl : Int) + 1) = (bl : Int) + 1 := IntWalk.i64_in _ (by omega)
  have v2 : IntKind.i64.wrap (ct + 1) = ct + 1 := IntWalk.i64_in _ (by omega)
  go_region_held3 (fun W => KB w1 W) (first | exact KB.drew (KB.refl _) | assumption | (unfold KB at *; repeat (first | assumption | exact Below.refl _ _ | refine Below.setCell ?_ (by first | omega | (simp; done) | (simp; omega)) _ | refine Below.drew ?_ | refine Below.alloc ?_ (by first | omega | (simp; done) | (simp; omega)) _)) | fail) (first
    | (go_at_call 53; refine (HCT.out _ (by first | exact KB.drew (KB.refl _) | assumption | (unfold KB; exact (Below.refl _ _).alloc (Nat.le_refl _) _) | (unfold KB; exact ((Below.refl _ _).alloc (Nat.le_refl _) _).drew))).mono ?_; rintro e w2 ⟨rfl, rfl⟩)
    | fail)
  all_goals (
    obtain ⟨W2, hW2⟩ : ∃ W2, W2 = (w1.alloc (.cells #[.int .i64 (n : Int), .int .i64 ((bl : Int) + 1), .int .i64 (ct + 1), .string line] 43)).drew := ⟨_, rfl⟩
    rw [← hW2]
    have HB2 : Hid (Below w1.heap.size w1 W2) := Lib.hid (by rw [hW2]; exact ((Below.refl _ _).alloc (Nat.le_refl _) _).drew)
    have HE2 : Hid (W2.heap[w1.heap.size]? = some (.cells #[.int .i64 (n : Int), .int .i64 ((bl : Int) + 1), .int .i64 (ct + 1), .string line] 43 (0, 0))) := Lib.hid (by rw [hW2]; exact World.alloc_heap_new w1 _)
    have HS2 := Lib.hid (HS1.out.below HB2.out)
    have HP2 := Lib.hid ((HB2.out.block P (Array.getElem?_eq_some_iff.1 HP1.out).1).trans HP1.out)
    clear hW2 r0 r1 r2
    obtain ⟨a0, k0, hq0⟩ := HS2.out.slice (p := 0) (by omega)
    obtain ⟨a1, k1, hq1⟩ := HS2.out.slice (p := 1) (by omega)
    obtain ⟨a2, k2, hq2⟩ := HS2.out.slice (p := 2) (by omega)
    obtain ⟨a3, k3, hq3⟩ := HS2.out.slice (p := 3) (by omega)
    have x0 := HS2.out.cell (i := 0) (by omega)
    have x1 := HS2.out.cell (i := 1) (by omega)
    have x2 := HS2.out.cell (i := 2) (by omega)
    have x3 := HS2.out.cell (i := 3) (by omega)
    rw [hq0] at x0
    rw [hq1] at x1
    rw [hq2] at x2
    rw [hq3] at x3
    have HQ := Lib.hid (And.intro hq0 (And.intro hq1 (And.intro hq2 hq3)))
    clear hq0 hq1 hq2 hq3
    have y0 := heap_cell (j := 0) HP2.out rfl
    obtain ⟨o3, ho3⟩ : ∃ o3 : Obj, o3 = .cells #[.slice a0 (b 0).length k0, .slice a1 (b 1).length k1, .slice a2 (b 2).length k2, .slice a3 (b 3).length k3] 96 := ⟨_, rfl⟩
    have hb3 : Below W2.heap.size W2 (W2.alloc o3) := (Below.refl _ _).alloc (Nat.le_refl _) _
    have e0 := keep_cell hb3 (heap_cell (j := 0) HE2.out rfl)
    have e1 := keep_cell hb3 (heap_cell (j := 1) HE2.out rfl)
    have e2 := keep_cell hb3 (heap_cell (j := 2) HE2.out rfl)
    have e3 := keep_cell hb3 (heap_cell (j := 3) HE2.out rfl)
    have HB3 := Lib.hid hb3
    clear hb3
    rw [ho3] at e0 e1 e2 e3
    have HO3 := Lib.hid ho3
    clear ho3
    go_wp2_with fail
    rw [← HO3.out]
    have HS3 : Hid (BookIs (W2.alloc o3) W2.heap.size vs b) := Lib.hid ⟨by
      have := World.alloc_heap_new W2 o3
      rw [this, HO3.out, HQ.out.1, HQ.out.2.1, HQ.out.2.2.1, HQ.out.2.2.2], fun i hi => (HS2.out.list i hi).keep fun k hk => HB3.out.block k ((HS2.out.list i hi).lt hk), HS2.out.apart⟩
    have HS3K := Lib.hid (HS2.out.below HB3.out)
    have HP3 := Lib.hid ((HB3.out.block P (Array.getElem?_eq_some_iff.1 HP2.out).1).trans HP2.out)
    have HAD := Lib.hid (addB_any W2.heap.size vs b (newE b n line) (W2.alloc o3) HS3.out HOK.out)
    have HEV : Hid (entV (newE b n line) = .agg #[.int .i64 (n : Int), .int .i64 ((bl : Int) + 1), .int .i64 (ct + 1), .string line]) := Lib.hid (by rw [← HBL.out, ← HCTE.out]; rfl)
    rw [HEV.out] at HAD
    have HB13 := Lib.hid (below_trans HB1.out (below_trans HB2.out HB3.out))
    clear e0 e1 e2 e3 x0 x1 x2 x3 y0
    have HFN := Lib.hid (follows_new HOK.out hn (deed_line HDC.out.1 HDC.out.2))
    rw [HBL.out, HCTE.out] at HFN
    cases hfo : follows b (newE b n line) with
    | false =>
      have HRX : Hid (R = (emp, 4, b)) := Lib.hid (by
        rw [HR.out]
        unfold doB
        rw [HDC.out.1]
        simp only
        rw [if_neg (by rw [HDC.out.2]; decide), if_pos]
        rw [HBL.out, HCTE.out]
        have h9 : ¬ (bl < 60 ∧ ct < 1000000) := fun h => by rw [HFN.out.2 h] at hfo; cases hfo
        omega)
      rw [hfo] at HAD
      simp only [Bool.false_eq_true, if_false] at HAD
      clear hfo
      refine HAD.out.mono ?_
      rintro e w4 ⟨rfl, hb4⟩
      have HB4 := Lib.hid hb4
      clear hb4
      go_wp2
      go_ret2
      rw [HRX.out]
      have hB := HB13.out.trans (HB4.out.mono HB13.out.size)
      exact ⟨rfl, F, HP.out.below hB, newOr_refl _ _, Off.of_below hB⟩
    | true =>
      rw [hfo] at HAD
      simp only [if_true] at HAD
      have hlim := HFN.out.1 hfo
      have HLIM := Lib.hid hlim
      clear hfo hlim
      refine HAD.out.mono ?_
      rintro e w4 ⟨rfl, v', hadd⟩
      have HADD := Lib.hid hadd
      clear hadd
      have HNX : Hid (∀ k, (vs n).ownBlock = some k → k ≠ K ∧ k ≠ P ∧ ¬ isVar k) := Lib.hid (fun k hk => by
        refine ⟨HVS.out.ne hn hk, fun e => ?_, ?_⟩
        · subst e
          rcases (HVS.out.list n hn).2 with ⟨h1, _⟩ | ⟨g', cap', cur, h1, _, h2, _⟩
          · rw [h1] at hk; cases hk
          · rw [h1] at hk
            have : g' = k := by simpa [Value.ownBlock] using hk
            subst this
            rw [HPC.out] at h2
            simp at h2
        · refine HFREE.out k ?_
          rw [HFG.out.1, HFG.out.2]
          simp only [List.mem_cons]
          exact .inr (.inr (mem_blks.2 ⟨n, hn, hk⟩)))
      have HSZ : Hid (W2.heap.size < (W2.alloc o3).heap.size) := Lib.hid (by rw [World.size_alloc]; omega)
      have HEP : Hid ((ePost (newE b n line)).toNat = n) := Lib.hid (Int.toNat_natCast n)
      have HBK : Hid (∀ k, k < W2.heap.size → (vs n).ownBlock ≠ some k → w4.heap[k]? = (W2.alloc o3).heap[k]?) := Lib.hid (fun k hk h9 => HADD.out.block k (by have := HSZ.out; omega) (by omega) (by rw [HEP.out]; exact h9))
      have HS4 : Hid (BookIs w4 K vs b) := Lib.hid ⟨(HBK.out K HS2.out.lt (fun e => (HNX.out K e).1 rfl)).trans HS3K.out.cells, HADD.out.old, HS2.out.apart⟩
      have HP4 := Lib.hid ((HBK.out P (Array.getElem?_eq_some_iff.1 HP2.out).1 (fun e => (HNX.out P e).2.1 rfl)).trans HP3.out)
      have HV4 : Hid (Vars w4) := Lib.hid ((HV1.out.below (below_trans HB2.out HB3.out)).keep fun k hk => HBK.out k (by have h8 := (HV1.out.below HB2.out).lt hk; exact h8) (fun e => (HNX.out k e).2.2 hk))
      have r4 : ∀ W, KB w4 W → W.cell? ⟨P, 0, none⟩ = some (.pointer (some ⟨K, 0, none⟩)) := fun W hW => keep_cell hW (heap_cell HP4.out rfl)
      have HALL := Lib.hid (fun W (hW : KB w4 W) => all_any K _ b W (HS4.out.below hW).at HOK.out)
      have HENT : Hid (∀ e ∈ allB b, (eLine e).size ≤ 60) := Lib.hid (fun e he => ((isLineB_iff _).1 (by rw [← lineB_is]; exact (book_bounds HOK.out he).2.2.2)).1)
      have HLEN : Hid ((allB b).length ≤ 1000) := Lib.hid (by rw [allB_len]; have := lenB_le HOK.out; omega)
      have HSTK := Lib.hid (stk_says (allB b) HLEN.out)
      clear hta
      go_wp2
      obtain rfl : pv = _ := HPV.out
      have hme : ∀ w, (method 462 136 (.agg #[.string nm, .string tx]) "skimmer/post.say").run Tryz.prog w = .ok (284, .agg #[.string nm, .string tx]) w := fun w => method_put _ w
      have hah : ∀ w, (nilAhead 462 136 (.agg #[.string nm, .string tx]) "skimmer/post.say").run Tryz.prog w = .ok (some false) w := fun w => ahead_put _ w
      have HNM := Lib.hid ((Cmd.names_small HDC.out.1).1 nm tx rfl)
      have HPF : Hid (∀ W, KB w4 W → W.cell? ⟨P, 0, none⟩ = some (.pointer (some ⟨K, 0, none⟩)) ∧ W.frozen? ⟨P, 0, none⟩ = false) := Lib.hid (fun W hW => ⟨keep_cell hW (heap_cell HP4.out rfl), by have h9 := (hW.block P (Array.getElem?_eq_some_iff.1 HP4.out).1).trans HP4.out; simp [World.frozen?, h9]⟩)
      have HRX : Hid (R = (tx, 0, addAt b n (newE b n line))) := Lib.hid (by
        rw [HR.out]
        unfold doB
        rw [HDC.out.1]
        simp only
        rw [if_neg (by rw [HDC.out.2]; decide), if_neg (by rw [HBL.out, HCTE.out]; have := HLIM.out; omega)]
        rfl)
      go_region_held3 (fun W => KB w4 W) (first | exact KB.refl _ | exact KB.drew (KB.refl _) | assumption | exact KB.drew (by assumption) | fail) (first
        | (go_at_call 57; refine (HALL.out _ (by first | exact KB.refl _ | exact KB.drew (KB.refl _) | assumption)).mono ?_; rintro e w5 ⟨v5, rfl, hl5, ho5, hb5⟩; have q5 : KB w4 w5 := KB.call (KB.drew (KB.refl _)) hb5; have HSY := Lib.hid (says_any v5 (allB b) w5 (hl5.ents (by have := HLEN.out; omega)) HLEN.out HENT.out (HV4.out.below q5)); clear hl5 ho5 hb5)
        | (go_at_call 56; refine HSY.out.mono ?_; rintro e w6 ⟨ka, kb, rfl, hk6, hka, hkb, hb6⟩; have q6 : KB w4 w6 := KB.call q5 hb6; have HK6 := Lib.hid hk6; have HKA := Lib.hid (And.intro (Nat.le_trans q5.size hka) (Nat.le_trans q5.size hkb)); have HV6 := Lib.hid (HV4.out.below q6); clear hk6 hka hkb hb6)
        | (go_at_call 284; refine (put_say ka kb _ _ nm tx (by have := HNM.out; omega) HLEN.out _ HK6.out).mono ?_; rintro e w7 ⟨he7, hk7, ho7⟩; obtain rfl : e = .returned (.tuple #[.string tx, .int .i64 0]) := he7; have q7 : KB w4 w7 := off_below q6 q6.size ho7 (by have := HKA.out; simp; omega); have c7 := (HPF.out _ q7).1; have f7 := (HPF.out _ q7).2; clear hk7 ho7)
        | fail)
      all_goals go_wp2
      all_goals go_ret2
      all_goals (
        rw [HRX.out]
        obtain ⟨F', h1, h2, h3⟩ := do_new (P := P) hn HB13.out (by have h9 := HADD.out; rw [HEP.out] at h9; exact h9) (HFG.out.1.trans (by rw [HFG.out.2])) (Nat.le_trans HB1.out.size HB2.out.size) HSZ.out q7 HVS.out HPC.out
        exact ⟨rfl, F', h1, h2, h3⟩))
end Go.Proofs.YtdfkaijeppdhaaaGreatDoor

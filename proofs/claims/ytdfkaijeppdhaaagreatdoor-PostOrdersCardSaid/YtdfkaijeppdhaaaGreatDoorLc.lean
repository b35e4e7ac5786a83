/- The law PostCopies. -/
import Derived.Test.YtdfkaijeppdhaaaGreatDoorLb
namespace Go.Proofs.YtdfkaijeppdhaaaGreatDoor
open Go.RowKit Go.Shelf

def otherL : ByteArray := ⟨#[112, 117, 116, 32, 111, 116, 104, 101, 114, 32, 120]⟩
theorem other_parse : parseB otherL = some (.put ⟨#[111, 116, 104, 101, 114]⟩ ⟨#[120]⟩) := by kernel_rfl
theorem do_other {b : Book} {n : Nat} (h1 : (b n).length < 60) (h2 : cntB b < 1000000) : (doB b n otherL).2.2 = addAt b n (newE b n otherL) := by
  unfold doB
  rw [other_parse]
  simp only [Cmd.deed, sayB]
  rw [if_neg (by decide), if_neg (by omega), if_pos trivial]
theorem doB_len {b : Book} {n : Nat} (hn : n < 4) (line : ByteArray) : lenB b ≤ lenB (doB b n line).2.2 := by
  rcases doB_cases b n line with e | e
  · rw [e]; exact Nat.le_refl _
  · rw [e, addAt_len b hn]; omega
theorem doB_own {b : Book} (hb : BookOk b) {n : Nat} (hn : n < 4) (line : ByteArray) : ((doB b n line).2.2 n).length ≤ (b n).length + 1 ∧ cntB (doB b n line).2.2 ≤ cntB b + 1 := by
  rcases doB_cases b n line with e | e
  · rw [e]; omega
  · rw [e, cntB_add hb hn]
    refine ⟨?_, by omega⟩
    unfold addAt
    rw [setB_same]; simp
theorem copy_differs {b : Book} (hb : BookOk b) {n : Nat} (hn : n < 4) (line : ByteArray) (h1 : (b n).length < 59) (h2 : cntB b < 999999) : textB b ≠ textB (doB (doB b n line).2.2 n otherL).2.2 := by
  have k := doB_own hb hn line
  have hb1 := doB_ok hb hn line
  refine text_ne hb (doB_ok hb1 hn otherL) ?_
  rw [do_other (by omega) (by omega), addAt_len _ hn]
  have := doB_len (b := b) hn line
  omega
/-- What holds between two rounds. -/
structure CopI (base : Nat) (w : World) (p q k : Nat) (B : Book) (wr : World) : Prop where
  ps : PsL base wr [(p, 0, B), (q, 0, B)]
  kin : Kin base w wr
  len : (B 0).length ≤ k
  cnt : cntB B ≤ (k : Int)
theorem PsL.ok {base : Nat} {w : World} {l : List PB} (h : PsL base w l) {i : Nat} (hi : i < l.length) : BookOk (atL l i).2.2 := PsAt.ok h hi
set_option maxRecDepth 100000 in
set_option maxHeartbeats 8000000 in
theorem PostCopies_walk (v : Value) (lines : List ByteArray) (n : Int) (w : World) (hL : StrsIn w v lines) (_hn : (Lit.int .u32 n).wf = true) (hV : Vars w) : Calls Tryz.prog 7 #[v, .int .u32 n] w (BoolPost true w) := by
  have HVR := Lib.hid hV
  have HLG := Lib.hid (long_any v lines 20 w hL)
  have HIN := Lib.hid hL
  obtain ⟨la, lc, rfl, hc⟩ := hL.at_
  have HLC := Lib.hid hc
  cases hlong : longB lines 20 with
  | true =>
    rw [hlong] at HLG
    clear hlong hc hL hV
    go_enter Tryz.func7, Tryz.ntmps7
    go_wp2_with fail
    refine HLG.out.mono ?_
    rintro e w1 ⟨rfl, hb1⟩
    have HB1 := Lib.hid hb1
    clear hb1
    go_wp2_with fail
    refine (sane_any w1 (HVR.out.below HB1.out)).mono ?_
    rintro e w2 ⟨rfl, hb2⟩
    have HB2 := Lib.hid (below_trans HB1.out hb2)
    clear hb2
    go_wp2
    go_ret
    exact ⟨rfl, HB2.out⟩
  | false =>
    rw [hlong] at HLG
    obtain ⟨hsz, hlen⟩ := longB_no hlong
    have HSZ := Lib.hid hsz
    obtain ⟨ln, hln⟩ : ∃ ln, ln = lines.length := ⟨_, rfl⟩
    have HN := Lib.hid hln
    rw [← hln] at hlen HLG ⊢
    clear hlong hc hL hV hsz hln
    go_enter Tryz.func7, Tryz.ntmps7
    go_wp2_with fail
    refine HLG.out.mono ?_
    rintro e w1 ⟨rfl, hb1⟩
    have HB1 := Lib.hid hb1
    have HK1 := Lib.hid (Kin.of_below (base := w.heap.size) hb1)
    have HP1 : Hid (PsL w.heap.size w1 []) := Lib.hid (PsAt.low (PsL.nil (HVR.out.below hb1)) hb1.size)
    clear hb1
    go_wp2_with fail
    refine (new_l HP1.out 0 (by omega)).mono ?_
    rintro e w2 ⟨p, rfl, hA, hK⟩
    have HP2 : Hid (PsL w.heap.size w2 [(p, 0, empB)]) := Lib.hid hA
    have HK2 := Lib.hid (HK1.out.trans hK)
    clear hA hK
    go_wp2_with fail
    refine (new_l HP2.out 0 (by omega)).mono ?_
    rintro e w3 ⟨q, rfl, hA, hK⟩
    have HI0 : Hid (CopI w.heap.size w p q 0 empB w3) := Lib.hid ⟨hA, HK2.out.trans hK, Nat.zero_le _, Int.le_refl _⟩
    clear hA hK
    go_wp2
    go_loopw [9] (fun i wr => ∃ (k : Nat) (B : Book), k ≤ ln ∧ i = .int .i64 k ∧ Hid (CopI w.heap.size w p q k B wr)) (fun i _ => ln - (intOf i).toNat)
    case atStart => exact ⟨0, empB, Nat.zero_le _, rfl, HI0⟩
    case round =>
      obtain ⟨k, B, hk, rfl, HI⟩ := hrel
      by_cases hlt : k < ln
      · obtain ⟨b, off, rfl, hcc⟩ := HLC.out (by rw [← HN.out]; omega)
        have c1 := keep_cell (HI.out.kin.below (Nat.le_refl _)) (hcc k (by rw [← HN.out]; exact hlt))
        have HC0 := Lib.hid (hcc k (by rw [← HN.out]; exact hlt))
        have hxs : (lines.getD k emp).size ≤ 200 := by
          rw [List.getD_eq_getElem?_getD, List.getElem?_eq_getElem (by rw [← HN.out]; exact hlt)]
          exact HSZ.out _ (List.getElem_mem (by rw [← HN.out]; exact hlt))
        generalize lines.getD k emp = x at *
        have HOK : Hid (BookOk B) := Lib.hid (PsL.ok HI.out.ps (i := 0) (by show 0 < 2; omega))
        have hk32 : (k : Int) < 32 := by omega
        have HPS := Lib.hid HI.out.ps
        have HKN := Lib.hid HI.out.kin
        clear hcc
        cases hbit : (Go.bits BinOp.and IntKind.u32 (n / 2 ^ k) 1 == 1) with
        | true =>
          go_wp2_with fail
          refine (copy_l HPS.out (i := 0) (by show 0 < 2; omega)).mono ?_
          rintro e w1 ⟨c, rfl, hA, hK⟩
          have HA1 : Hid (PsL w.heap.size w1 [(p, 0, B), (q, 0, B), (c, 0, B)]) := Lib.hid hA
          have HK1 := Lib.hid (HKN.out.trans hK)
          have c2 := keep_cell (HK1.out.below (Nat.le_refl _)) HC0.out
          clear hA hK
          go_wp2_with fail
          refine (do_l HA1.out (i := 2) (by show 2 < 3; omega) x (by omega)).mono ?_
          rintro e w2 ⟨rfl, hA, hK⟩
          have HA2 : Hid (PsL w.heap.size w2 [(p, 0, B), (q, 0, B), (c, 0, (doB B 0 x).2.2)]) := Lib.hid hA
          have HK2 := Lib.hid (HK1.out.trans hK)
          clear hA hK
          go_wp2_with fail
          refine (do_l HA2.out (i := 2) (by show 2 < 3; omega) ⟨#[112, 117, 116, 32, 111, 116, 104, 101, 114, 32, 120]⟩ (by decide)).mono ?_
          rintro e w3 ⟨rfl, hA, hK⟩
          have HA3 : Hid (PsL w.heap.size w3 [(p, 0, B), (q, 0, B), (c, 0, (doB (doB B 0 x).2.2 0 otherL).2.2)]) := Lib.hid hA
          have HK3 := Lib.hid (HK2.out.trans hK)
          clear hA hK
          have HS3 := Lib.hid (same_l HA3.out (i := 0) (j := 1) (by show 0 < 3; omega) (by show 1 < 3; omega) (decide_eq_true rfl))
          go_wp2_with fail
          refine HS3.out.mono ?_
          rintro e w4 ⟨rfl, hA, hK⟩
          have HA4 := Lib.hid hA
          have HK4 := Lib.hid (HK3.out.trans hK)
          clear hA hK
          have HS4 := Lib.hid (same_l HA4.out (i := 0) (j := 2) (q := false) (by show 0 < 3; omega) (by show 2 < 3; omega) (decide_eq_false (copy_differs HOK.out (by omega) x (by have := HI.out.len; omega) (by have := HI.out.cnt; omega))))
          go_wp2_with fail
          refine HS4.out.mono ?_
          rintro e wx ⟨rfl, hA, hK⟩
          have HAx : Hid (PsL w.heap.size wx [(p, 0, B), (q, 0, B)]) := Lib.hid (PsL.first (r := [(c, 0, (doB (doB B 0 x).2.2 0 otherL).2.2)]) hA)
          have HKx := Lib.hid (HK4.out.trans hK)
          clear hA hK HA1 HA2 HA3 HA4 HS3 HS4 HK1 HK2 HK3 HK4
          go_wp2_with fail
          refine (copy_l HAx.out (i := 0) (by show 0 < 2; omega)).mono ?_
          rintro e w5 ⟨m, rfl, hA, hK⟩
          have HA5 : Hid (PsL w.heap.size w5 [(p, 0, B), (q, 0, B), (m, 0, B)]) := Lib.hid hA
          have HK5 := Lib.hid (HKx.out.trans hK)
          clear hA hK
          obtain ⟨tb, htb⟩ : ∃ tb, tb = textB B := ⟨_, rfl⟩
          have HT5 := Lib.hid (text_l HA5.out (i := 2) (by show 2 < 3; omega))
          rw [show textB (atL [(p, 0, B), (q, 0, B), (m, 0, B)] 2).2.2 = tb from htb.symm] at HT5
          have HTB := Lib.hid htb
          clear htb
          go_wp2_with fail
          refine HT5.out.mono ?_
          rintro e w6 ⟨rfl, hA, hK⟩
          have HA6 := Lib.hid hA
          have HK6 := Lib.hid (HK5.out.trans hK)
          have c6 := keep_cell (HK6.out.below (Nat.le_refl _)) HC0.out
          clear hA hK
          have HD6 := Lib.hid (do_l HA6.out (i := 0) (by show 0 < 3; omega) x (by omega))
          obtain ⟨r, hr⟩ : ∃ r, r = doB B 0 x := ⟨_, rfl⟩
          rw [show doB (atL [(p, 0, B), (q, 0, B), (m, 0, B)] 0).2.2 (atL [(p, 0, B), (q, 0, B), (m, 0, B)] 0).2.1 x = r from hr.symm] at HD6
          have HR := Lib.hid hr
          clear hr
          go_wp2_with fail
          refine HD6.out.mono ?_
          rintro e w7 ⟨rfl, hA, hK⟩
          have HA7 : Hid (PsL w.heap.size w7 [(p, 0, r.2.2), (q, 0, B), (m, 0, B)]) := Lib.hid hA
          have HK7 := Lib.hid (HK6.out.trans hK)
          have c7 := keep_cell (HK7.out.below (Nat.le_refl _)) HC0.out
          clear hA hK
          have HD7 := Lib.hid (do_l HA7.out (i := 1) (by show 1 < 3; omega) x (by omega))
          rw [show doB (atL [(p, 0, r.2.2), (q, 0, B), (m, 0, B)] 1).2.2 (atL [(p, 0, r.2.2), (q, 0, B), (m, 0, B)] 1).2.1 x = r from HR.out.symm] at HD7
          go_wp2_with fail
          refine HD7.out.mono ?_
          rintro e w8 ⟨rfl, hA, hK⟩
          have HA8 : Hid (PsL w.heap.size w8 [(p, 0, r.2.2), (q, 0, r.2.2), (m, 0, B)]) := Lib.hid hA
          have HK8 := Lib.hid (HK7.out.trans hK)
          clear hA hK
          have HS8 := Lib.hid (same_l HA8.out (i := 0) (j := 1) (by show 0 < 3; omega) (by show 1 < 3; omega) (decide_eq_true rfl))
          go_wp2_with fail
          refine HS8.out.mono ?_
          rintro e w9 ⟨rfl, hA, hK⟩
          have HK9 := Lib.hid (HK8.out.trans hK)
          have HA9 := Lib.hid hA
          have HT9 := Lib.hid (text_l hA (i := 2) (by show 2 < 3; omega))
          rw [show textB (atL [(p, 0, r.2.2), (q, 0, r.2.2), (m, 0, B)] 2).2.2 = tb from HTB.out.symm] at HT9
          clear hA hK
          go_wp2_with fail
          refine HT9.out.mono ?_
          rintro e w10 ⟨rfl, hA, hK⟩
          have HI2 : Hid (CopI w.heap.size w p q (k + 1) r.2.2 w10) := Lib.hid ⟨PsL.first (r := [(m, 0, B)]) hA, HK9.out.trans hK, by
            have h1 := (doB_own HOK.out (show 0 < 4 by omega) x).1
            have h2 := HI.out.len
            rw [HR.out]; omega, by
            have h1 := (doB_own HOK.out (show 0 < 4 by omega) x).2
            have h2 := HI.out.cnt
            rw [HR.out]; omega⟩
          clear hA hK
          go_wp2
          go_roundw
          case rel => exact ⟨k + 1, r.2.2, by omega, by go_num, HI2⟩
          case measure => simp [intOf]; omega
        | false =>
          go_wp2_with fail
          refine (copy_l HPS.out (i := 0) (by show 0 < 2; omega)).mono ?_
          rintro e w5 ⟨m, rfl, hA, hK⟩
          have HA5 : Hid (PsL w.heap.size w5 [(p, 0, B), (q, 0, B), (m, 0, B)]) := Lib.hid hA
          have HK5 := Lib.hid (HKN.out.trans hK)
          clear hA hK
          obtain ⟨tb, htb⟩ : ∃ tb, tb = textB B := ⟨_, rfl⟩
          have HT5 := Lib.hid (text_l HA5.out (i := 2) (by show 2 < 3; omega))
          rw [show textB (atL [(p, 0, B), (q, 0, B), (m, 0, B)] 2).2.2 = tb from htb.symm] at HT5
          have HTB := Lib.hid htb
          clear htb
          go_wp2_with fail
          refine HT5.out.mono ?_
          rintro e w6 ⟨rfl, hA, hK⟩
          have HA6 := Lib.hid hA
          have HK6 := Lib.hid (HK5.out.trans hK)
          have c6 := keep_cell (HK6.out.below (Nat.le_refl _)) HC0.out
          clear hA hK
          have HD6 := Lib.hid (do_l HA6.out (i := 0) (by show 0 < 3; omega) x (by omega))
          obtain ⟨r, hr⟩ : ∃ r, r = doB B 0 x := ⟨_, rfl⟩
          rw [show doB (atL [(p, 0, B), (q, 0, B), (m, 0, B)] 0).2.2 (atL [(p, 0, B), (q, 0, B), (m, 0, B)] 0).2.1 x = r from hr.symm] at HD6
          have HR := Lib.hid hr
          clear hr
          go_wp2_with fail
          refine HD6.out.mono ?_
          rintro e w7 ⟨rfl, hA, hK⟩
          have HA7 : Hid (PsL w.heap.size w7 [(p, 0, r.2.2), (q, 0, B), (m, 0, B)]) := Lib.hid hA
          have HK7 := Lib.hid (HK6.out.trans hK)
          have c7 := keep_cell (HK7.out.below (Nat.le_refl _)) HC0.out
          clear hA hK
          have HD7 := Lib.hid (do_l HA7.out (i := 1) (by show 1 < 3; omega) x (by omega))
          rw [show doB (atL [(p, 0, r.2.2), (q, 0, B), (m, 0, B)] 1).2.2 (atL [(p, 0, r.2.2), (q, 0, B), (m, 0, B)] 1).2.1 x = r from HR.out.symm] at HD7
          go_wp2_with fail
          refine HD7.out.mono ?_
          rintro e w8 ⟨rfl, hA, hK⟩
          have HA8 : Hid (PsL w.heap.size w8 [(p, 0, r.2.2), (q, 0, r.2.2), (m, 0, B)]) := Lib.hid hA
          have HK8 := Lib.hid (HK7.out.trans hK)
          clear hA hK
          have HS8 := Lib.hid (same_l HA8.out (i := 0) (j := 1) (by show 0 < 3; omega) (by show 1 < 3; omega) (decide_eq_true rfl))
          go_wp2_with fail
          refine HS8.out.mono ?_
          rintro e w9 ⟨rfl, hA, hK⟩
          have HK9 := Lib.hid (HK8.out.trans hK)
          have HA9 := Lib.hid hA
          have HT9 := Lib.hid (text_l hA (i := 2) (by show 2 < 3; omega))
          rw [show textB (atL [(p, 0, r.2.2), (q, 0, r.2.2), (m, 0, B)] 2).2.2 = tb from HTB.out.symm] at HT9
          clear hA hK
          go_wp2_with fail
          refine HT9.out.mono ?_
          rintro e w10 ⟨rfl, hA, hK⟩
          have HI2 : Hid (CopI w.heap.size w p q (k + 1) r.2.2 w10) := Lib.hid ⟨PsL.first (r := [(m, 0, B)]) hA, HK9.out.trans hK, by
            have h1 := (doB_own HOK.out (show 0 < 4 by omega) x).1
            have h2 := HI.out.len
            rw [HR.out]; omega, by
            have h1 := (doB_own HOK.out (show 0 < 4 by omega) x).2
            have h2 := HI.out.cnt
            rw [HR.out]; omega⟩
          clear hA hK
          go_wp2
          go_roundw
          case rel => exact ⟨k + 1, r.2.2, by omega, by go_num, HI2⟩
          case measure => simp [intOf]; omega
      · have e : k = ln := by omega
        go_wp2_with fail
        refine (sane_l HI.out.ps).mono ?_
        rintro e w4 ⟨rfl, hA, hK⟩
        have HB4 := Lib.hid ((HI.out.kin.trans hK).below (Nat.le_refl _))
        clear hA hK
        go_wp2
        go_ret
        exact ⟨rfl, HB4.out⟩
end Go.Proofs.YtdfkaijeppdhaaaGreatDoor

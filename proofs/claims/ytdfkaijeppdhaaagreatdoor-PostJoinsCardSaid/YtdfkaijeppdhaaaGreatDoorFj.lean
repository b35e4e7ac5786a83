/- Contracts: does. -/
import Derived.Test.YtdfkaijeppdhaaaGreatDoorFi
namespace Go.Proofs.YtdfkaijeppdhaaaGreatDoor
open Go.RowKit Go.Shelf

theorem cut_any (line : ByteArray) (hs : line.size ≤ 1000000) (w : World) (hV : Vars w) :
    Calls Tryz.prog 80 #[.string line, .string ⟨#[32]⟩] w fun e w' => e = .returned (.tuple #[.string (firstW line), .string (restW line), .bool (Lib.cut line.data.toList [32]).2.2]) ∧ Below w.heap.size w w' := by
  obtain ⟨m, hm⟩ := hV.ml
  refine (Tryz.strings_Cut line ⟨#[32]⟩ m w (by omega) hm).mono ?_
  rintro e w' ⟨rfl, n, rfl⟩
  exact ⟨rfl, belowD (Below.refl _ _) _⟩
theorem cutPrefix_any (s : ByteArray) (w : World) :
    Calls Tryz.prog 82 #[.string s, .string ⟨#[106, 111, 105, 110, 32]⟩] w fun e w' => e = .returned (.tuple #[.string (otherW s), .bool (isJoin s)]) ∧ w = w' := by
  refine (Tryz.strings_CutPrefix s ⟨#[106, 111, 105, 110, 32]⟩ w).mono ?_
  rintro e w' ⟨rfl, rfl⟩
  exact ⟨rfl, rfl⟩
theorem postV_no {s : ByteArray} (h : numV s = none) : postV s = none := by unfold postV; rw [h]
theorem postV_out {s : ByteArray} {v : Int} (h : numV s = some v) (hb : betw 0 v 3 = false) : postV s = none := by unfold postV; rw [h]; simp [hb]
theorem postV_in {s : ByteArray} {v : Int} (h : numV s = some v) (hb : betw 0 v 3 = true) : postV s = some v.toNat := by unfold postV; rw [h]; simp [hb]
set_option maxRecDepth 100000 in
set_option maxHeartbeats 8000000 in
theorem does_any (askB : Book → ByteArray → ByteArray × Int) (line : ByteArray) (hs : line.size ≤ 1000000) (w : World) (S cap : Nat) (ps : Nat → Pst) (h : PostsAt w S ps)
    (hask : ∀ i W, i < 4 → postV (firstW line) = some i → Cmd.askO (parseB (restW line)) = true → Below w.heap.size w W → Calls Tryz.prog 36 #[.pointer (some ⟨(ps i).P, 0, none⟩), .string (restW line)] W (AnsPost (askB (ps i).b (restW line)) W)) :
    Calls Tryz.prog 47 #[.slice (some ⟨S, 0, none⟩) 4 cap, .string line] w (DoesPost w S ps (doesB askB (fun j => (ps j).b) line)) := by
  have hsf := first_size line
  have hsr := rest_size line
  have hso := other_size (restW line)
  have HCU := Lib.hid (cut_any line hs w h.posts.vars)
  have HP := Lib.hid h
  have HASK := Lib.hid hask
  clear hask h
  obtain ⟨R, hR⟩ : ∃ R, R = doesB askB (fun j => (ps j).b) line := ⟨_, rfl⟩
  have HR := Lib.hid hR
  rw [← hR]
  unfold doesB at HR
  clear hR
  obtain ⟨q2, hq2⟩ : ∃ q, q = (Lib.cut line.data.toList [32]).2.2 := ⟨_, rfl⟩
  rw [← hq2] at HCU
  clear hq2
  generalize firstW line = fw at *
  generalize restW line = rw0 at *
  have HCP := Lib.hid (fun W => cutPrefix_any rw0 W)
  cases hn : numV fw with
  | none =>
    have HNO := Lib.hid (fun W (hW : KB w W) => number_no fw hn (by omega) W (HP.out.posts.vars.below hW))
    have HRX : Hid (R = ((emp, 100), fun j => (ps j).b)) := Lib.hid (by rw [HR.out, postV_no hn])
    unfold NoNum at HNO
    clear hn
    go_enter Tryz.func47, Tryz.ntmps47
    go_wp2_with fail
    refine HCU.out.mono ?_
    rintro e w1 ⟨rfl, hb1⟩
    have HB1 := Lib.hid hb1
    have HP1 := Lib.hid (HP.out.below hb1)
    clear hb1
    go_wp2_with fail
    refine (HNO.out _ HB1.out).mono ?_
    rintro e w2 ⟨y, rfl, hb2⟩
    have HB2 := Lib.hid (KB.call HB1.out hb2)
    clear hb2
    go_wp2
    go_ret2
    rw [HRX.out]
    exact ⟨rfl, Turn.refl HP.out HB2.out⟩
  | some v =>
    have HNO := Lib.hid (fun W (hW : KB w W) => number_ok fw v hn (by omega) W (HP.out.posts.vars.below hW))
    cases hb : betw 0 v 3 with
    | false =>
      have HRX : Hid (R = ((emp, 100), fun j => (ps j).b)) := Lib.hid (by rw [HR.out, postV_out hn hb])
      have HBT := Lib.hid hb
      clear hn hb
      go_enter Tryz.func47, Tryz.ntmps47
      go_wp2_with fail
      refine HCU.out.mono ?_
      rintro e w1 ⟨rfl, hb1⟩
      have HB1 := Lib.hid hb1
      have HP1 := Lib.hid (HP.out.below hb1)
      clear hb1
      go_wp2_with fail
      refine (HNO.out _ HB1.out).mono ?_
      rintro e w2 ⟨rfl, hb2⟩
      have HB2 := Lib.hid (KB.call HB1.out hb2)
      clear hb2
      go_wp2_with fail
      refine (between_any _ _ _ _).mono ?_
      rintro e w3 ⟨rfl, rfl⟩
      rw [HBT.out]
      go_wp2
      go_ret2
      rw [HRX.out]
      exact ⟨rfl, Turn.refl HP.out HB2.out⟩
    | true =>
      obtain ⟨hv0, hv3⟩ := (betw_iff _ _ _).1 hb
      obtain ⟨n, rfl⟩ : ∃ n : Nat, v = (n : Int) := ⟨v.toNat, (Int.toNat_of_nonneg hv0).symm⟩
      have hpv : postV fw = some n := by rw [postV_in hn hb]; simp
      have HPV := Lib.hid hpv
      have hn4 : n < 4 := by omega
      have i2 : (n : Int) < 4 := by omega
      have HBT := Lib.hid hb
      rw [hpv] at HR
      simp only at HR
      clear hn hb hpv
      cases hj : isJoin rw0 with
      | true =>
        rw [hj] at HCP HR
        simp only [if_true] at HR
        generalize otherW rw0 = ow at *
        clear hj
        cases hn2 : numV ow with
        | none =>
          have HNX := Lib.hid (fun W (hW : KB w W) => number_no ow hn2 (by omega) W (HP.out.posts.vars.below hW))
          have HRX : Hid (R = ((emp, 100), fun j => (ps j).b)) := Lib.hid (by rw [HR.out, postV_no hn2])
          unfold NoNum at HNX
          clear hn2
          go_enter Tryz.func47, Tryz.ntmps47
          go_wp2_with fail
          refine HCU.out.mono ?_
          rintro e w1 ⟨rfl, hb1⟩
          have HB1 := Lib.hid hb1
          have HP1 := Lib.hid (HP.out.below hb1)
          clear hb1
          go_wp2_with fail
          refine (HNO.out _ HB1.out).mono ?_
          rintro e w2 ⟨rfl, hb2⟩
          have HB2 := Lib.hid (KB.call HB1.out hb2)
          clear hb2
          have c0 := keep_cell HB2.out (HP.out.row n hn4)
          go_wp2_with fail
          refine (between_any _ _ _ _).mono ?_
          rintro e w3 ⟨rfl, rfl⟩
          rw [HBT.out]
          go_wp2_with fail
          refine (HCP.out _).mono ?_
          rintro e w4 ⟨rfl, rfl⟩
          go_wp2_with fail
          refine (HNX.out _ HB2.out).mono ?_
          rintro e w5 ⟨y, rfl, hb5⟩
          have HB5 := Lib.hid (KB.call HB2.out hb5)
          clear hb5
          go_wp2
          go_ret2
          rw [HRX.out]
          exact ⟨rfl, Turn.refl HP.out HB5.out⟩
        | some v2 =>
          have HNX := Lib.hid (fun W (hW : KB w W) => number_ok ow v2 hn2 (by omega) W (HP.out.posts.vars.below hW))
          cases hb2x : betw 0 v2 3 with
          | false =>
            have HRX : Hid (R = ((emp, 100), fun j => (ps j).b)) := Lib.hid (by rw [HR.out, postV_out hn2 hb2x])
            have HBX := Lib.hid hb2x
            clear hn2 hb2x
            go_enter Tryz.func47, Tryz.ntmps47
            go_wp2_with fail
            refine HCU.out.mono ?_
            rintro e w1 ⟨rfl, hb1⟩
            have HB1 := Lib.hid hb1
            have HP1 := Lib.hid (HP.out.below hb1)
            clear hb1
            go_wp2_with fail
            refine (HNO.out _ HB1.out).mono ?_
            rintro e w2 ⟨rfl, hb2⟩
            have HB2 := Lib.hid (KB.call HB1.out hb2)
            clear hb2
            have c0 := keep_cell HB2.out (HP.out.row n hn4)
            go_wp2_with fail
            refine (between_any _ _ _ _).mono ?_
            rintro e w3 ⟨rfl, rfl⟩
            rw [HBT.out]
            go_wp2_with fail
            refine (HCP.out _).mono ?_
            rintro e w4 ⟨rfl, rfl⟩
            go_wp2_with fail
            refine (HNX.out _ HB2.out).mono ?_
            rintro e w5 ⟨rfl, hb5⟩
            have HB5 := Lib.hid (KB.call HB2.out hb5)
            clear hb5
            go_wp2_with fail
            refine (between_any _ _ _ _).mono ?_
            rintro e w6 ⟨rfl, rfl⟩
            rw [HBX.out]
            go_wp2
            go_ret2
            rw [HRX.out]
            exact ⟨rfl, Turn.refl HP.out HB5.out⟩
          | true =>
            obtain ⟨hk0, hk3⟩ := (betw_iff _ _ _).1 hb2x
            obtain ⟨k, rfl⟩ : ∃ k : Nat, v2 = (k : Int) := ⟨v2.toNat, (Int.toNat_of_nonneg hk0).symm⟩
            have hk4 : k < 4 := by omega
            have i3 : (k : Int) < 4 := by omega
            have hpk : postV ow = some k := by rw [postV_in hn2 hb2x]; simp
            rw [hpk] at HR
            simp only at HR
            have HBX := Lib.hid hb2x
            have HOKJ := Lib.hid (joinV_ok (HP.out.ok n hn4) (HP.out.ok k hk4))
            have HJ := Lib.hid (fun W (hW : KB w W) => join_post (ps n).P n (ps n).F (ps n).b (ps k).P k (ps k).F (ps k).b W (by have h9 := (HP.out.below hW).posts.post n hn4; rw [HP.out.num n hn4] at h9; exact h9) (by have h9 := (HP.out.below hW).posts.post k hk4; rw [HP.out.num k hk4] at h9; exact h9) (HP.out.ok n hn4) (HP.out.ok k hk4))
            clear hn2 hb2x hpk
            generalize joinV (ps n).b (ps k).b = jr at *
            obtain ⟨jre, jrb⟩ := jr
            go_enter Tryz.func47, Tryz.ntmps47
            go_wp2_with fail
            refine HCU.out.mono ?_
            rintro e w1 ⟨rfl, hb1⟩
            have HB1 := Lib.hid hb1
            have HP1 := Lib.hid (HP.out.below hb1)
            clear hb1
            go_wp2_with fail
            refine (HNO.out _ HB1.out).mono ?_
            rintro e w2 ⟨rfl, hb2⟩
            have HB2 := Lib.hid (KB.call HB1.out hb2)
            clear hb2
            have c0 := keep_cell HB2.out (HP.out.row n hn4)
            go_wp2_with fail
            refine (between_any _ _ _ _).mono ?_
            rintro e w3 ⟨rfl, rfl⟩
            rw [HBT.out]
            go_wp2_with fail
            refine (HCP.out _).mono ?_
            rintro e w4 ⟨rfl, rfl⟩
            go_wp2_with fail
            refine (HNX.out _ HB2.out).mono ?_
            rintro e w5 ⟨rfl, hb5⟩
            have HB5 := Lib.hid (KB.call HB2.out hb5)
            clear hb5
            have c1 := keep_cell HB5.out (HP.out.row k hk4)
            go_wp2_with fail
            refine (between_any _ _ _ _).mono ?_
            rintro e w6 ⟨rfl, rfl⟩
            rw [HBX.out]
            go_wp2_with fail
            refine (HJ.out _ HB5.out).mono ?_
            rintro e w7 ⟨rfl, hex⟩
            have HT := Lib.hid (Turn.ahead HB5.out (Turn.of (HP.out.below HB5.out) hn4 hex HOKJ.out (bs := fun j => (ps j).b) (fun j hj => rfl)))
            obtain ⟨F', hpa, _, _⟩ := hex
            have HBK := Lib.hid (book_post (ps n).P n F' jrb w7 hpa HOKJ.out)
            have hV7 : Vars w7 := by obtain ⟨ps', h1, _⟩ := HT.out.ex; exact h1.posts.vars
            have HV7 := Lib.hid hV7
            clear hpa hV7
            go_wp2_with fail
            refine HBK.out.mono ?_
            rintro e w8 ⟨lv, rfl, hl8, ho8, hb8⟩
            obtain ⟨la, lc, rfl⟩ := own_shape hl8
            have hll : (allB jrb).length = lenB jrb := allB_len jrb
            have hle := lenB_le HOKJ.out
            have HB8 := Lib.hid hb8
            have HI := Lib.hid (itoa_any ((lenB jrb : Nat) : Int) (by omega) (by omega) w8 (HV7.out.below hb8))
            clear hl8 ho8 hb8
            rw [hll]
            go_wp2_with fail
            refine HI.out.mono ?_
            rintro e w9 ⟨rfl, hb9⟩
            have HB9 := Lib.hid (below_trans HB8.out hb9)
            clear hb9
            go_wp2
            go_ret2
            rw [HR.out]
            exact ⟨rfl, HT.out.more HB9.out⟩
      | false =>
        rw [hj] at HCP HR
        simp only [Bool.false_eq_true, if_false] at HR
        clear hj
        generalize otherW rw0 = ow at *
        have HPA := Lib.hid (fun W (hW : KB w W) => parse_any rw0 (by omega) W (HP.out.posts.vars.below hW))
        go_enter Tryz.func47, Tryz.ntmps47
        go_wp2_with fail
        refine HCU.out.mono ?_
        rintro e w1 ⟨rfl, hb1⟩
        have HB1 := Lib.hid hb1
        have HP1 := Lib.hid (HP.out.below hb1)
        clear hb1
        go_wp2_with fail
        refine (HNO.out _ HB1.out).mono ?_
        rintro e w2 ⟨rfl, hb2⟩
        have HB2 := Lib.hid (KB.call HB1.out hb2)
        clear hb2
        have c0 := keep_cell HB2.out (HP.out.row n hn4)
        go_wp2_with fail
        refine (between_any _ _ _ _).mono ?_
        rintro e w3 ⟨rfl, rfl⟩
        rw [HBT.out]
        go_wp2_with fail
        refine (HCP.out _).mono ?_
        rintro e w4 ⟨rfl, rfl⟩
        go_wp2_with fail
        refine (HPA.out _ HB2.out).mono ?_
        rintro e w5 ⟨⟨pv, rfl, hpv⟩, hb5⟩
        have hta := assert_deed hpv w5
        have htb := assert_ask hpv w5
        have HB5 := Lib.hid (KB.call HB2.out hb5)
        clear hb5 hpv c0
        cases hd : Cmd.deedO (parseB rw0) with
        | true =>
          rw [hd] at hta HR
          unfold ifV at hta
          simp only [if_true] at hta HR
          clear htb hd
          have HDO := Lib.hid (do_any (ps n).P n hn4 (ps n).F (ps n).b rw0 (by omega) w5 (by have h9 := (HP.out.below HB5.out).posts.post n hn4; rw [HP.out.num n hn4] at h9; exact h9) (HP.out.ok n hn4) (HP.out.posts.vars.below HB5.out) (HP.out.posts.free n hn4))
          have HOKD := Lib.hid (doB_ok (HP.out.ok n hn4) hn4 rw0)
          generalize doB (ps n).b n rw0 = dr at *
          obtain ⟨d0, d1, d2⟩ := dr
          go_wp2_with fail
          refine HDO.out.mono ?_
          rintro e w6 ⟨rfl, hex⟩
          have HT := Lib.hid (Turn.ahead HB5.out (Turn.of (HP.out.below HB5.out) hn4 hex HOKD.out (bs := fun j => (ps j).b) (fun j hj => rfl)))
          clear hex
          go_wp2
          go_ret2
          rw [HR.out]
          exact ⟨rfl, HT.out⟩
        | false =>
          rw [hd] at hta HR
          unfold ifV at hta
          simp only [Bool.false_eq_true, if_false] at hta HR
          clear hd
          cases hq : Cmd.askO (parseB rw0) with
          | true =>
            rw [hq] at htb HR
            unfold ifV at htb
            simp only [if_true] at htb HR
            have HAQ := Lib.hid (HASK.out n w5 hn4 HPV.out hq HB5.out)
            clear hq
            generalize askB (ps n).b rw0 = ar at *
            obtain ⟨a0, a1⟩ := ar
            go_wp2_with fail
            refine HAQ.out.mono ?_
            rintro e w6 ⟨rfl, hb6⟩
            have HB6 := Lib.hid (KB.call HB5.out hb6)
            clear hb6
            go_wp2
            go_ret2
            rw [HR.out]
            exact ⟨rfl, Turn.refl HP.out HB6.out⟩
          | false =>
            rw [hq] at htb HR
            unfold ifV at htb
            simp only [Bool.false_eq_true, if_false] at htb HR
            clear hq
            go_wp2
            go_ret2
            rw [HR.out]
            exact ⟨rfl, Turn.refl HP.out HB5.out⟩
end Go.Proofs.YtdfkaijeppdhaaaGreatDoor

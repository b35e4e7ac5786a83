/- Texts of this claim, laid together: Fk, Fm, Lb, Rb. -/
import Derived.Test.YtdfkaijeppdhaaaGreatDoorZEr12
import Derived.Test.YtdfkaijeppdhaaaGreatDoorZEr01

/- Texts of this claim, laid together: Fj, Fk. -/

/- Contracts: does. -/
namespace Go.Proofs.YtdfkaijeppdhaaaGreatDoor
open Go.RowKit Go.Shelf
theorem cut_any (line : ByteArray) (hs : line.size ≤ 1000000) (w : World) (hV : Vars w) :
    Calls Tryz.prog 80 #[.string line, .string ⟨#[32]⟩] w fun e w' => e = .returned (.tuple #[.string (firstW line), .string (restW line), .bool (Lib.cut line.data.toList [32]).2.2]) ∧ Below w.heap.size w w' := by
  obtain ⟨m, hm⟩ := hV.ml
  refine (Tryz.strings_Cut line ⟨#[32]⟩ m w (by omega) hm).mono ?_
  rintro e w' ⟨rfl, n, rfl⟩
  exact ⟨rfl, belowD (Below.refl _ _) _⟩
theorem cutPrefix_any (s : ByteArray) (w : World) :
    Calls Tryz.prog 82 #[.string s, .string ⟨#[106, 111, 105, 110, 32]⟩] w fun e w' => e = .returned (.tuple #[.string (otherW s), .bool (isJoin s)]) ∧ w = w' := by
  refine (Tryz.strings_CutPrefix s ⟨#[106, 111, 105, 110, 32]⟩ w).mono ?_
  rintro e w' ⟨rfl, rfl⟩
  exact ⟨rfl, rfl⟩
theorem postV_no {s : ByteArray} (h : numV s = none) : postV s = none := by unfold postV; rw [h]
theorem postV_out {s : ByteArray} {v : Int} (h : numV s = some v) (hb : betw 0 v 3 = false) : postV s = none := by unfold postV; rw [h]; simp [hb]
theorem postV_in {s : ByteArray} {v : Int} (h : numV s = some v) (hb : betw 0 v 3 = true) : postV s = some v.toNat := by unfold postV; rw [h]; simp [hb]
set_option maxRecDepth 100000 in
set_option maxHeartbeats 8000000 in
theorem does_any (askB : Book → ByteArray → ByteArray × Int) (line : ByteArray) (hs : line.size ≤ 1000000) (w : World) (S cap : Nat) (ps : Nat → Pst) (h : PostsAt w S ps)
    (hask : ∀ i W, i < 4 → postV (firstW line) = some i → Cmd.askO (parseB (restW line)) = true → Below w.heap.size w W → Calls Tryz.prog 36 #[.pointer (some ⟨(ps i).P, 0, none⟩), .string (restW line)] W (AnsPost (askB (ps i).b (restW line)) W)) :
    Calls Tryz.prog 47 #[.slice (some ⟨S, 0, none⟩) 4 cap, .string line] w (DoesPost w S ps (doesB askB (fun j => (ps j).b) line)) := by
  have hsf := first_size line
  have hsr := rest_size line
  have hso := other_size (restW line)
  have HCU := Lib.hid (cut_any line hs w h.posts.vars)
  have HP := Lib.hid h
  have HASK := Lib.hid hask
  clear hask h
  obtain ⟨R, hR⟩ : ∃ R, R = doesB askB (fun j => (ps j).b) line := ⟨_, rfl⟩
  have HR := Lib.hid hR
  rw [← hR]
  unfold doesB at HR
  clear hR
  obtain ⟨q2, hq2⟩ : ∃ q, q = (Lib.cut line.data.toList [32]).2.2 := ⟨_, rfl⟩
  rw [← hq2] at HCU
  clear hq2
  generalize firstW line = fw at *
  generalize restW line = rw0 at *
  have HCP := Lib.hid (fun W => cutPrefix_any rw0 W)
  cases hn : numV fw with
  | none =>
    have HNO := Lib.hid (fun W (hW : KB w W) => number_no fw hn (by omega) W (HP.out.posts.vars.below hW))
    have HRX : Hid (R = ((emp, 100), fun j => (ps j).b)) := Lib.hid (by rw [HR.out, postV_no hn])
    unfold NoNum at HNO
    clear hn
    go_enter Tryz.func47, Tryz.ntmps47
    go_wp2_with fail
    refine HCU.out.mono ?_
    rintro e w1 ⟨rfl, hb1⟩
    have HB1 := Lib.hid hb1
    have HP1 := Lib.hid (HP.out.below hb1)
    clear hb1
    go_wp2_with fail
    refine (HNO.out _ HB1.out).mono ?_
    rintro e w2 ⟨y, rfl, hb2⟩
    have HB2 := Lib.hid (KB.call HB1.out hb2)
    clear hb2
    go_wp2
    go_ret2
    rw [HRX.out]
    exact ⟨rfl, Turn.refl HP.out HB2.out⟩
  | some v =>
    have HNO := Lib.hid (fun W (hW : KB w W) => number_ok fw v hn (by omega) W (HP.out.posts.vars.below hW))
    cases hb : betw 0 v 3 with
    | false =>
      have HRX : Hid (R = ((emp, 100), fun j => (ps j).b)) := Lib.hid (by rw [HR.out, postV_out hn hb])
      have HBT := Lib.hid hb
      clear hn hb
      go_enter Tryz.func47, Tryz.ntmps47
      go_wp2_with fail
      refine HCU.out.mono ?_
      rintro e w1 ⟨rfl, hb1⟩
      have HB1 := Lib.hid hb1
      have HP1 := Lib.hid (HP.out.below hb1)
      clear hb1
      go_wp2_with fail
      refine (HNO.out _ HB1.out).mono ?_
      rintro e w2 ⟨rfl, hb2⟩
      have HB2 := Lib.hid (KB.call HB1.out hb2)
      clear hb2
      go_wp2_with fail
      refine (between_any _ _ _ _).mono ?_
      rintro e w3 ⟨rfl, rfl⟩
      rw [HBT.out]
      go_wp2
      go_ret2
      rw [HRX.out]
      exact ⟨rfl, Turn.refl HP.out HB2.out⟩
    | true =>
      obtain ⟨hv0, hv3⟩ := (betw_iff _ _ _).1 hb
      obtain ⟨n, rfl⟩ : ∃ n : Nat, v = (n : Int) := ⟨v.toNat, (Int.toNat_of_nonneg hv0).symm⟩
      have hpv : postV fw = some n := by rw [postV_in hn hb]; simp
      have HPV := Lib.hid hpv
      have hn4 : n < 4 := by omega
      have i2 : (n : Int) < 4 := by omega
      have HBT := Lib.hid hb
      rw [hpv] at HR
      simp only at HR
      clear hn hb hpv
      cases hj : isJoin rw0 with
      | true =>
        rw [hj] at HCP HR
        simp only [if_true] at HR
        generalize otherW rw0 = ow at *
        clear hj
        cases hn2 : numV ow with
        | none =>
          have HNX := Lib.hid (fun W (hW : KB w W) => number_no ow hn2 (by omega) W (HP.out.posts.vars.below hW))
          have HRX : Hid (R = ((emp, 100), fun j => (ps j).b)) := Lib.hid (by rw [HR.out, postV_no hn2])
          unfold NoNum at HNX
          clear hn2
          go_enter Tryz.func47, Tryz.ntmps47
          go_wp2_with fail
          refine HCU.out.mono ?_
          rintro e w1 ⟨rfl, hb1⟩
          have HB1 := Lib.hid hb1
          have HP1 := Lib.hid (HP.out.below hb1)
          clear hb1
          go_wp2_with fail
          refine (HNO.out _ HB1.out).mono ?_
          rintro e w2 ⟨rfl, hb2⟩
          have HB2 := Lib.hid (KB.call HB1.out hb2)
          clear hb2
          have c0 := keep_cell HB2.out (HP.out.row n hn4)
          go_wp2_with fail
          refine (between_any _ _ _ _).mono ?_
          rintro e w3 ⟨rfl, rfl⟩
          rw [HBT.out]
          go_wp2_with fail
          refine (HCP.out _).mono ?_
          rintro e w4 ⟨rfl, rfl⟩
          go_wp2_with fail
          refine (HNX.out _ HB2.out).mono ?_
          rintro e w5 ⟨y, rfl, hb5⟩
          have HB5 := Lib.hid (KB.call HB2.out hb5)
          clear hb5
          go_wp2
          go_ret2
          rw [HRX.out]
          exact ⟨rfl, Turn.refl HP.out HB5.out⟩
        | some v2 =>
          have HNX := Lib.hid (fun W (hW : KB w W) => number_ok ow v2 hn2 (by omega) W (HP.out.posts.vars.below hW))
          cases hb2x : betw 0 v2 3 with
          | false =>
            have HRX : Hid (R = ((emp, 100), fun j => (ps j).b)) := Lib.hid (by rw [HR.out, postV_out hn2 hb2x])
            have HBX := Lib.hid hb2x
            clear hn2 hb2x
            go_enter Tryz.func47, Tryz.ntmps47
            go_wp2_with fail
            refine HCU.out.mono ?_
            rintro e w1 ⟨rfl, hb1⟩
            have HB1 := Lib.hid hb1
            have HP1 := Lib.hid (HP.out.below hb1)
            clear hb1
            go_wp2_with fail
            refine (HNO.out _ HB1.out).mono ?_
            rintro e w2 ⟨rfl, hb2⟩
            have HB2 := Lib.hid (KB.call HB1.out hb2)
            clear hb2
            have c0 := keep_cell HB2.out (HP.out.row n hn4)
            go_wp2_with fail
            refine (between_any _ _ _ _).mono ?_
            rintro e w3 ⟨rfl, rfl⟩
            rw [HBT.out]
            go_wp2_with fail
            refine (HCP.out _).mono ?_
            rintro e w4 ⟨rfl, rfl⟩
            go_wp2_with fail
            refine (HNX.out _ HB2.out).mono ?_
            rintro e w5 ⟨rfl, hb5⟩
            have HB5 := Lib.hid (KB.call HB2.out hb5)
            clear hb5
            go_wp2_with fail
            refine (between_any _ _ _ _).mono ?_
            rintro e w6 ⟨rfl, rfl⟩
            rw [HBX.out]
            go_wp2
            go_ret2
            rw [HRX.out]
            exact ⟨rfl, Turn.refl HP.out HB5.out⟩
          | true =>
            obtain ⟨hk0, hk3⟩ := (betw_iff _ _ _).1 hb2x
            obtain ⟨k, rfl⟩ : ∃ k : Nat, v2 = (k : Int) := ⟨v2.toNat, (Int.toNat_of_nonneg hk0).symm⟩
            have hk4 : k < 4 := by omega
            have i3 : (k : Int) < 4 := by omega
            have hpk : postV ow = some k := by rw [postV_in hn2 hb2x]; simp
            rw [hpk] at HR
            simp only at HR
            have HBX := Lib.hid hb2x
            have HOKJ := Lib.hid (joinV_ok (HP.out.ok n hn4) (HP.out.ok k hk4))
            have HJ := Lib.hid (fun W (hW : KB w W) => join_post (ps n).P n (ps n).F (ps n).b (ps k).P k (ps k).F (ps k).b W (by have h9 := (HP.out.below hW).posts.post n hn4; rw [HP.out.num n hn4] at h9; exact h9) (by have h9 := (HP.out.below hW).posts.post k hk4; rw [HP.out.num k hk4] at h9; exact h9) (HP.out.ok n hn4) (HP.out.ok k hk4))
            clear hn2 hb2x hpk
            generalize joinV (ps n).b (ps k).b = jr at *
            obtain ⟨jre, jrb⟩ := jr
            go_enter Tryz.func47, Tryz.ntmps47
            go_wp2_with fail
            refine HCU.out.mono ?_
            rintro e w1 ⟨rfl, hb1⟩
            have HB1 := Lib.hid hb1
            have HP1 := Lib.hid (HP.out.below hb1)
            clear hb1
            go_wp2_with fail
            refine (HNO.out _ HB1.out).mono ?_
            rintro e w2 ⟨rfl, hb2⟩
            have HB2 := Lib.hid (KB.call HB1.out hb2)
            clear hb2
            have c0 := keep_cell HB2.out (HP.out.row n hn4)
            go_wp2_with fail
            refine (between_any _ _ _ _).mono ?_
            rintro e w3 ⟨rfl, rfl⟩
            rw [HBT.out]
            go_wp2_with fail
            refine (HCP.out _).mono ?_
            rintro e w4 ⟨rfl, rfl⟩
            go_wp2_with fail
            refine (HNX.out _ HB2.out).mono ?_
            rintro e w5 ⟨rfl, hb5⟩
            have HB5 := Lib.hid (KB.call HB2.out hb5)
            clear hb5
            have c1 := keep_cell HB5.out (HP.out.row k hk4)
            go_wp2_with fail
            refine (between_any _ _ _ _).mono ?_
            rintro e w6 ⟨rfl, rfl⟩
            rw [HBX.out]
            go_wp2_with fail
            refine (HJ.out _ HB5.out).mono ?_
            rintro e w7 ⟨rfl, hex⟩
            have HT := Lib.hid (Turn.ahead HB5.out (Turn.of (HP.out.below HB5.out) hn4 hex HOKJ.out (bs := fun j => (ps j).b) (fun j hj => rfl)))
            obtain ⟨F', hpa, _, _⟩ := hex
            have HBK := Lib.hid (book_post (ps n).P n F' jrb w7 hpa HOKJ.out)
            have hV7 : Vars w7 := by obtain ⟨ps', h1, _⟩ := HT.out.ex; exact h1.posts.vars
            have HV7 := Lib.hid hV7
            clear hpa hV7
            go_wp2_with fail
            refine HBK.out.mono ?_
            rintro e w8 ⟨lv, rfl, hl8, ho8, hb8⟩
            obtain ⟨la, lc, rfl⟩ := own_shape hl8
            have hll : (allB jrb).length = lenB jrb := allB_len jrb
            have hle := lenB_le HOKJ.out
            have HB8 := Lib.hid hb8
            have HI := Lib.hid (itoa_any ((lenB jrb : Nat) : Int) (by omega) (by omega) w8 (HV7.out.below hb8))
            clear hl8 ho8 hb8
            rw [hll]
            go_wp2_with fail
            refine HI.out.mono ?_
            rintro e w9 ⟨rfl, hb9⟩
            have HB9 := Lib.hid (below_trans HB8.out hb9)
            clear hb9
            go_wp2
            go_ret2
            rw [HR.out]
            exact ⟨rfl, HT.out.more HB9.out⟩
      | false =>
        rw [hj] at HCP HR
        simp only [Bool.false_eq_true, if_false] at HR
        clear hj
        generalize otherW rw0 = ow at *
        have HPA := Lib.hid (fun W (hW : KB w W) => parse_any rw0 (by omega) W (HP.out.posts.vars.below hW))
        go_enter Tryz.func47, Tryz.ntmps47
        go_wp2_with fail
        refine HCU.out.mono ?_
        rintro e w1 ⟨rfl, hb1⟩
        have HB1 := Lib.hid hb1
        have HP1 := Lib.hid (HP.out.below hb1)
        clear hb1
        go_wp2_with fail
        refine (HNO.out _ HB1.out).mono ?_
        rintro e w2 ⟨rfl, hb2⟩
        have HB2 := Lib.hid (KB.call HB1.out hb2)
        clear hb2
        have c0 := keep_cell HB2.out (HP.out.row n hn4)
        go_wp2_with fail
        refine (between_any _ _ _ _).mono ?_
        rintro e w3 ⟨rfl, rfl⟩
        rw [HBT.out]
        go_wp2_with fail
        refine (HCP.out _).mono ?_
        rintro e w4 ⟨rfl, rfl⟩
        go_wp2_with fail
        refine (HPA.out _ HB2.out).mono ?_
        rintro e w5 ⟨⟨pv, rfl, hpv⟩, hb5⟩
        have hta := assert_deed hpv w5
        have htb := assert_ask hpv w5
        have HB5 := Lib.hid (KB.call HB2.out hb5)
        clear hb5 hpv c0
        cases hd : Cmd.deedO (parseB rw0) with
        | true =>
          rw [hd] at hta HR
          unfold ifV at hta
          simp only [if_true] at hta HR
          clear htb hd
          have HDO := Lib.hid (do_any (ps n).P n hn4 (ps n).F (ps n).b rw0 (by omega) w5 (by have h9 := (HP.out.below HB5.out).posts.post n hn4; rw [HP.out.num n hn4] at h9; exact h9) (HP.out.ok n hn4) (HP.out.posts.vars.below HB5.out) (HP.out.posts.free n hn4))
          have HOKD := Lib.hid (doB_ok (HP.out.ok n hn4) hn4 rw0)
          generalize doB (ps n).b n rw0 = dr at *
          obtain ⟨d0, d1, d2⟩ := dr
          go_wp2_with fail
          refine HDO.out.mono ?_
          rintro e w6 ⟨rfl, hex⟩
          have HT := Lib.hid (Turn.ahead HB5.out (Turn.of (HP.out.below HB5.out) hn4 hex HOKD.out (bs := fun j => (ps j).b) (fun j hj => rfl)))
          clear hex
          go_wp2
          go_ret2
          rw [HR.out]
          exact ⟨rfl, HT.out⟩
        | false =>
          rw [hd] at hta HR
          unfold ifV at hta
          simp only [Bool.false_eq_true, if_false] at hta HR
          clear hd
          cases hq : Cmd.askO (parseB rw0) with
          | true =>
            rw [hq] at htb HR
            unfold ifV at htb
            simp only [if_true] at htb HR
            have HAQ := Lib.hid (HASK.out n w5 hn4 HPV.out hq HB5.out)
            clear hq
            generalize askB (ps n).b rw0 = ar at *
            obtain ⟨a0, a1⟩ := ar
            go_wp2_with fail
            refine HAQ.out.mono ?_
            rintro e w6 ⟨rfl, hb6⟩
            have HB6 := Lib.hid (KB.call HB5.out hb6)
            clear hb6
            go_wp2
            go_ret2
            rw [HR.out]
            exact ⟨rfl, Turn.refl HP.out HB6.out⟩
          | false =>
            rw [hq] at htb HR
            unfold ifV at htb
            simp only [Bool.false_eq_true, if_false] at htb HR
            clear hq
            go_wp2
            go_ret2
            rw [HR.out]
            exact ⟨rfl, Turn.refl HP.out HB5.out⟩
end Go.Proofs.YtdfkaijeppdhaaaGreatDoor
/- Contracts: Play. -/
namespace Go.Proofs.YtdfkaijeppdhaaaGreatDoor
open Go.RowKit Go.Shelf
def errW : ByteArray := ⟨#[101, 114, 114, 111, 114, 32]⟩
def playA (r : ByteArray × Int) : ByteArray := if r.2 = 0 then r.1 else errW ++ itoaB r.2
def playN (askB : Book → ByteArray → ByteArray × Int) (lines : List ByteArray) : Nat → List ByteArray × (Nat → Book)
  | 0 => ([], fun _ => empB)
  | k + 1 => ((playN askB lines k).1 ++ [playA (doesB askB (playN askB lines k).2 (lines.getD k emp)).1], (doesB askB (playN askB lines k).2 (lines.getD k emp)).2)
theorem doesB_congr (askB : Book → ByteArray → ByteArray × Int) {bs bs' : Nat → Book} (h : ∀ j, j < 4 → bs j = bs' j) (line : ByteArray) : (doesB askB bs line).1 = (doesB askB bs' line).1 ∧ ∀ j, j < 4 → (doesB askB bs line).2 j = (doesB askB bs' line).2 j := by
  unfold doesB
  cases hp : postV (firstW line) with
  | none => exact ⟨rfl, h⟩
  | some n =>
    have hn := (postV_some hp).2
    have hset : ∀ (c c' : Book), c = c' → ∀ j, j < 4 → setN bs n c j = setN bs' n c' j := fun c c' e j hj => by
      unfold setN
      split
      · exact e
      · exact h j hj
    simp only
    rw [h n hn]
    split
    · cases hk : postV (otherW (restW line)) with
      | none => exact ⟨rfl, h⟩
      | some k =>
        simp only
        rw [h k (postV_some hk).2]
        exact ⟨rfl, hset _ _ rfl⟩
    · split
      · exact ⟨rfl, hset _ _ rfl⟩
      · split
        · exact ⟨rfl, h⟩
        · exact ⟨rfl, h⟩
theorem doB_err (b : Book) (n : Nat) (line : ByteArray) : 0 ≤ (doB b n line).2.1 ∧ (doB b n line).2.1 ≤ 1000 := by
  unfold doB
  split
  · simp
  · rename_i c hc
    split
    · simp
    · split
      · simp
      · split
        · simp
        · cases c <;> simp [sayB]
          split <;> simp
theorem doesB_err (askB : Book → ByteArray → ByteArray × Int) (hsm : ∀ b l, 0 ≤ (askB b l).2 ∧ (askB b l).2 ≤ 1000) (bs : Nat → Book) (line : ByteArray) : 0 ≤ (doesB askB bs line).1.2 ∧ (doesB askB bs line).1.2 ≤ 1000 := by
  unfold doesB
  split
  · simp
  · split
    · split
      · simp
      · simp only [joinV]
        split <;> simp
    · split
      · exact doB_err _ _ _
      · split
        · exact hsm _ _
        · simp
theorem play_len (askB : Book → ByteArray → ByteArray × Int) (lines : List ByteArray) : ∀ k, (playN askB lines k).1.length = k
  | 0 => rfl
  | k + 1 => by unfold playN; rw [List.length_append, play_len askB lines k]; rfl

theorem PostAt.types {w : World} {P n : Nat} {F : List Nat} {b : Book} (h : PostAt w P F n b) {k : Nat} (hk : k ∈ F) : ∃ cs t fr, w.heap[k]? = some (.cells cs t fr) ∧ (t = 81 ∨ t = 96 ∨ t = 43) := by
  obtain ⟨K, vs, hP, hvs, rfl⟩ := h.parts
  rcases List.mem_cons.1 hk with rfl | hk
  · exact ⟨_, _, _, hP, .inl rfl⟩
  · rcases List.mem_cons.1 hk with rfl | hk
    · exact ⟨_, _, _, hvs.cells, .inr (.inl rfl)⟩
    · obtain ⟨i, hi, h5⟩ := mem_blks.1 hk
      rcases (hvs.list i hi).2 with ⟨h1, _⟩ | ⟨g', cap', cur, h1, _, h2, _⟩
      · rw [h1] at h5; cases h5
      · rw [h1] at h5
        have : g' = k := by simpa [Value.ownBlock] using h5
        subst this
        exact ⟨_, _, _, h2, .inr (.inr rfl)⟩
theorem own_type {w : World} {base : Nat} {e : TypeId} {size : Nat} {v : Value} {n : Nat} {xs : List Value} (h : w.ownsRow base e size v n xs) {k : Nat} (hk : v.ownBlock = some k) : ∃ cur, w.heap[k]? = some (.cells cur e (0, 0)) := by
  rcases h.2 with ⟨h1, _⟩ | ⟨g', cap', cur, h1, _, h2, _⟩
  · rw [h1] at hk; cases hk
  · rw [h1] at hk
    have : g' = k := by simpa [Value.ownBlock] using hk
    subst this
    exact ⟨_, h2⟩
/-- A row of strings, or of posts, stands on no block of a post. -/
theorem PostAt.not_own {w : World} {P n : Nat} {F : List Nat} {b : Book} (h : PostAt w P F n b) {base : Nat} {e : TypeId} {size : Nat} {v : Value} {m : Nat} {xs : List Value} (hr : w.ownsRow base e size v m xs) (he : e ≠ 81 ∧ e ≠ 96 ∧ e ≠ 43) {k : Nat} (hk : k ∈ F) : v.ownBlock ≠ some k := fun hv => by
  obtain ⟨cs, t, fr, h1, h2⟩ := h.types hk
  obtain ⟨cur, h3⟩ := own_type hr hv
  rw [h1] at h3
  simp only [Option.some.injEq, Obj.cells.injEq] at h3
  obtain ⟨_, rfl, _⟩ := h3
  rcases h2 with h2 | h2 | h2
  · exact he.1 h2
  · exact he.2.1 h2
  · exact he.2.2 h2
theorem own_keep {w w' : World} {base : Nat} {e : TypeId} {size : Nat} {v : Value} {n : Nat} {xs : List Value} (h : w.ownsRow base e size v n xs) (hk : ∀ k, v.ownBlock = some k → w'.heap[k]? = w.heap[k]?) : w'.ownsRow base e size v n xs := by
  refine ⟨h.1, ?_⟩
  rcases h.2 with hn | ⟨g, cap, cur, rfl, hbg, hg, hrest⟩
  · exact .inl hn
  · exact .inr ⟨g, cap, cur, rfl, hbg, (hk g rfl).trans hg, hrest⟩
theorem Posts.grown {w w' : World} {m : Nat} {ps : Nat → Pst} (h : Posts w m ps) {base : Nat} {e : TypeId} {size : Nat} {v : Value} {n : Nat} {xs : List Value} (hr : w.ownsRow base e size v n xs) (he : e ≠ 81 ∧ e ≠ 96 ∧ e ≠ 43) (hv : ∀ k, isVar k → k < base) (hg : w.grownBy w' v.ownBlock) : Posts w' m ps :=
  h.keep (fun k hk => hg.block k (h.vars.lt hk) fun e2 => by have := (hr.lt k e2.symm).1; have := hv k hk; omega) fun i hi k hk => hg.block k (h.lt hi hk) fun e2 => (h.post i hi).not_own hr he hk e2.symm
def ptrs (ps : Nat → Pst) (k : Nat) : List Value := (List.range k).map fun j => .pointer (some ⟨(ps j).P, 0, none⟩)
theorem ptrs_snoc (ps : Nat → Pst) (k : Nat) (p : Pst) : ptrs (setS ps k p) (k + 1) = ptrs ps k ++ [.pointer (some ⟨p.P, 0, none⟩)] := by
  unfold ptrs
  rw [List.range_succ, List.map_append, List.map_singleton, setS_same]
  congr 1
  refine List.map_congr_left fun j hj => ?_
  rw [setS_other _ _ (by have := List.mem_range.1 hj; omega)]
theorem ptrs_at (ps : Nat → Pst) {k j : Nat} (h : j < k) : (ptrs ps k)[j]? = some (.pointer (some ⟨(ps j).P, 0, none⟩)) := by
  unfold ptrs
  rw [List.getElem?_map, List.getElem?_range h]; rfl
theorem Tryz.infoPtr : (Tryz.prog.info? 33).map (fun i => (i.zero, i.size, i.bytes)) = some (some (.pointer none), 1, 8) := by kernel_rfl
end Go.Proofs.YtdfkaijeppdhaaaGreatDoor

/- Texts of this claim, laid together: Fl, Fm. -/

/- Contracts: Play. -/
namespace Go.Proofs.YtdfkaijeppdhaaaGreatDoor
open Go.RowKit Go.Shelf
/-- What Play hands back. -/
def PlayPost (outs : List ByteArray) (w : World) (e : Ending) (w' : World) : Prop :=
  ∃ v, e = .returned (.tuple #[v, .int .i64 0]) ∧ w'.ownsRow w.heap.size 9 1 v outs.length (outs.map Value.string) ∧ Below w.heap.size w w'
theorem str_types : (9 : Nat) ≠ 81 ∧ (9 : Nat) ≠ 96 ∧ (9 : Nat) ≠ 43 := by decide
theorem ptr_types : (33 : Nat) ≠ 81 ∧ (33 : Nat) ≠ 96 ∧ (33 : Nat) ≠ 43 := by decide
structure Made (w : World) (k : Nat) (o : Value) (ps : Nat → Pst) (wr : World) : Prop where
  row : wr.ownsRow w.heap.size 33 1 o k (ptrs ps k)
  posts : Posts wr k ps
  news : ∀ j, j < k → (ps j).n = j ∧ (ps j).b = empB
  below : Below w.heap.size w wr
  fresh : ∀ j, j < k → ∀ g ∈ (ps j).F, w.heap.size ≤ g
structure Played (askB : Book → ByteArray → ByteArray × Int) (lines : List ByteArray) (w : World) (S k : Nat) (cur : Array Value) (o : Value) (ps : Nat → Pst) (wr : World) : Prop where
  row : wr.ownsRow w.heap.size 9 1 o k ((playN askB lines k).1.map Value.string)
  posts : PostsAt wr S ps
  books : ∀ j, j < 4 → (ps j).b = (playN askB lines k).2 j
  below : Below w.heap.size w wr
  slice : wr.heap[S]? = some (.cells cur 33 (0, 0))
  fresh : ∀ g ∈ U ps, w.heap.size ≤ g
theorem Made.next {w : World} {k : Nat} {o : Value} {ps : Nat → Pst} {wr : World} (h : Made w k o ps wr) (hV : ∀ j, isVar j → j < w.heap.size) {w1 w2 : World} {p : Pst} {v' : Value} {ob : Obj} (hp : PostAt w1 p.P p.F p.n p.b) (hF : NewOr wr [] p.F) (hb : Below wr.heap.size wr w1) (hn : p.n = k ∧ p.b = empB)
    (hrow : w2.ownsRow w.heap.size 33 1 v' (k + 1) (ptrs ps k ++ [.pointer (some ⟨p.P, 0, none⟩)])) (hg : (w1.alloc ob).grownBy w2 o.ownBlock) : Made w (k + 1) v' (setS ps k p) w2 := by
  have hr1 : (w1.alloc ob).ownsRow w.heap.size 33 1 o k (ptrs ps k) := own_below h.row (hb.alloc hb.size _)
  have hP1 := h.posts.grow hp hF hb
  have hP2 := hP1.below ((Below.refl _ w1).alloc (Nat.le_refl _) ob)
  have hsz := h.below.size
  have hsz2 := hb.size
  refine ⟨by rw [ptrs_snoc]; exact hrow, hP2.grown hr1 ptr_types hV hg, fun j hj => ?_, ?_, fun j hj g hg2 => ?_⟩
  · by_cases e : j = k
    · subst e; rw [setS_same]; exact hn
    · rw [setS_other _ _ e]; exact h.news j (by omega)
  · exact below_append (h.below.trans (hb.mono hsz)) (by omega) (own_below h.row hb) (Nat.le_refl _) hg
  · by_cases e : j = k
    · subst e
      rw [setS_same] at hg2
      have := (hF g hg2).resolve_left (by simp)
      omega
    · rw [setS_other _ _ e] at hg2
      exact h.fresh j (by omega) g hg2
theorem Played.next {askB : Book → ByteArray → ByteArray × Int} {lines : List ByteArray} {w : World} {S k : Nat} {cur : Array Value} {o : Value} {ps : Nat → Pst} {wr : World} (h : Played askB lines w S k cur o ps wr) (hV : ∀ j, isVar j → j < w.heap.size) {w1 w1' w2 : World} {v' : Value} {ob : Obj}
    (hT : Turn wr S ps (doesB askB (fun j => (ps j).b) (lines.getD k emp)).2 w1) (hb1 : Below w1.heap.size w1 w1')
    (hrow : w2.ownsRow w.heap.size 9 1 v' (k + 1) ((playN askB lines k).1.map Value.string ++ [.string (playA (doesB askB (fun j => (ps j).b) (lines.getD k emp)).1)])) (hg : (w1'.alloc ob).grownBy w2 o.ownBlock) : ∃ ps', Played askB lines w S (k + 1) cur v' ps' w2 := by
  obtain ⟨ps', h1, h2, h3, h4⟩ := (hT.more (hb1.alloc hb1.size ob)).ex
  have hsz := h.below.size
  have hrx : (w1'.alloc ob).ownsRow w.heap.size 9 1 o k ((playN askB lines k).1.map Value.string) := own_keep h.row fun g hg0 => h4.block g (by have := h.row.lt g hg0; exact this.2) fun hm => by
    obtain ⟨i, hi, hm⟩ := mem_U.1 hm
    exact (h.posts.posts.post i hi).not_own h.row str_types hm hg0
  have hfr : ∀ g ∈ U ps', w.heap.size ≤ g := fun g hm => (h3 g hm).elim (h.fresh g) (fun h9 => Nat.le_trans hsz h9)
  have hbx : Below w.heap.size w (w1'.alloc ob) := h.below.trans (h4.below hsz h.fresh)
  have hcg := doesB_congr askB h.books (lines.getD k emp)
  have hS : (w1'.alloc ob).heap[S]? = some (.cells cur 33 (0, 0)) := (h4.block S h.posts.lt h.posts.own).trans h.slice
  have hoS : some S ≠ o.ownBlock := fun e => by
    obtain ⟨c2, h9⟩ := own_type hrx e.symm
    rw [hS] at h9
    simp at h9
  have hSg : w2.heap[S]? = (w1'.alloc ob).heap[S]? := hg.block S (Array.getElem?_eq_some_iff.1 hS).1 hoS
  refine ⟨ps', ⟨by
    have : (playN askB lines (k + 1)).1 = (playN askB lines k).1 ++ [playA (doesB askB (fun j => (ps j).b) (lines.getD k emp)).1] := by rw [hcg.1]; rfl
    rw [this, List.map_append]; exact hrow, ⟨h1.posts.grown hrx str_types hV hg, fun j hj => ?_, h1.own, h1.ok, h1.num⟩, fun j hj => ?_, ?_, hSg.trans hS, hfr⟩⟩
  · rw [World.cell?_of_block hSg]; exact h1.row j hj
  · rw [h2 j hj, hcg.2 j hj]; rfl
  · exact hbx.grown hg (by have := hbx.size; omega) (fun g e => (hrx.lt g e).1)
set_option maxRecDepth 100000 in
set_option maxHeartbeats 8000000 in
theorem play_any (askB : Book → ByteArray → ByteArray × Int) (hsm : ∀ b l, 0 ≤ (askB b l).2 ∧ (askB b l).2 ≤ 1000) (lv : Value) (lines : List ByteArray) (w : World) (hL : StrsAt w lv lines) (hl : lines.length ≤ 100) (hsz : ∀ x ∈ lines, x.size ≤ 1000000) (hV : Vars w)
    (hask : ∀ k, k < lines.length → ∀ P n F b W, n < 4 → PostAt W P F n b → BookOk b → Vars W → Cmd.askO (parseB (restW (lines.getD k emp))) = true → Calls Tryz.prog 36 #[.pointer (some ⟨P, 0, none⟩), .string (restW (lines.getD k emp))] W (AnsPost (askB b (restW (lines.getD k emp))) W)) :
    Calls Tryz.prog 17 #[lv] w (PlayPost (playN askB lines lines.length).1 w) := by
  obtain ⟨i0, hi0, hz0, hz1, hz2⟩ := info_parts Tryz.infoPtr
  obtain ⟨i1, hi1, hy0, hy1, hy2⟩ := info_parts Tryz.infoStr
  have HV := Lib.hid hV
  have HVL := Lib.hid (fun j hj => hV.lt (k := j) hj)
  have HASK := Lib.hid hask
  have HSZ := Lib.hid hsz
  obtain ⟨la, lcap, rfl, hcap, hcc, hq⟩ := hL
  have HQ := Lib.hid hq
  obtain ⟨nl, hnl⟩ : ∃ nl, nl = lines.length := ⟨_, rfl⟩
  have HN := Lib.hid hnl
  rw [← hnl] at hcap hl ⊢
  have HLI : Hid (∀ k, k < nl → ∃ b off, la = some ⟨b, off, none⟩ ∧ w.cell? ⟨b, off + k, none⟩ = some (.string (lines.getD k emp))) := Lib.hid (fun k hk => by
    obtain ⟨b, off, h1, h2⟩ := hq (by omega)
    exact ⟨b, off, h1, h2 k (by omega)⟩)
  clear hnl hV hask hsz hq
  go_enter Tryz.func17, Tryz.ntmps17
  go_wp2
  go_loopw [4, 16] (fun o i wr => ∃ (k : Nat) (ps : Nat → Pst), k ≤ 4 ∧ i = .int .i64 k ∧ Hid (Made w k o ps wr)) (fun _ i _ => 4 - (intOf i).toNat)
  case atStart => exact ⟨0, fun _ => ⟨0, [], 0, empB⟩, by omega, rfl, Lib.hid ⟨World.ownsRow_nil _ _ _ _, Posts.nil HV.out _, fun j hj => by omega, Below.refl _ _, fun j hj => by omega⟩⟩
  case round =>
    obtain ⟨k, ps, hk, rfl, hm⟩ := hrel
    by_cases hlt : k < 4
    · have hlt2 : (k : Int) < 4 := by omega
      have hrow := hm.out.row
      obtain ⟨oa, oc, rfl⟩ := own_shape hrow
      have hb1 : Below wr.heap.size wr ((wr.alloc (.cells #[.slice none 0 0, .slice none 0 0, .slice none 0 0, .slice none 0 0] 96)).alloc (.cells #[.pointer (some ⟨wr.heap.size, 0, none⟩), .int .i64 k] 81)) := ((Below.refl _ _).alloc (Nat.le_refl _) _).alloc (by simp) _
      have HNP := Lib.hid (new_post k wr)
      have HNW := Lib.hid (new_any k hlt wr)
      have hszr := hm.out.below.size
      clear hrow
      go_wp2_with fail
      refine HNW.out.mono ?_
      rintro e w1 ⟨rfl, hw1⟩
      rw [← hw1] at hb1 HNP
      have HO1 := Lib.hid (own_below hm.out.row hb1)
      have HB1 := Lib.hid hb1
      have hsz2 : w.heap.size ≤ w1.heap.size := Nat.le_trans hszr hb1.size
      clear hw1 hb1
      go_wp2_with (at_builtin; refine wpList_append_own _ rfl _ _ 31 rfl w.heap.size 33 i0 (.pointer none) 1 8 Tryz.underlying31 hi0 hz0 hz1 hz2 rfl (by decide) _ _ _ rfl (HO1.out.alloc _) ⟨w1.heap.size, 0, none⟩ 1 1 [.pointer (some ⟨wr.heap.size + 1, 0, none⟩)] rfl rfl ?c1 ?c2 ?c3 ?c4 ?c5 ?_)
      case c1 => exact (cell_one_new _ _ _)
      case c2 => intro u hu; simp at hu; subst hu; rfl
      case c3 => unfold maxLen; omega
      case c4 => omega
      case c5 => simp; omega
      · intro v' w2 hown' hgrow _
        have HM := Lib.hid (hm.out.next HVL.out (p := ⟨wr.heap.size + 1, [wr.heap.size + 1, wr.heap.size], k, empB⟩) HNP.out (fun g hg => .inr (by simp at hg; omega)) HB1.out ⟨rfl, rfl⟩ hown' hgrow)
        clear hown' hgrow
        go_wp2
        go_roundw
        case rel => exact ⟨k + 1, _, by omega, by go_num, HM⟩
        case measure => simp [intOf]; omega
    · have e : k = 4 := by omega
      subst e
      rw [show ((4 : Nat) : Int) = 4 from rfl]
      have hrow := hm.out.row
      obtain ⟨S, cap, cur, hos, _, hScur, _⟩ := hrow.2.resolve_left (fun h => by simp at h)
      subst hos
      have HP0 : Hid (Played askB lines w S 0 cur (.slice none 0 0) ps wr) := Lib.hid (by
        refine ⟨World.ownsRow_nil _ _ _ _, ⟨hm.out.posts, fun j hj => ?_, fun hmm => ?_, fun j hj => ?_, fun j hj => (hm.out.news j hj).1⟩, fun j hj => (hm.out.news j hj).2, hm.out.below, hScur, fun g hg => ?_⟩
        · have h9 := hrow.cellAt j (by omega)
          rw [h9, ptrs_at ps hj]
        · obtain ⟨i, hi, hmm⟩ := mem_U.1 hmm
          exact (hm.out.posts.post i hi).not_own hrow ptr_types hmm rfl
        · rw [(hm.out.news j hj).2]; exact empB_ok
        · obtain ⟨i, hi, hg⟩ := mem_U.1 hg
          exact hm.out.fresh i hi g hg)
      clear hrow hScur
      go_wp2
      obtain ⟨wo, hwo⟩ : ∃ wo, wo = wr := ⟨_, rfl⟩
      subst hwo
      go_loopw [8, 31] (fun o i wr => ∃ (k : Nat) (ps : Nat → Pst), k ≤ nl ∧ i = .int .i64 k ∧ Hid (Played askB lines w S k cur o ps wr)) (fun _ i _ => nl - (intOf i).toNat)
      case atStart => exact ⟨0, _, Nat.zero_le _, rfl, HP0⟩
      case round =>
        obtain ⟨k, ps, hk, rfl, hp⟩ := hrel
        have hrow := hp.out.row
        obtain ⟨oa, oc, rfl⟩ := own_shape hrow
        clear hrow
        by_cases hlt : k < nl
        · obtain ⟨lb, loff, rfl, hc0⟩ := HLI.out k hlt
          have hc := keep_cell hp.out.below hc0
          have hxs := HSZ.out (lines.getD k emp) (by rw [List.getD_eq_getElem?_getD, List.getElem?_eq_getElem (by rw [← HN.out]; exact hlt)]; exact List.getElem_mem _)
          have hszr := hp.out.below.size
          have HD := Lib.hid (does_any askB (lines.getD k emp) hxs wr S cap ps hp.out.posts (fun i W hi _ hq hb => HASK.out k (by rw [← HN.out]; exact hlt) _ i _ _ W hi (by have h9 := (hp.out.posts.below hb).posts.post i hi; rw [hp.out.posts.num i hi] at h9; exact h9) (hp.out.posts.ok i hi) (hp.out.posts.posts.vars.below hb) hq))
          have HER := Lib.hid (doesB_err askB hsm (fun j => (ps j).b) (lines.getD k emp))
          have HNXT := Lib.hid (fun w1 w1' w2 v' ob (hT : Turn wr S ps (doesB askB (fun j => (ps j).b) (lines.getD k emp)).2 w1) (hb1 : Below w1.heap.size w1 w1') hrow hg => hp.out.next HVL.out (w1 := w1) (w1' := w1') (w2 := w2) (v' := v') (ob := ob) hT hb1 hrow hg)
          have hpl := play_len askB lines k
          unfold DoesPost at HD
          generalize lines.getD k emp = x at *
          generalize doesB askB (fun j => (ps j).b) x = r at *
          obtain ⟨⟨ra, re⟩, rb⟩ := r
          simp only at HER
          clear hc0
          by_cases hz : re = 0
          · subst hz
            go_wp2_with fail
            refine HD.out.mono ?_
            rintro e w1 ⟨rfl, hT⟩
            have HT := Lib.hid hT
            have HO1 : Hid (w1.ownsRow w.heap.size 9 1 (.slice oa k oc) k ((playN askB lines k).1.map Value.string)) := Lib.hid (by
              obtain ⟨ps', h1, h2, h3, h4⟩ := hT.ex
              exact own_keep hp.out.row fun g hg0 => h4.block g (hp.out.row.lt g hg0).2 fun hm => by
                obtain ⟨i, hi, hm⟩ := mem_U.1 hm
                exact (hp.out.posts.posts.post i hi).not_own hp.out.row str_types hm hg0)
            have hsz2 : w.heap.size ≤ w1.heap.size := by obtain ⟨ps', h1, h2, h3, h4⟩ := hT.ex; have := h4.size; omega
            clear hT
            go_wp2_with (at_builtin; refine wpList_append_own _ rfl _ _ 22 rfl w.heap.size 9 i1 (.string ⟨#[]⟩) 1 16 Tryz.underlying22 hi1 hy0 hy1 hy2 rfl (by decide) _ _ _ rfl (HO1.out.alloc _) ⟨w1.heap.size, 0, none⟩ 1 1 [.string ra] rfl rfl ?c1 ?c2 ?c3 ?c4 ?c5 ?_)
            case c1 => exact (cell_one_new _ _ _)
            case c2 => intro u hu; simp at hu; subst hu; rfl
            case c3 => unfold maxLen; omega
            case c4 => omega
            case c5 => simp; omega
            · intro v' w2 hown' hgrow _
              have HM := Lib.hid (HNXT.out _ _ w2 v' _ HT.out (Below.refl _ _) hown' hgrow)
              obtain ⟨psn, h9⟩ := HM.out
              have HMN := Lib.hid h9
              clear hown' hgrow HM h9
              go_wp2
              go_roundw
              case rel => exact ⟨k + 1, psn, by omega, by go_num, HMN⟩
              case measure => simp [intOf]; omega
          · have z0 : (re != 0) = true := by simpa using hz
            go_wp2_with fail
            refine HD.out.mono ?_
            rintro e w1 ⟨rfl, hT⟩
            have HV1 : Hid (Vars w1) := Lib.hid (by obtain ⟨ps', h1, _⟩ := hT.ex; exact h1.posts.vars)
            have HT := Lib.hid hT
            have HO1 : Hid (w1.ownsRow w.heap.size 9 1 (.slice oa k oc) k ((playN askB lines k).1.map Value.string)) := Lib.hid (by
              obtain ⟨ps', h1, h2, h3, h4⟩ := hT.ex
              exact own_keep hp.out.row fun g hg0 => h4.block g (hp.out.row.lt g hg0).2 fun hm => by
                obtain ⟨i, hi, hm⟩ := mem_U.1 hm
                exact (hp.out.posts.posts.post i hi).not_own hp.out.row str_types hm hg0)
            have hsz2 : w.heap.size ≤ w1.heap.size := by obtain ⟨ps', h1, h2, h3, h4⟩ := hT.ex; have := h4.size; omega
            have HI := Lib.hid (itoa_any re (by have := HER.out; omega) (by have := HER.out; omega) w1 HV1.out)
            have HPA : Hid (playA (ra, re) = (⟨#[101, 114, 114, 111, 114, 32]⟩ : ByteArray) ++ itoaB re) := Lib.hid (by unfold playA errW; rw [if_neg hz])
            have hadd : ¬ 9223372036854775807 < 6 + (itoaB re).size := by
              have h9 := itoa_short (n := re) HER.out.1 (by have := HER.out; omega)
              rw [ba_size, show (itoaB re).data.toList = Lib.itoa re from rfl]; omega
            rw [HPA.out] at HNXT
            clear hT
            go_wp2_with fail
            refine HI.out.mono ?_
            rintro e w3 ⟨rfl, hb3⟩
            have HO3 := Lib.hid (own_below HO1.out hb3)
            have hsz3 : w.heap.size ≤ w3.heap.size := Nat.le_trans hsz2 hb3.size
            have HB3 := Lib.hid hb3
            clear hb3
            go_wp2_with (at_builtin; refine wpList_append_own _ rfl _ _ 22 rfl w.heap.size 9 i1 (.string ⟨#[]⟩) 1 16 Tryz.underlying22 hi1 hy0 hy1 hy2 rfl (by decide) _ _ _ rfl (HO3.out.alloc _) ⟨w3.heap.size, 0, none⟩ 1 1 [.string ((⟨#[101, 114, 114, 111, 114, 32]⟩ : ByteArray) ++ itoaB re)] rfl rfl ?c1 ?c2 ?c3 ?c4 ?c5 ?_)
            case c1 => exact (cell_one_new _ _ _)
            case c2 => intro u hu; simp at hu; subst hu; rfl
            case c3 => unfold maxLen; omega
            case c4 => omega
            case c5 => simp; omega
            · intro v' w2 hown' hgrow _
              have HM := Lib.hid (HNXT.out _ _ w2 v' _ HT.out HB3.out hown' hgrow)
              obtain ⟨psn, h9⟩ := HM.out
              have HMN := Lib.hid h9
              clear hown' hgrow HM h9
              go_wp2
              go_roundw
              case rel => exact ⟨k + 1, psn, by omega, by go_num, HMN⟩
              case measure => simp [intOf]; omega
        · have e : k = nl := by omega
          subst e
          have HR := Lib.hid hp.out.row
          have HBE := Lib.hid hp.out.below
          have hpl := play_len askB lines k
          go_wp2
          go_ret2
          exact ⟨_, rfl, by rw [hpl]; exact HR.out, HBE.out⟩
end Go.Proofs.YtdfkaijeppdhaaaGreatDoor
/- Contracts: Same of two lists of strings; Sane. -/
namespace Go.Proofs.YtdfkaijeppdhaaaGreatDoor
open Go.RowKit Go.Shelf
/-- A slice of strings. -/
def StrsW (w : World) (v : Value) (l : List ByteArray) : Prop := ∃ (a : Option Addr) (cap : Nat), v = .slice a l.length cap ∧ (0 < l.length → ∃ b off, a = some ⟨b, off, none⟩ ∧ ∀ j, j < l.length → w.cell? ⟨b, off + j, none⟩ = some (.string (l.getD j emp)))
theorem StrsW.below {w w' : World} {v : Value} {l : List ByteArray} (h : StrsW w v l) (hb : Below w.heap.size w w') : StrsW w' v l := by
  obtain ⟨a, cap, rfl, h⟩ := h
  refine ⟨a, cap, rfl, fun h0 => ?_⟩
  obtain ⟨b, off, ha, hc⟩ := h h0
  exact ⟨b, off, ha, fun j hj => keep_cell hb (hc j hj)⟩
theorem strsW_own {base : Nat} {w : World} {v : Value} {l : List ByteArray} (h : w.ownsRow base 9 1 v l.length (l.map Value.string)) : StrsW w v l := by
  rcases h.2 with ⟨rfl, h0⟩ | ⟨g, cap, cur, rfl, hrest⟩
  · exact ⟨none, 0, by rw [h0], fun h1 => by omega⟩
  · refine ⟨some ⟨g, 0, none⟩, cap, rfl, fun _ => ⟨g, 0, rfl, fun j hj => ?_⟩⟩
    have := h.cellAt j (by omega)
    rw [Nat.zero_add, this, List.getElem?_map, List.getElem?_eq_getElem hj, List.getD_eq_getElem?_getD, List.getElem?_eq_getElem hj]
    rfl
theorem take_next {l m : List ByteArray} {k : Nat} (hl : k < l.length) (hm : k < m.length) (h : l.take k = m.take k) (hx : l.getD k emp = m.getD k emp) : l.take (k + 1) = m.take (k + 1) := by
  rw [List.take_succ_eq_append_getElem hl, List.take_succ_eq_append_getElem hm, h]
  rw [List.getD_eq_getElem?_getD, List.getD_eq_getElem?_getD, List.getElem?_eq_getElem hl, List.getElem?_eq_getElem hm] at hx
  simp at hx
  rw [hx]
set_option maxRecDepth 100000 in
set_option maxHeartbeats 4000000 in
theorem sameS_any (v v2 : Value) (l m : List ByteArray) (hl6 : l.length ≤ 1000000) (w : World) (h : StrsW w v l) (h2 : StrsW w v2 m) :
    Calls Tryz.prog 19 #[v, v2] w (BoolPost (decide (l = m)) w) := by
  obtain ⟨a, cap, rfl, h⟩ := h
  obtain ⟨a2, cap2, rfl, h2⟩ := h2
  obtain ⟨R, hR⟩ : ∃ R, R = decide (l = m) := ⟨_, rfl⟩
  have HR := Lib.hid hR
  rw [← hR]
  clear hR
  by_cases hlen : l.length = m.length
  · have HC1 := Lib.hid (fun k (hk : k < l.length) => (h (by omega)))
    have HC2 := Lib.hid (fun k (hk : k < m.length) => (h2 (by omega)))
    have HE := Lib.hid hlen
    rw [hlen]
    obtain ⟨n, hn⟩ : ∃ n, n = m.length := ⟨_, rfl⟩
    have HN := Lib.hid hn
    rw [← hn]
    have hn6 : n ≤ 1000000 := by omega
    clear h h2 hlen hn
    go_enter Tryz.func19, Tryz.ntmps19
    go_wp2
    go_loopw [5] (fun i wr => ∃ k : Nat, k ≤ n ∧ i = .int .i64 k ∧ Hid (l.take k = m.take k) ∧ Below w.heap.size w wr) (fun i _ => n - (intOf i).toNat)
    case atStart => exact ⟨0, Nat.zero_le _, rfl, Lib.hid rfl, Below.refl _ _⟩
    case round =>
      obtain ⟨k, hk, rfl, ht, hb⟩ := hrel
      by_cases hlt : k < n
      · obtain ⟨b, off, rfl, hc⟩ := HC1.out k (by rw [HE.out, ← HN.out]; exact hlt)
        obtain ⟨b2, off2, rfl, hc2⟩ := HC2.out k (by rw [← HN.out]; exact hlt)
        have c1 := keep_cell hb (hc k (by rw [HE.out, ← HN.out]; exact hlt))
        have c2 := keep_cell hb (hc2 k (by rw [← HN.out]; exact hlt))
        have HT := Lib.hid (fun hx => take_next (l := l) (m := m) (k := k) (by rw [HE.out, ← HN.out]; exact hlt) (by rw [← HN.out]; exact hlt) ht.out hx)
        have HX := Lib.hid (fun (hx : l.getD k emp ≠ m.getD k emp) => show R = false by
          rw [HR.out, decide_eq_false]
          rintro rfl
          exact hx rfl)
        have HB := Lib.hid hb
        clear hc hc2 hb
        generalize l.getD k emp = x at *
        generalize m.getD k emp = y at *
        by_cases hxy : x = y
        · subst hxy
          have HTT := Lib.hid (HT.out rfl)
          go_wp2
          go_quiet (fail)
          go_wp2
          go_roundw
          case rel => exact ⟨k + 1, by omega, by go_num, HTT, belowD HB.out _⟩
          case measure => simp [intOf]; omega
        · have z0 := ba_lne hxy
          have HXX := Lib.hid (HX.out hxy)
          clear hxy
          go_wp2
          go_quiet (fail)
          go_wp2
          go_ret
          rw [HXX.out]
          exact ⟨rfl, belowD HB.out _⟩
      · have e : k = n := by omega
        have HXX : Hid (R = true) := Lib.hid (by
          have h9 := ht.out
          rw [e, HN.out] at h9
          rw [List.take_length, ← HE.out, List.take_length] at h9
          rw [HR.out, h9, decide_eq_true rfl])
        clear e
        go_wp2
        go_ret
        rw [HXX.out]
        exact ⟨rfl, hb⟩
  · have HXX : Hid (R = false) := Lib.hid (by rw [HR.out, decide_eq_false]; rintro rfl; exact hlen rfl)
    have z0 : ¬ (l.length : Int) = (m.length : Int) := by omega
    generalize l.length = n1 at *
    generalize m.length = n2 at *
    clear h h2
    go_enter Tryz.func19, Tryz.ntmps19
    go_wp2
    go_ret
    rw [HXX.out]
    exact ⟨rfl, Below.refl _ _⟩

def askT (b : Book) (line : ByteArray) : ByteArray × Int := match parseB line with
  | some (.asked 0 names _) => askedV ansText names (saysB (allB b))
  | _ => (emp, 0)
def saneL : List ByteArray := [⟨#[48, 32, 112, 117, 116, 32, 97, 32, 120]⟩, ⟨#[49, 32, 112, 117, 116, 32, 97, 32, 121]⟩, ⟨#[48, 32, 106, 111, 105, 110, 32, 49]⟩, ⟨#[48, 32, 116, 101, 120, 116, 32, 97]⟩]
theorem sane_play : (playN askT saneL 4).1 = [⟨#[120]⟩, ⟨#[121]⟩, ⟨#[50]⟩, ⟨#[121]⟩] := by kernel_rfl
theorem sane_ask : ∀ k, k < 4 → Cmd.askO (parseB (restW (saneL.getD k emp))) = true → parseB (restW (saneL.getD k emp)) = some (.asked 0 [⟨#[97]⟩] []) := by
  intro k hk h
  rcases (show k = 0 ∨ k = 1 ∨ k = 2 ∨ k = 3 by omega) with rfl | rfl | rfl | rfl
  · exact absurd h (by rw [show Cmd.askO (parseB (restW (saneL.getD 0 emp))) = false by kernel_rfl]; decide)
  · exact absurd h (by rw [show Cmd.askO (parseB (restW (saneL.getD 1 emp))) = false by kernel_rfl]; decide)
  · exact absurd h (by rw [show Cmd.askO (parseB (restW (saneL.getD 2 emp))) = false by kernel_rfl]; decide)
  · kernel_rfl
theorem askT_small (b : Book) (l : ByteArray) : 0 ≤ (askT b l).2 ∧ (askT b l).2 ≤ 1000 := by
  unfold askT
  split
  · unfold askedV ansText
    split <;> simp
  · simp

theorem ask_text_any (P n : Nat) (F : List Nat) (b : Book) (line : ByteArray) (hs : line.size ≤ 1000000) (w : World) (h : PostAt w P F n b) (hok : BookOk b) (hV : Vars w) (names : List ByteArray) (ns : List Int) (hc : parseB line = some (.asked 0 names ns)) (h0 : 0 < names.length) (hl : names.length ≤ 1000) :
    Calls Tryz.prog 36 #[.pointer (some ⟨P, 0, none⟩), .string line] w (AnsPost (askedV ansText names (saysB (allB b))) w) :=
  askq_asked P n F b line hs w h hok hV 0 names ns hc h0 hl ansText (enters_of Tryz.func116 (by kernel_rfl) rfl) fun W base tv bv ts _ _ hrow _ hts => by
    have hlen := allS_len _ _ _ hts
    exact text_kind W base tv bv ts hrow (by omega) (by omega)
set_option maxRecDepth 100000 in
set_option maxHeartbeats 4000000 in
theorem sane_any (w : World) (hV : Vars w) : Calls Tryz.prog 16 #[] w (BoolPost true w) := by
  obtain ⟨w1, hw1⟩ : ∃ w1, w1 = w.alloc (.cells #[.string ⟨#[48, 32, 112, 117, 116, 32, 97, 32, 120]⟩, .string ⟨#[49, 32, 112, 117, 116, 32, 97, 32, 121]⟩, .string ⟨#[48, 32, 106, 111, 105, 110, 32, 49]⟩, .string ⟨#[48, 32, 116, 101, 120, 116, 32, 97]⟩] 9) := ⟨_, rfl⟩
  have hb1 : Below w.heap.size w w1 := by rw [hw1]; exact (Below.refl _ _).alloc (Nat.le_refl _) _
  have hc1 : w1.heap[w.heap.size]? = some (.cells #[.string ⟨#[48, 32, 112, 117, 116, 32, 97, 32, 120]⟩, .string ⟨#[49, 32, 112, 117, 116, 32, 97, 32, 121]⟩, .string ⟨#[48, 32, 106, 111, 105, 110, 32, 49]⟩, .string ⟨#[48, 32, 116, 101, 120, 116, 32, 97]⟩] 9 (0, 0)) := by rw [hw1]; exact World.alloc_heap_new w _
  have hL : StrsAt w1 (.slice (some ⟨w.heap.size, 0, none⟩) 4 4) saneL := ⟨_, 4, rfl, by decide, by omega, fun _ => ⟨w.heap.size, 0, rfl, fun j hj => by
    have hj4 : j < 4 := hj
    rcases (show j = 0 ∨ j = 1 ∨ j = 2 ∨ j = 3 by omega) with rfl | rfl | rfl | rfl <;> exact heap_cell hc1 rfl⟩⟩
  have HB1 := Lib.hid hb1
  have HPL := Lib.hid (play_any askT askT_small _ saneL w1 hL (by decide) (fun x hx => by
    simp only [saneL, List.mem_cons, List.not_mem_nil, or_false] at hx
    rcases hx with rfl | rfl | rfl | rfl <;> decide) (hV.below hb1) (fun k hk P n F b W hn hp hok hv hq => by
      have h9 := sane_ask k hk hq
      have h8 := ask_text_any P n F b _ (by
        have h7 := rest_size (saneL.getD k emp)
        have h6 : (saneL.getD k emp).size ≤ 100 := by
          have hk4 : k < 4 := hk
          rcases (show k = 0 ∨ k = 1 ∨ k = 2 ∨ k = 3 by omega) with rfl | rfl | rfl | rfl <;> decide
        omega) W hp hok hv _ _ h9 (by decide) (by decide)
      rw [show askT b (restW (saneL.getD k emp)) = askedV ansText [⟨#[97]⟩] (saysB (allB b)) by unfold askT; rw [h9]; rfl]
      exact h8))
  rw [show (playN askT saneL saneL.length).1 = [⟨#[120]⟩, ⟨#[121]⟩, ⟨#[50]⟩, ⟨#[121]⟩] from sane_play] at HPL
  have HW1 := Lib.hid hw1
  clear hb1 hc1 hL hw1 hV
  go_enter Tryz.func16, Tryz.ntmps16
  go_wp2_with fail
  rw [← HW1.out]
  refine HPL.out.mono ?_
  rintro e w2 ⟨v, rfl, hown, hb2⟩
  have HB2 := Lib.hid (below_trans HB1.out hb2)
  obtain ⟨w3, hw3⟩ : ∃ w3, w3 = w2.alloc (.cells #[.string ⟨#[120]⟩, .string ⟨#[121]⟩, .string ⟨#[50]⟩, .string ⟨#[121]⟩] 9) := ⟨_, rfl⟩
  have hb3 : Below w2.heap.size w2 w3 := by rw [hw3]; exact (Below.refl _ _).alloc (Nat.le_refl _) _
  have hc3 : w3.heap[w2.heap.size]? = some (.cells #[.string ⟨#[120]⟩, .string ⟨#[121]⟩, .string ⟨#[50]⟩, .string ⟨#[121]⟩] 9 (0, 0)) := by rw [hw3]; exact World.alloc_heap_new w2 _
  have HSM := Lib.hid (sameS_any v (.slice (some ⟨w2.heap.size, 0, none⟩) 4 4) [⟨#[120]⟩, ⟨#[121]⟩, ⟨#[50]⟩, ⟨#[121]⟩] [⟨#[120]⟩, ⟨#[121]⟩, ⟨#[50]⟩, ⟨#[121]⟩] (by decide) w3 ((strsW_own hown).below hb3) ⟨_, 4, rfl, fun _ => ⟨w2.heap.size, 0, rfl, fun j hj => by
    have hj4 : j < 4 := hj
    rcases (show j = 0 ∨ j = 1 ∨ j = 2 ∨ j = 3 by omega) with rfl | rfl | rfl | rfl <;> exact heap_cell hc3 rfl⟩⟩)
  rw [decide_eq_true rfl] at HSM
  have HB3 := Lib.hid (below_trans HB2.out hb3)
  have HW3 := Lib.hid hw3
  clear hown hb2 hb3 hc3 hw3
  go_wp2_with fail
  rw [← HW3.out]
  refine HSM.out.mono ?_
  rintro e w4 ⟨rfl, hb4⟩
  have HB4 := Lib.hid (below_trans HB3.out hb4)
  clear hb4
  go_wp2
  go_ret
  exact ⟨rfl, HB4.out⟩
end Go.Proofs.YtdfkaijeppdhaaaGreatDoor

/- Posts together, told by where they lie, their numbers and their books: what the laws' walks need of every method (Post). -/
namespace Go.Proofs.YtdfkaijeppdhaaaGreatDoor
open Go.RowKit Go.Shelf
def isPostT (t : Nat) : Prop := t = 81 ∨ t = 96 ∨ t = 43
/-- Of what was there only blocks of posts, from base on, may have turned. -/
structure Kin (base : Nat) (w w' : World) : Prop where
  os : w'.os = w.os
  tape : w'.tape = w.tape
  output : w'.output = w.output
  size : w.heap.size ≤ w'.heap.size
  block : ∀ k, k < w.heap.size → w'.heap[k]? = w.heap[k]? ∨ base ≤ k ∧ ∃ cs t fr, w.heap[k]? = some (.cells cs t fr) ∧ isPostT t
theorem Kin.refl (base : Nat) (w : World) : Kin base w w := ⟨rfl, rfl, rfl, Nat.le_refl _, fun _ _ => .inl rfl⟩
theorem Kin.trans {base : Nat} {a b c : World} (h : Kin base a b) (k : Kin base b c) : Kin base a c :=
  ⟨k.os.trans h.os, k.tape.trans h.tape, k.output.trans h.output, Nat.le_trans h.size k.size, fun i hi => by
    rcases h.block i hi with h1 | h1
    · rcases k.block i (Nat.lt_of_lt_of_le hi h.size) with h2 | ⟨h2, cs, t, fr, h3, h4⟩
      · exact .inl (h2.trans h1)
      · exact .inr ⟨h2, cs, t, fr, h1.symm.trans h3, h4⟩
    · exact .inr h1⟩
theorem Kin.of_below {base : Nat} {w w' : World} (h : Below w.heap.size w w') : Kin base w w' := ⟨h.os, h.tape, h.output, h.size, fun k hk => .inl (h.block k hk)⟩
theorem Kin.of_off {base : Nat} {w w' : World} {P n : Nat} {F : List Nat} {b : Book} (h : PostAt w P F n b) (hF : ∀ k ∈ F, base ≤ k) (ho : Off F w w') : Kin base w w' :=
  ⟨ho.os, ho.tape, ho.output, ho.size, fun k hk => by
    by_cases hm : k ∈ F
    · obtain ⟨cs, t, fr, h1, h2⟩ := h.types hm
      exact .inr ⟨hF k hm, cs, t, fr, h1, h2⟩
    · exact .inl (ho.block k hk hm)⟩
theorem Kin.below {base : Nat} {w w' : World} (h : Kin base w w') (hb : base ≤ w.heap.size) : Below base w w' :=
  ⟨h.os, h.tape, h.output, h.size, fun k hk => (h.block k (Nat.lt_of_lt_of_le hk hb)).resolve_right fun h1 => by omega⟩
/-- A block that is no post's stays. -/
theorem Kin.keep {base : Nat} {w w' : World} (h : Kin base w w') {k : Nat} {cs : Array Value} {t : TypeId} {fr : Nat × Nat} (hk : w.heap[k]? = some (.cells cs t fr)) (ht : ¬ isPostT t) : w'.heap[k]? = some (.cells cs t fr) := by
  rcases h.block k (Array.getElem?_eq_some_iff.1 hk).1 with h1 | ⟨_, cs', t', fr', h1, h2⟩
  · exact h1.trans hk
  · rw [hk] at h1
    simp only [Option.some.injEq, Obj.cells.injEq] at h1
    obtain ⟨_, rfl, _⟩ := h1
    exact absurd h2 ht
theorem Kin.own {base base' : Nat} {w w' : World} (h : Kin base w w') {e : TypeId} {size : Nat} {v : Value} {n : Nat} {xs : List Value} (hr : w.ownsRow base' e size v n xs) (he : ¬ isPostT e) : w'.ownsRow base' e size v n xs :=
  own_keep hr fun k hk => by
    obtain ⟨cur, h1⟩ := own_type hr hk
    exact (h.keep h1 he).trans h1.symm

def upN {α : Type} (f : Nat → α) (i : Nat) (v : α) : Nat → α := fun j => if j = i then v else f j
theorem upN_same {α : Type} (f : Nat → α) (i : Nat) (v : α) : upN f i v i = v := by simp [upN]
theorem upN_other {α : Type} (f : Nat → α) {i j : Nat} (v : α) (h : j ≠ i) : upN f i v j = f j := by simp [upN, h]
/-- Posts together: in blocks P, with numbers n and books b, on blocks from base on. -/
def PsAt (base : Nat) (w : World) (m : Nat) (P n : Nat → Nat) (b : Nat → Book) : Prop :=
  ∃ F : Nat → List Nat, Posts w m (fun i => ⟨P i, F i, n i, b i⟩) ∧ (∀ i, i < m → ∀ g ∈ F i, base ≤ g) ∧ (∀ i, i < m → BookOk (b i) ∧ n i < 4) ∧ base ≤ w.heap.size
theorem PsAt.vars {base : Nat} {w : World} {m : Nat} {P n : Nat → Nat} {b : Nat → Book} (h : PsAt base w m P n b) : Vars w := by obtain ⟨F, h1, _⟩ := h; exact h1.vars
theorem PsAt.ok {base : Nat} {w : World} {m : Nat} {P n : Nat → Nat} {b : Nat → Book} (h : PsAt base w m P n b) {i : Nat} (hi : i < m) : BookOk (b i) := by obtain ⟨F, _, _, h1, _⟩ := h; exact (h1 i hi).1
theorem PsAt.num {base : Nat} {w : World} {m : Nat} {P n : Nat → Nat} {b : Nat → Book} (h : PsAt base w m P n b) {i : Nat} (hi : i < m) : n i < 4 := by obtain ⟨F, _, _, h1, _⟩ := h; exact (h1 i hi).2
theorem PsAt.size {base : Nat} {w : World} {m : Nat} {P n : Nat → Nat} {b : Nat → Book} (h : PsAt base w m P n b) : base ≤ w.heap.size := by obtain ⟨F, _, _, _, h1⟩ := h; exact h1
theorem PsAt.post {base : Nat} {w : World} {m : Nat} {P n : Nat → Nat} {b : Nat → Book} (h : PsAt base w m P n b) {i : Nat} (hi : i < m) : ∃ F, PostAt w (P i) F (n i) (b i) ∧ (∀ k ∈ F, ¬ isVar k) ∧ ∀ k ∈ F, base ≤ k := by
  obtain ⟨F, h1, h2, _⟩ := h
  exact ⟨F i, h1.post i hi, h1.free i hi, h2 i hi⟩
theorem PsAt.nil {w : World} (hv : Vars w) (P n : Nat → Nat) (b : Nat → Book) : PsAt w.heap.size w 0 P n b := ⟨fun _ => [], Posts.nil hv _, fun i h => by omega, fun i h => by omega, Nat.le_refl _⟩
theorem PsAt.low {base base' : Nat} {w : World} {m : Nat} {P n : Nat → Nat} {b : Nat → Book} (h : PsAt base w m P n b) (hb : base' ≤ base) : PsAt base' w m P n b := by
  obtain ⟨F, h1, h2, h3, h4⟩ := h
  exact ⟨F, h1, fun i hi g hg => Nat.le_trans hb (h2 i hi g hg), h3, Nat.le_trans hb h4⟩
theorem PsAt.below {base : Nat} {w w' : World} {m : Nat} {P n : Nat → Nat} {b : Nat → Book} (h : PsAt base w m P n b) (hb : Below w.heap.size w w') : PsAt base w' m P n b := by
  obtain ⟨F, h1, h2, h3, h4⟩ := h
  exact ⟨F, h1.below hb, h2, h3, Nat.le_trans h4 hb.size⟩
theorem PsAt.drewN {base : Nat} {w : World} {m : Nat} {P n : Nat → Nat} {b : Nat → Book} (h : PsAt base w m P n b) (k : Nat) : PsAt base (w.drewN k) m P n b := h.below (belowD (Below.refl _ _) k)
theorem PsAt.congr {base : Nat} {w : World} {m : Nat} {P n P' n' : Nat → Nat} {b b' : Nat → Book} (h : PsAt base w m P n b) (hP : ∀ i, i < m → P i = P' i ∧ n i = n' i ∧ b i = b' i) : PsAt base w m P' n' b' := by
  obtain ⟨F, h1, h2, h3, h4⟩ := h
  refine ⟨F, ⟨h1.vars, fun i hi => ?_, h1.apart, h1.free⟩, h2, fun i hi => ?_, h4⟩
  · have := h1.post i hi
    obtain ⟨e1, e2, e3⟩ := hP i hi
    simp only [e1, e2, e3] at this
    exact this
  · have := h3 i hi
    obtain ⟨e1, e2, e3⟩ := hP i hi
    rw [e2, e3] at this
    exact this
theorem PsAt.pick {base : Nat} {w : World} {m r : Nat} {P n : Nat → Nat} {b : Nat → Book} (h : PsAt base w m P n b) (f : Nat → Nat) (hf : ∀ i, i < r → f i < m) (hi : ∀ i j, i < r → j < r → i ≠ j → f i ≠ f j) : PsAt base w r (fun i => P (f i)) (fun i => n (f i)) (fun i => b (f i)) := by
  obtain ⟨F, h1, h2, h3, h4⟩ := h
  exact ⟨fun i => F (f i), h1.pick f hf hi, fun i hr => h2 _ (hf i hr), fun i hr => h3 _ (hf i hr), h4⟩
theorem PsAt.first {base : Nat} {w : World} {m r : Nat} {P n : Nat → Nat} {b : Nat → Book} (h : PsAt base w m P n b) (hr : r ≤ m) : PsAt base w r P n b := h.pick (fun i => i) (fun i hi => by omega) (fun i j _ _ h => h)
theorem PsAt.turn {base : Nat} {w w' : World} {m : Nat} {P n : Nat → Nat} {b : Nat → Book} {F : Nat → List Nat} (h1 : Posts w m (fun i => ⟨P i, F i, n i, b i⟩)) (h2 : ∀ i, i < m → ∀ g ∈ F i, base ≤ g) (h3 : ∀ i, i < m → BookOk (b i) ∧ n i < 4) (h4 : base ≤ w.heap.size)
    {i : Nat} (hi : i < m) {c : Book} (hc : BookOk c) {F' : List Nat} (k1 : PostAt w' (P i) F' (n i) c) (k2 : NewOr w (F i) F') (k3 : Off (F i) w w') : PsAt base w' m P n (upN b i c) ∧ Kin base w w' := by
  have ht := h1.turn hi (p := ⟨P i, F', n i, c⟩) k1 k2 k3
  refine ⟨⟨upN F i F', ?_, fun j hj g hg => ?_, fun j hj => ?_, Nat.le_trans h4 k3.size⟩, Kin.of_off (h1.post i hi) (h2 i hi) k3⟩
  · refine ⟨ht.vars, fun j hj => ?_, fun a c' ha hc' hac k hk => ?_, fun j hj k hk => ?_⟩
    · have := ht.post j hj
      by_cases e : j = i
      · subst e
        rw [setS_same] at this
        simp only [upN_same]
        exact this
      · rw [setS_other _ _ e] at this
        simp only [upN_other _ _ e]
        exact this
    · have hF : ∀ j, (setS (fun i => (⟨P i, F i, n i, b i⟩ : Pst)) i ⟨P i, F', n i, c⟩ j).F = upN F i F' j := fun j => by
        unfold setS upN; split <;> rfl
      have := ht.apart a c' ha hc' hac k (by rw [hF]; exact hk)
      rw [hF] at this
      exact this
    · have hF : ∀ j, (setS (fun i => (⟨P i, F i, n i, b i⟩ : Pst)) i ⟨P i, F', n i, c⟩ j).F = upN F i F' j := fun j => by
        unfold setS upN; split <;> rfl
      exact ht.free j hj k (by rw [hF]; exact hk)
  · by_cases e : j = i
    · subst e
      rw [upN_same] at hg
      rcases k2 g hg with h5 | h5
      · exact h2 j hj g h5
      · exact Nat.le_trans h4 h5
    · rw [upN_other _ _ e] at hg
      exact h2 j hj g hg
  · by_cases e : j = i
    · subst e
      rw [upN_same]
      exact ⟨hc, (h3 j hj).2⟩
    · rw [upN_other _ _ e]
      exact h3 j hj
theorem PsAt.grow {base : Nat} {w w' : World} {m : Nat} {P n : Nat → Nat} {b : Nat → Book} (h : PsAt base w m P n b) {P' n' : Nat} {F' : List Nat} {c : Book} (hp : PostAt w' P' F' n' c) (hF : NewOr w [] F') (hb : Below w.heap.size w w') (hc : BookOk c) (hn : n' < 4) : PsAt base w' (m + 1) (upN P m P') (upN n m n') (upN b m c) := by
  obtain ⟨F, h1, h2, h3, h4⟩ := h
  have ht := h1.grow (p := ⟨P', F', n', c⟩) hp hF hb
  have hE : ∀ j, setS (fun i => (⟨P i, F i, n i, b i⟩ : Pst)) m ⟨P', F', n', c⟩ j = ⟨upN P m P' j, upN F m F' j, upN n m n' j, upN b m c j⟩ := fun j => by
    unfold setS upN; split <;> rfl
  refine ⟨upN F m F', ⟨ht.vars, fun j hj => ?_, fun a c' ha hc' hac k hk => ?_, fun j hj k hk => ?_⟩, fun j hj g hg => ?_, fun j hj => ?_, Nat.le_trans h4 hb.size⟩
  · have := ht.post j hj
    rw [hE] at this
    exact this
  · have := ht.apart a c' ha hc' hac k (by rw [hE]; exact hk)
    rw [hE] at this
    exact this
  · exact ht.free j hj k (by rw [hE]; exact hk)
  · by_cases e : j = m
    · subst e
      rw [upN_same] at hg
      have := (hF g hg).resolve_left (by simp)
      omega
    · rw [upN_other _ _ e] at hg
      exact h2 j (by omega) g hg
  · by_cases e : j = m
    · subst e
      rw [upN_same, upN_same]
      exact ⟨hc, hn⟩
    · rw [upN_other _ _ e, upN_other _ _ e]
      exact h3 j (by omega)
theorem PsAt.kept {base : Nat} {w w' : World} {m : Nat} {P n : Nat → Nat} {b : Nat → Book} (h : PsAt base w m P n b) (hb : Below w.heap.size w w') : PsAt base w' m P n b ∧ Kin base w w' := ⟨h.below hb, Kin.of_below hb⟩
theorem PsAt.grown {base base' : Nat} {w w' : World} {m : Nat} {P n : Nat → Nat} {b : Nat → Book} (h : PsAt base w m P n b) {e : TypeId} {size : Nat} {v : Value} {k : Nat} {xs : List Value} (hr : w.ownsRow base' e size v k xs) (he : ¬ isPostT e) (hv : ∀ k, isVar k → k < base') (hg : w.grownBy w' v.ownBlock) : PsAt base w' m P n b := by
  obtain ⟨F, h1, h2, h3, h4⟩ := h
  exact ⟨F, h1.grown hr ⟨fun h => he (.inl h), fun h => he (.inr (.inl h)), fun h => he (.inr (.inr h))⟩ hv hg, h2, h3, Nat.le_trans h4 hg.size⟩

section
variable {base : Nat} {w : World} {m : Nat} {P n : Nat → Nat} {b : Nat → Book}
def DoPs (base m : Nat) (P n : Nat → Nat) (b : Nat → Book) (i : Nat) (r : ByteArray × Int × Book) (w : World) (e : Ending) (w' : World) : Prop :=
  e = .returned (.tuple #[.string r.1, .int .i64 r.2.1]) ∧ PsAt base w' m P n (upN b i r.2.2) ∧ Kin base w w'
theorem do_ps (h : PsAt base w m P n b) {i : Nat} (hi : i < m) (line : ByteArray) (hs : line.size ≤ 1000000) :
    Calls Tryz.prog 24 #[.pointer (some ⟨P i, 0, none⟩), .string line] w (DoPs base m P n b i (doB (b i) (n i) line) w) := by
  obtain ⟨F, h1, h2, h3, h4⟩ := id h
  refine (do_any (P i) (n i) (h3 i hi).2 (F i) (b i) line hs w (h1.post i hi) (h3 i hi).1 h1.vars (h1.free i hi)).mono ?_
  rintro e w' ⟨rfl, F', k1, k2, k3⟩
  exact ⟨rfl, PsAt.turn h1 h2 h3 h4 hi (doB_ok (h3 i hi).1 (h3 i hi).2 line) k1 k2 k3⟩
def NewPs (base m : Nat) (P n : Nat → Nat) (b : Nat → Book) (k : Nat) (c : Book) (w w' : World) (P' : Nat) : Prop :=
  PsAt base w' (m + 1) (upN P m P') (upN n m k) (upN b m c) ∧ Kin base w w'
theorem copy_ps (h : PsAt base w m P n b) {i : Nat} (hi : i < m) :
    Calls Tryz.prog 35 #[.pointer (some ⟨P i, 0, none⟩)] w fun e w' => ∃ P', e = .returned (.pointer (some ⟨P', 0, none⟩)) ∧ NewPs base m P n b (n i) (b i) w w' P' := by
  obtain ⟨F, h1, h2, h3, h4⟩ := id h
  refine (copy_post (P i) (n i) (F i) (b i) w (h1.post i hi) (h3 i hi).1).mono ?_
  rintro e w' ⟨P', F', rfl, k1, k2, k3⟩
  exact ⟨P', rfl, h.grow k1 k2 k3 (h3 i hi).1 (h3 i hi).2, Kin.of_below k3⟩
theorem new_ps (h : PsAt base w m P n b) (k : Nat) (hk : k < 4) :
    Calls Tryz.prog 34 #[.int .i64 k] w fun e w' => ∃ P', e = .returned (.tuple #[.pointer (some ⟨P', 0, none⟩), .int .i64 0]) ∧ NewPs base m P n b k empB w w' P' := by
  refine (new_any k hk w).mono ?_
  rintro e w' ⟨rfl, rfl⟩
  have hb : Below w.heap.size w ((w.alloc (.cells #[.slice none 0 0, .slice none 0 0, .slice none 0 0, .slice none 0 0] 96)).alloc (.cells #[.pointer (some ⟨w.heap.size, 0, none⟩), .int .i64 k] 81)) := ((Below.refl _ _).alloc (Nat.le_refl _) _).alloc (by simp) _
  exact ⟨_, rfl, h.grow (new_post k w) (fun g hg => .inr (by simp at hg; omega)) hb empB_ok hk, Kin.of_below hb⟩
def ReadPs (base m : Nat) (P n : Nat → Nat) (b : Nat → Book) (v : Value) (w : World) (e : Ending) (w' : World) : Prop := e = .returned v ∧ PsAt base w' m P n b ∧ Kin base w w'
theorem same_ps (h : PsAt base w m P n b) {i j : Nat} (hi : i < m) (hj : j < m) : Calls Tryz.prog 37 #[.pointer (some ⟨P i, 0, none⟩), .pointer (some ⟨P j, 0, none⟩)] w (ReadPs base m P n b (.bool (decide (textB (b i) = textB (b j)))) w) := by
  obtain ⟨F, h1, _, _⟩ := h.post hi
  obtain ⟨F2, h2, _, _⟩ := h.post hj
  refine (same_post _ _ _ _ _ _ _ _ w h1 h2 (h.ok hi) (h.ok hj) h.vars).mono ?_
  rintro e w' ⟨rfl, hb⟩
  exact ⟨rfl, h.kept hb⟩
theorem count_ps (h : PsAt base w m P n b) {i : Nat} (hi : i < m) : Calls Tryz.prog 23 #[.pointer (some ⟨P i, 0, none⟩)] w (ReadPs base m P n b (.int .i64 (cntB (b i))) w) := by
  obtain ⟨F, h1, _, _⟩ := h.post hi
  refine (count_post _ _ _ _ w h1 (h.ok hi)).mono ?_
  rintro e w' ⟨rfl, rfl⟩
  exact ⟨rfl, h, Kin.refl _ _⟩
def ListPs (base m : Nat) (P n : Nat → Nat) (b : Nat → Book) (l : List Ent) (w : World) (e : Ending) (w' : World) : Prop := ∃ a c, e = .returned (.slice a l.length c) ∧ ListAt w' (.slice a l.length c) l ∧ PsAt base w' m P n b ∧ Kin base w w'
theorem book_ps (h : PsAt base w m P n b) {i : Nat} (hi : i < m) : Calls Tryz.prog 25 #[.pointer (some ⟨P i, 0, none⟩)] w (ListPs base m P n b (allB (b i)) w) := by
  obtain ⟨F, h1, _, _⟩ := h.post hi
  refine (book_post _ _ _ _ w h1 (h.ok hi)).mono ?_
  rintro e w' ⟨v, rfl, hl, _, hb⟩
  obtain ⟨a, c, rfl⟩ := own_shape hl
  exact ⟨a, c, rfl, hl, h.kept hb⟩
theorem sane_ps (h : PsAt base w m P n b) : Calls Tryz.prog 16 #[] w (ReadPs base m P n b (.bool true) w) := by
  refine (sane_any w h.vars).mono ?_
  rintro e w' ⟨rfl, hb⟩
  exact ⟨rfl, h.kept hb⟩
end
/-- A post: its block, its number, its book. -/
abbrev PB := Nat × Nat × Book
def noPB : PB := (0, 0, empB)
def atL : List PB → Nat → PB
  | [], _ => noPB
  | x :: _, 0 => x
  | _ :: l, i + 1 => atL l i
def setL : List PB → Nat → PB → List PB
  | [], _, _ => []
  | _ :: l, 0, y => y :: l
  | x :: l, i + 1, y => x :: setL l i y
theorem setL_len : ∀ (l : List PB) (i : Nat) (y : PB), (setL l i y).length = l.length
  | [], _, _ => rfl
  | _ :: _, 0, _ => rfl
  | _ :: l, i + 1, y => by rw [setL, List.length_cons, setL_len l i y, List.length_cons]
theorem setL_at : ∀ (l : List PB) (i j : Nat) (y : PB), i < l.length → atL (setL l i y) j = if j = i then y else atL l j
  | _ :: _, 0, 0, _, _ => rfl
  | _ :: _, 0, _ + 1, _, _ => rfl
  | _ :: _, _ + 1, 0, _, _ => rfl
  | _ :: l, i + 1, j + 1, y, h => by
    rw [setL, atL, setL_at l i j y (by simpa using h), atL]
    by_cases e : j = i
    · subst e; simp
    · rw [if_neg e, if_neg (by omega)]
theorem atL_append : ∀ (l r : List PB) (i : Nat), i < l.length → atL (l ++ r) i = atL l i
  | _ :: _, _, 0, _ => rfl
  | _ :: l, r, i + 1, h => atL_append l r i (by simpa using h)
theorem atL_last : ∀ (l : List PB) (y : PB), atL (l ++ [y]) l.length = y
  | [], _ => rfl
  | _ :: l, y => atL_last l y
def PsL (base : Nat) (w : World) (l : List PB) : Prop := PsAt base w l.length (fun i => (atL l i).1) (fun i => (atL l i).2.1) (fun i => (atL l i).2.2)
theorem PsL.vars {base : Nat} {w : World} {l : List PB} (h : PsL base w l) : Vars w := PsAt.vars h
theorem PsL.nil {w : World} (hv : Vars w) : PsL w.heap.size w [] := PsAt.nil hv _ _ _
theorem PsL.below {base : Nat} {w w' : World} {l : List PB} (h : PsL base w l) (hb : Below w.heap.size w w') : PsL base w' l := PsAt.below h hb
theorem PsL.first {base : Nat} {w : World} {l r : List PB} (h : PsL base w (l ++ r)) : PsL base w l := by
  have h1 : PsAt base w (l ++ r).length (fun i => (atL (l ++ r) i).1) (fun i => (atL (l ++ r) i).2.1) (fun i => (atL (l ++ r) i).2.2) := h
  have h2 := h1.first (r := l.length) (by simp)
  exact h2.congr fun i hi => by rw [atL_append l r i hi]; exact ⟨rfl, rfl, rfl⟩
theorem PsL.of_set {base : Nat} {w : World} {l : List PB} {i : Nat} (hi : i < l.length) {c : Book} (h : PsAt base w l.length (fun i => (atL l i).1) (fun i => (atL l i).2.1) (upN (fun i => (atL l i).2.2) i c)) : PsL base w (setL l i ((atL l i).1, (atL l i).2.1, c)) := by
  unfold PsL
  rw [setL_len]
  refine h.congr fun j _ => ?_
  rw [setL_at l i j _ hi]
  unfold upN
  by_cases e : j = i
  · subst e; simp
  · simp [e]
theorem PsL.of_new {base : Nat} {w : World} {l : List PB} {P k : Nat} {c : Book} (h : PsAt base w (l.length + 1) (upN (fun i => (atL l i).1) l.length P) (upN (fun i => (atL l i).2.1) l.length k) (upN (fun i => (atL l i).2.2) l.length c)) : PsL base w (l ++ [(P, k, c)]) := by
  unfold PsL
  rw [List.length_append]
  refine h.congr fun j hj => ?_
  unfold upN
  by_cases e : j = l.length
  · subst e; rw [atL_last]; simp
  · rw [atL_append l _ j (by omega)]; simp [e]
section
variable {base : Nat} {w : World} {l : List PB}
theorem do_l (h : PsL base w l) {i : Nat} (hi : i < l.length) (line : ByteArray) (hs : line.size ≤ 1000000) :
    Calls Tryz.prog 24 #[.pointer (some ⟨(atL l i).1, 0, none⟩), .string line] w fun e w' => e = .returned (.tuple #[.string (doB (atL l i).2.2 (atL l i).2.1 line).1, .int .i64 (doB (atL l i).2.2 (atL l i).2.1 line).2.1]) ∧
      PsL base w' (setL l i ((atL l i).1, (atL l i).2.1, (doB (atL l i).2.2 (atL l i).2.1 line).2.2)) ∧ Kin base w w' := by
  refine (do_ps h hi line hs).mono ?_
  rintro e w' ⟨rfl, h1, h2⟩
  exact ⟨rfl, PsL.of_set hi h1, h2⟩
theorem copy_l (h : PsL base w l) {i : Nat} (hi : i < l.length) :
    Calls Tryz.prog 35 #[.pointer (some ⟨(atL l i).1, 0, none⟩)] w fun e w' => ∃ P', e = .returned (.pointer (some ⟨P', 0, none⟩)) ∧ PsL base w' (l ++ [(P', (atL l i).2.1, (atL l i).2.2)]) ∧ Kin base w w' := by
  refine (copy_ps h hi).mono ?_
  rintro e w' ⟨P', rfl, h1, h2⟩
  exact ⟨P', rfl, PsL.of_new h1, h2⟩
theorem new_l (h : PsL base w l) (k : Nat) (hk : k < 4) :
    Calls Tryz.prog 34 #[.int .i64 k] w fun e w' => ∃ P', e = .returned (.tuple #[.pointer (some ⟨P', 0, none⟩), .int .i64 0]) ∧ PsL base w' (l ++ [(P', k, empB)]) ∧ Kin base w w' := by
  refine (new_ps h k hk).mono ?_
  rintro e w' ⟨P', rfl, h1, h2⟩
  exact ⟨P', rfl, PsL.of_new h1, h2⟩
def ReadL (base : Nat) (l : List PB) (v : Value) (w : World) (e : Ending) (w' : World) : Prop := e = .returned v ∧ PsL base w' l ∧ Kin base w w'
theorem same_l (h : PsL base w l) {i j : Nat} (hi : i < l.length) (hj : j < l.length) {q : Bool} (hq : decide (textB (atL l i).2.2 = textB (atL l j).2.2) = q) : Calls Tryz.prog 37 #[.pointer (some ⟨(atL l i).1, 0, none⟩), .pointer (some ⟨(atL l j).1, 0, none⟩)] w (ReadL base l (.bool q) w) := by
  subst hq
  exact same_ps h hi hj
theorem count_l (h : PsL base w l) {i : Nat} (hi : i < l.length) : Calls Tryz.prog 23 #[.pointer (some ⟨(atL l i).1, 0, none⟩)] w (ReadL base l (.int .i64 (cntB (atL l i).2.2)) w) := count_ps h hi
def ListL (base : Nat) (ps : List PB) (l : List Ent) (w : World) (e : Ending) (w' : World) : Prop := ∃ a c, e = .returned (.slice a l.length c) ∧ ListAt w' (.slice a l.length c) l ∧ PsL base w' ps ∧ Kin base w w'
theorem book_l (h : PsL base w l) {i : Nat} (hi : i < l.length) : Calls Tryz.prog 25 #[.pointer (some ⟨(atL l i).1, 0, none⟩)] w (ListL base l (allB (atL l i).2.2) w) := book_ps h hi
theorem sane_l (h : PsL base w l) : Calls Tryz.prog 16 #[] w (ReadL base l (.bool true) w) := sane_ps h
end
structure StrsIn (w : World) (v : Value) (l : List ByteArray) : Prop where
  at_ : StrsW w v l
  len : l.length ≤ maxLen
  sz : ∀ s ∈ l, s.size ≤ maxLen
theorem StrsIn.below {w w' : World} {v : Value} {l : List ByteArray} (h : StrsIn w v l) (hb : Below w.heap.size w w') : StrsIn w' v l := ⟨h.at_.below hb, h.len, h.sz⟩
def BytesW (w : World) (v : Value) (l : List Int) : Prop := ∃ (a : Option Addr) (cap : Nat), v = .slice a l.length cap ∧ l.length ≤ maxLen ∧ (0 < l.length → ∃ b off, a = some ⟨b, off, none⟩ ∧ ∀ j, j < l.length → w.cell? ⟨b, off + j, none⟩ = some (.int .u8 (l.getD j 0)))
theorem BytesW.below {w w' : World} {v : Value} {l : List Int} (h : BytesW w v l) (hb : Below w.heap.size w w') : BytesW w' v l := by
  obtain ⟨a, cap, rfl, h1, h⟩ := h
  refine ⟨a, cap, rfl, h1, fun h0 => ?_⟩
  obtain ⟨b, off, ha, hc⟩ := h h0
  exact ⟨b, off, ha, fun j hj => keep_cell hb (hc j hj)⟩
structure U8sAt (w : World) (v : Value) (l : List Int) : Prop where
  at_ : BytesW w v l
  val : ∀ j, j < l.length → 0 ≤ l.getD j 0 ∧ l.getD j 0 ≤ 255

def longB (l : List ByteArray) (n : Int) : Bool := (l.any fun s => decide (200 < s.size)) || decide (n < (l.length : Int))
theorem longB_no {l : List ByteArray} {n : Int} (h : longB l n = false) : (∀ s ∈ l, s.size ≤ 200) ∧ (l.length : Int) ≤ n := by
  unfold longB at h
  rw [Bool.or_eq_false_iff, List.any_eq_false, decide_eq_false_iff_not] at h
  exact ⟨fun s hs => by have := h.1 s hs; simpa using this, by omega⟩
theorem longB_yes {l : List ByteArray} (n : Int) {k : Nat} (hk : k < l.length) (h : 200 < (l.getD k emp).size) : longB l n = true := by
  unfold longB
  rw [Bool.or_eq_true, List.any_eq_true]
  rw [List.getD_eq_getElem?_getD, List.getElem?_eq_getElem hk] at h
  exact .inl ⟨l[k], List.getElem_mem hk, by simpa using h⟩
theorem longB_end {l : List ByteArray} (n : Int) (h : ∀ j, j < l.length → (l.getD j emp).size ≤ 200) : longB l n = decide (n < (l.length : Int)) := by
  unfold longB
  have : (l.any fun s => decide (200 < s.size)) = false := by
    rw [List.any_eq_false]
    intro s hs
    obtain ⟨j, hj, rfl⟩ := List.getElem_of_mem hs
    have := h j hj
    rw [List.getD_eq_getElem?_getD, List.getElem?_eq_getElem hj] at this
    simpa using this
  rw [this, Bool.false_or]
set_option maxRecDepth 100000 in
set_option maxHeartbeats 4000000 in
theorem long_any (v : Value) (l : List ByteArray) (n : Int) (w : World) (hin : StrsIn w v l) :
    Calls Tryz.prog 15 #[v, .int .i64 n] w (BoolPost (longB l n) w) := by
  have hl := hin.len
  have hsz := hin.sz
  obtain ⟨a, cap, rfl, h⟩ := hin.at_
  obtain ⟨R, hR⟩ : ∃ R, R = longB l n := ⟨_, rfl⟩
  have HR := Lib.hid hR
  rw [← hR]
  clear hR
  have HC1 := Lib.hid (fun k (hk : k < l.length) => (h (by omega)))
  have HSZ := Lib.hid (fun k (hk : k < l.length) => show (l.getD k emp).size ≤ maxLen by
    rw [List.getD_eq_getElem?_getD, List.getElem?_eq_getElem hk]; exact hsz _ (List.getElem_mem hk))
  obtain ⟨ln, hn⟩ : ∃ ln, ln = l.length := ⟨_, rfl⟩
  have HN := Lib.hid hn
  rw [← hn]
  have hn6 : (ln : Int) ≤ 9223372036854775807 := by unfold maxLen at hl; omega
  clear h hn hsz hl hin
  go_enter Tryz.func15, Tryz.ntmps15
  go_wp2
  go_loopw [5] (fun i wr => ∃ k : Nat, k ≤ ln ∧ i = .int .i64 k ∧ Hid (∀ j, j < k → (l.getD j emp).size ≤ 200) ∧ Below w.heap.size w wr) (fun i _ => ln - (intOf i).toNat)
  case atStart => exact ⟨0, Nat.zero_le _, rfl, Lib.hid (fun j hj => by omega), Below.refl _ _⟩
  case round =>
    obtain ⟨k, hk, rfl, ht, hb⟩ := hrel
    by_cases hlt : k < ln
    · obtain ⟨b, off, rfl, hc⟩ := HC1.out k (by rw [← HN.out]; exact hlt)
      have c1 := keep_cell hb (hc k (by rw [← HN.out]; exact hlt))
      have hsx := HSZ.out k (by rw [← HN.out]; exact hlt)
      have HT := Lib.hid (fun (hx : (l.getD k emp).size ≤ 200) => show ∀ j, j < k + 1 → (l.getD j emp).size ≤ 200 from fun j hj => by
        by_cases e : j = k
        · subst e; exact hx
        · exact ht.out j (by omega))
      have HX := Lib.hid (fun (hx : 200 < (l.getD k emp).size) => show R = true by rw [HR.out]; exact longB_yes n (by rw [← HN.out]; exact hlt) hx)
      have HB := Lib.hid hb
      clear hc hb ht
      generalize l.getD k emp = x at *
      unfold maxLen at hsx
      by_cases hxs : 200 < x.size
      · have z0 : (200 : Int) < (x.size : Int) := by omega
        have HXX := Lib.hid (HX.out hxs)
        go_wp2
        go_ret
        rw [HXX.out]
        exact ⟨rfl, HB.out⟩
      · have z0 : ¬ (200 : Int) < (x.size : Int) := by omega
        have HTT := Lib.hid (HT.out (by omega))
        go_wp2
        go_roundw
        case rel => exact ⟨k + 1, by omega, by go_num, HTT, HB.out⟩
        case measure => simp [intOf]; omega
    · have e : k = ln := by omega
      have HXX : Hid (R = decide (n < (ln : Int))) := Lib.hid (by
        rw [HR.out, longB_end n (fun j hj => ht.out j (by rw [e, HN.out]; exact hj)), ← HN.out])
      clear e
      go_wp2
      go_ret
      rw [HXX.out]
      exact ⟨rfl, hb⟩
end Go.Proofs.YtdfkaijeppdhaaaGreatDoor

/- Plain: the entries in order, as the reference takes them: of what is left the least one is next (Post). -/
namespace Go.Proofs.YtdfkaijeppdhaaaGreatDoor
open Go
def setNx (nx : Nat → Nat) (i k : Nat) : Nat → Nat := fun j => if j = i then k else nx j
theorem setNx_same (nx : Nat → Nat) (i k : Nat) : setNx nx i k i = k := by simp [setNx]
theorem setNx_other (nx : Nat → Nat) {i j : Nat} (k : Nat) (h : j ≠ i) : setNx nx i k j = nx j := by simp [setNx, h]
/-- What has been taken. -/
structure Mg (b : Book) (nx : Nat → Nat) (out : List Ent) : Prop where
  le : ∀ i, i < 4 → nx i ≤ (b i).length
  asc : Asc out
  perm : out.Perm ((b 0).take (nx 0) ++ ((b 1).take (nx 1) ++ ((b 2).take (nx 2) ++ (b 3).take (nx 3))))
  low : ∀ x ∈ out, ∀ i, i < 4 → ∀ j (h : j < (b i).length), nx i ≤ j → eLt x (b i)[j]
theorem Mg.start (b : Book) : Mg b (fun _ => 0) [] := ⟨fun _ _ => Nat.zero_le _, List.Pairwise.nil, by simp, fun x hx => by simp at hx⟩
theorem Mg.len {b : Book} {nx : Nat → Nat} {out : List Ent} (h : Mg b nx out) : out.length = nx 0 + nx 1 + nx 2 + nx 3 := by
  rw [h.perm.length_eq]
  have h0 := h.le 0 (by omega)
  have h1 := h.le 1 (by omega)
  have h2 := h.le 2 (by omega)
  have h3 := h.le 3 (by omega)
  simp only [List.length_append, List.length_take]
  omega
theorem take_grow (l : List Ent) (k : Nat) (h : k < l.length) : l.take (k + 1) = l.take k ++ [l[k]] := List.take_succ_eq_append_getElem h
theorem perm_in1 {A B C D : List Ent} (e : Ent) : (A ++ (B ++ (C ++ D)) ++ [e]).Perm (A ++ [e] ++ (B ++ (C ++ D))) := by
  rw [List.append_assoc A, List.append_assoc A]
  exact List.Perm.append_left _ List.perm_append_comm
theorem Mg.step {b : Book} (hb : BookOk b) {nx : Nat → Nat} {out : List Ent} (h : Mg b nx out) {i : Nat} (hi : i < 4) (hlt : nx i < (b i).length)
    (hmin : ∀ j, j < 4 → j ≠ i → ∀ (hj : nx j < (b j).length), eCnt (b i)[nx i] < eCnt (b j)[nx j] ∨ (eCnt (b i)[nx i] = eCnt (b j)[nx j] ∧ i < j)) :
    Mg b (setNx nx i (nx i + 1)) (out ++ [(b i)[nx i]]) := by
  have hp : ∀ j, j < 4 → ∀ k (hk : k < (b j).length), ePost (b j)[k] = (j : Int) := fun j hj k hk => ((hb j hj).own k hk).1
  have hasc : ∀ j, j < 4 → ∀ x y (hx : x < (b j).length) (hy : y < (b j).length), x < y → eCnt (b j)[x] < eCnt (b j)[y] := fun j hj x y hx hy hxy => List.pairwise_iff_getElem.1 (hb j hj).asc x y hx hy hxy
  have hhead : ∀ j, j < 4 → ∀ k (hk : k < (b j).length), nx j ≤ k → (j ≠ i ∨ nx i < k) → eLt (b i)[nx i] (b j)[k] := fun j hj k hk hle hor => by
    by_cases e : j = i
    · subst e
      have := hasc j hj (nx j) k hlt hk (by omega)
      exact .inl this
    · have h1 := hmin j hj e (by omega)
      have p1 := hp i hi (nx i) hlt
      have p2 := hp j hj k hk
      unfold eLt
      by_cases hk2 : nx j = k
      · subst hk2
        rcases h1 with h1 | ⟨h1, h2⟩
        · exact .inl h1
        · exact .inr ⟨h1, by rw [p1, p2]; omega⟩
      · have := hasc j hj (nx j) k (by omega) hk (by omega)
        left
        rcases h1 with h1 | ⟨h1, h2⟩ <;> omega
  refine ⟨fun j hj => ?_, ?_, ?_, ?_⟩
  · by_cases e : j = i
    · subst e; rw [setNx_same]; exact hlt
    · rw [setNx_other _ _ e]; exact h.le j hj
  · refine List.pairwise_append.2 ⟨h.asc, List.pairwise_singleton _ _, fun x hx y hy => ?_⟩
    have : y = (b i)[nx i] := by simpa using hy
    subst this
    exact h.low x hx i hi (nx i) hlt (Nat.le_refl _)
  · refine (h.perm.append_right _).trans ?_
    have hg := take_grow (b i) (nx i) hlt
    rcases (show i = 0 ∨ i = 1 ∨ i = 2 ∨ i = 3 by omega) with rfl | rfl | rfl | rfl
    · rw [setNx_same, setNx_other _ _ (by omega), setNx_other _ _ (by omega), setNx_other _ _ (by omega), hg]
      exact perm_in1 _
    · rw [setNx_same, setNx_other _ _ (by omega), setNx_other _ _ (by omega), setNx_other _ _ (by omega), hg]
      simp only [List.append_assoc]
      refine List.Perm.append_left _ (List.Perm.append_left _ ?_)
      rw [← List.append_assoc]
      exact List.perm_append_comm
    · rw [setNx_same, setNx_other _ _ (by omega), setNx_other _ _ (by omega), setNx_other _ _ (by omega), hg]
      simp only [List.append_assoc]
      exact List.Perm.append_left _ (List.Perm.append_left _ (List.Perm.append_left _ List.perm_append_comm))
    · rw [setNx_same, setNx_other _ _ (by omega), setNx_other _ _ (by omega), setNx_other _ _ (by omega), hg]
      simp only [List.append_assoc]
      exact List.Perm.refl _
  · intro x hx j hj k hk hle
    have hnx : nx j ≤ k := by
      by_cases e : j = i
      · subst e; rw [setNx_same] at hle; omega
      · rw [setNx_other _ _ e] at hle; exact hle
    rcases List.mem_append.1 hx with hx | hx
    · exact h.low x hx j hj k hk hnx
    · have : x = (b i)[nx i] := by simpa using hx
      subst this
      refine hhead j hj k hk hnx ?_
      by_cases e : j = i
      · subst e; rw [setNx_same] at hle; exact .inr (by omega)
      · exact .inl e
theorem Mg.done {b : Book} {nx : Nat → Nat} {out : List Ent} (h : Mg b nx out) (hall : ∀ i, i < 4 → (b i).length ≤ nx i) : out = allB b := by
  refine allB_unique h.asc (h.perm.trans (List.Perm.trans ?_ (allB_perm b).symm))
  rw [List.take_of_length_le (hall 0 (by omega)), List.take_of_length_le (hall 1 (by omega)), List.take_of_length_le (hall 2 (by omega)), List.take_of_length_le (hall 3 (by omega))]

end Go.Proofs.YtdfkaijeppdhaaaGreatDoor

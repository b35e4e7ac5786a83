/- Texts of this claim, laid together: Fj, Fk. -/
import Derived.Test.YtdfkaijeppdhaaaGreatDoorFi

/- Contracts: does. -/
namespace Go.Proofs.YtdfkaijeppdhaaaGreatDoor
open Go.RowKit Go.Shelf

theorem cut_any (line : ByteArray) (hs : line.size ≤ 1000000) (w : World) (hV : Vars w) :
    Calls Tryz.prog 80 #[.string line, .string ⟨#[32]⟩] w fun e w' => e = .returned (.tuple #[.string (firstW line), .string (restW line), .bool (Lib.cut line.data.toList [32]).2.2]) ∧ Below w.heap.size w w' := by
  obtain ⟨m, hm⟩ := hV.ml
  refine (Tryz.strings_Cut line ⟨#[32]⟩ m w (by omega) hm).mono ?_
  rintro e w' ⟨rfl, n, rfl⟩
  exact ⟨rfl, belowD (Below.refl _ _) _⟩
theorem cutPrefix_any (s : ByteArray) (w : World) :
    Calls Tryz.prog 82 #[.string s, .string ⟨#[106, 111, 105, 110, 32]⟩] w fun e w' => e = .returned (.tuple #[.string (otherW s), .bool (isJoin s)]) ∧ w = w' := by
  refine (Tryz.strings_CutPrefix s ⟨#[106, 111, 105, 110, 32]⟩ w).mono ?_
  rintro e w' ⟨rfl, rfl⟩
  exact ⟨rfl, rfl⟩
theorem postV_no {s : ByteArray} (h : numV s = none) : postV s = none := by unfold postV; rw [h]
theorem postV_out {s : ByteArray} {v : Int} (h : numV s = some v) (hb : betw 0 v 3 = false) : postV s = none := by unfold postV; rw [h]; simp [hb]
theorem postV_in {s : ByteArray} {v : Int} (h : numV s = some v) (hb : betw 0 v 3 = true) : postV s = some v.toNat := by unfold postV; rw [h]; simp [hb]
set_option maxRecDepth 100000 in
set_option maxHeartbeats 8000000 in
theorem does_any (askB : Book → ByteArray → ByteArray × Int) (line : ByteArray) (hs : line.size ≤ 1000000) (w : World) (S cap : Nat) (ps : Nat → Pst) (h : PostsAt w S ps)
    (hask : ∀ i W, i < 4 → postV (firstW line) = some i → Cmd.askO (parseB (restW line)) = true → Below w.heap.size w W → Calls Tryz.prog 36 #[.pointer (some ⟨(ps i).P, 0, none⟩), .string (restW line)] W (AnsPost (askB (ps i).b (restW line)) W)) :
    Calls Tryz.prog 47 #[.slice (some ⟨S, 0, none⟩) 4 cap, .string line] w (DoesPost w S ps (doesB askB (fun j => (ps j).b) line)) := by
  have hsf := first_size line
  have hsr := rest_size line
  have hso := other_size (restW line)
  have HCU := Lib.hid (cut_any line hs w h.posts.vars)
  have HP := Lib.hid h
  have HASK := Lib.hid hask
  clear hask h
  obtain ⟨R, hR⟩ : ∃ R, R = doesB askB (fun j => (ps j).b) line := ⟨_, rfl⟩
  have HR := Lib.hid hR
  rw [← hR]
  unfold doesB at HR
  clear hR
  obtain ⟨q2, hq2⟩ : ∃ q, q = (Lib.cut line.data.toList [32]).2.2 := ⟨_, rfl⟩
  rw [← hq2] at HCU
  clear hq2
  generalize firstW line = fw at *
  generalize restW line = rw0 at *
  have HCP := Lib.hid (fun W => cutPrefix_any rw0 W)
  cases hn : numV fw with
  | none =>
    have HNO := Lib.hid (fun W (hW : KB w W) => number_no fw hn (by omega) W (HP.out.posts.vars.below hW))
    have HRX : Hid (R = ((emp, 100), fun j => (ps j).b)) := Lib.hid (by rw [HR.out, postV_no hn])
    unfold NoNum at HNO
    clear hn
    go_enter Tryz.func47, Tryz.ntmps47
    go_wp2_with fail
    refine HCU.out.mono ?_
    rintro e w1 ⟨rfl, hb1⟩
    have HB1 := Lib.hid hb1
    have HP1 := Lib.hid (HP.out.below hb1)
    clear hb1
    go_wp2_with fail
    refine (HNO.out _ HB1.out).mono ?_
    rintro e w2 ⟨y, rfl, hb2⟩
    have HB2 := Lib.hid (KB.call HB1.out hb2)
    clear hb2
    go_wp2
    go_ret2
    rw [HRX.out]
    exact ⟨rfl, Turn.refl HP.out HB2.out⟩
  | some v =>
    have HNO := Lib.hid (fun W (hW : KB w W) => number_ok fw v hn (by omega) W (HP.out.posts.vars.below hW))
    cases hb : betw 0 v 3 with
    | false =>
      have HRX : Hid (R = ((emp, 100), fun j => (ps j).b)) := Lib.hid (by rw [HR.out, postV_out hn hb])
      have HBT := Lib.hid hb
      clear hn hb
      go_enter Tryz.func47, Tryz.ntmps47
      go_wp2_with fail
      refine HCU.out.mono ?_
      rintro e w1 ⟨rfl, hb1⟩
      have HB1 := Lib.hid hb1
      have HP1 := Lib.hid (HP.out.below hb1)
      clear hb1
      go_wp2_with fail
      refine (HNO.out _ HB1.out).mono ?_
      rintro e w2 ⟨rfl, hb2⟩
      have HB2 := Lib.hid (KB.call HB1.out hb2)
      clear hb2
      go_wp2_with fail
      refine (between_any _ _ _ _).mono ?_
      rintro e w3 ⟨rfl, rfl⟩
      rw [HBT.out]
      go_wp2
      go_ret2
      rw [HRX.out]
      exact ⟨rfl, Turn.refl HP.out HB2.out⟩
    | true =>
      obtain ⟨hv0, hv3⟩ := (betw_iff _ _ _).1 hb
      obtain ⟨n, rfl⟩ : ∃ n : Nat, v = (n : Int) := ⟨v.toNat, (Int.toNat_of_nonneg hv0).symm⟩
      have hpv : postV fw = some n := by rw [postV_in hn hb]; simp
      have HPV := Lib.hid hpv
      have hn4 : n < 4 := by omega
      have i2 : (n : Int) < 4 := by omega
      have HBT := Lib.hid hb
      rw [hpv] at HR
      simp only at HR
      clear hn hb hpv
      cases hj : isJoin rw0 with
      | true =>
        rw [hj] at HCP HR
        simp only [if_true] at HR
        generalize otherW rw0 = ow at *
        clear hj
        cases hn2 : numV ow with
        | none =>
          have HNX := Lib.hid (fun W (hW : KB w W) => number_no ow hn2 (by omega) W (HP.out.posts.vars.below hW))
          have HRX : Hid (R = ((emp, 100), fun j => (ps j).b)) := Lib.hid (by rw [HR.out, postV_no hn2])
          unfold NoNum at HNX
          clear hn2
          go_enter Tryz.func47, Tryz.ntmps47
          go_wp2_with fail
          refine HCU.out.mono ?_
          rintro e w1 ⟨rfl, hb1⟩
          have HB1 := Lib.hid hb1
          have HP1 := Lib.hid (HP.out.below hb1)
          clear hb1
          go_wp2_with fail
          refine (HNO.out _ HB1.out).mono ?_
          rintro e w2 ⟨rfl, hb2⟩
          have HB2 := Lib.hid (KB.call HB1.out hb2)
          clear hb2
          have c0 := keep_cell HB2.out (HP.out.row n hn4)
          go_wp2_with fail
          refine (between_any _ _ _ _).mono ?_
          rintro e w3 ⟨rfl, rfl⟩
          rw [HBT.out]
          go_wp2_with fail
          refine (HCP.out _).mono ?_
          rintro e w4 ⟨rfl, rfl⟩
          go_wp2_with fail
          refine (HNX.out _ HB2.out).mono ?_
          rintro e w5 ⟨y, rfl, hb5⟩
          have HB5 := Lib.hid (KB.call HB2.out hb5)
          clear hb5
          go_wp2
          go_ret2
          rw [HRX.out]
          exact ⟨rfl, Turn.refl HP.out HB5.out⟩
        | some v2 =>
          have HNX := Lib.hid (fun W (hW : KB w W) => number_ok ow v2 hn2 (by omega) W (HP.out.posts.vars.below hW))
          cases hb2x : betw 0 v2 3 with
          | false =>
            have HRX : Hid (R = ((emp, 100), fun j => (ps j).b)) := Lib.hid (by rw [HR.out, postV_out hn2 hb2x])
            have HBX := Lib.hid hb2x
            clear hn2 hb2x
            go_enter Tryz.func47, Tryz.ntmps47
            go_wp2_with fail
            refine HCU.out.mono ?_
            rintro e w1 ⟨rfl, hb1⟩
            have HB1 := Lib.hid hb1
            have HP1 := Lib.hid (HP.out.below hb1)
            clear hb1
            go_wp2_with fail
            refine (HNO.out _ HB1.out).mono ?_
            rintro e w2 ⟨rfl, hb2⟩
            have HB2 := Lib.hid (KB.call HB1.out hb2)
            clear hb2
            have c0 := keep_cell HB2.out (HP.out.row n hn4)
            go_wp2_with fail
            refine (between_any _ _ _ _).mono ?_
            rintro e w3 ⟨rfl, rfl⟩
            rw [HBT.out]
            go_wp2_with fail
            refine (HCP.out _).mono ?_
            rintro e w4 ⟨rfl, rfl⟩
            go_wp2_with fail
            refine (HNX.out _ HB2.out).mono ?_
            rintro e w5 ⟨rfl, hb5⟩
            have HB5 := Lib.hid (KB.call HB2.out hb5)
            clear hb5
            go_wp2_with fail
            refine (between_any _ _ _ _).mono ?_
            rintro e w6 ⟨rfl, rfl⟩
            rw [HBX.out]
            go_wp2
            go_ret2
            rw [HRX.out]
            exact ⟨rfl, Turn.refl HP.out HB5.out⟩
          | true =>
            obtain ⟨hk0, hk3⟩ := (betw_iff _ _ _).1 hb2x
            obtain ⟨k, rfl⟩ : ∃ k : Nat, v2 = (k : Int) := ⟨v2.toNat, (Int.toNat_of_nonneg hk0).symm⟩
            have hk4 : k < 4 := by omega
            have i3 : (k : Int) < 4 := by omega
            have hpk : postV ow = some k := by rw [postV_in hn2 hb2x]; simp
            rw [hpk] at HR
            simp only at HR
            have HBX := Lib.hid hb2x
            have HOKJ := Lib.hid (joinV_ok (HP.out.ok n hn4) (HP.out.ok k hk4))
            have HJ := Lib.hid (fun W (hW : KB w W) => join_post (ps n).P n (ps n).F (ps n).b (ps k).P k (ps k).F (ps k).b W (by have h9 := (HP.out.below hW).posts.post n hn4; rw [HP.out.num n hn4] at h9; exact h9) (by have h9 := (HP.out.below hW).posts.post k hk4; rw [HP.out.num k hk4] at h9; exact h9) (HP.out.ok n hn4) (HP.out.ok k hk4))
            clear hn2 hb2x hpk
            generalize joinV (ps n).b (ps k).b = jr at *
            obtain ⟨jre, jrb⟩ := jr
            go_enter Tryz.func47, Tryz.ntmps47
            go_wp2_with fail
            refine HCU.out.mono ?_
            rintro e w1 ⟨rfl, hb1⟩
            have HB1 := Lib.hid hb1
            have HP1 := Lib.hid (HP.out.below hb1)
            clear hb1
            go_wp2_with fail
            refine (HNO.out _ HB1.out).mono ?_
            rintro e w2 ⟨rfl, hb2⟩
            have HB2 := Lib.hid (KB.call HB1.out hb2)
            clear hb2
            have c0 := keep_cell HB2.out (HP.out.row n hn4)
            go_wp2_with fail
            refine (between_any _ _ _ _).mono ?_
            rintro e w3 ⟨rfl, rfl⟩
            rw [HBT.out]
            go_wp2_with fail
            refine (HCP.out _).mono ?_
            rintro e w4 ⟨rfl, rfl⟩
            go_wp2_with fail
            refine (HNX.out _ HB2.out).mono ?_
            rintro e w5 ⟨rfl, hb5⟩
            have HB5 := Lib.hid (KB.call HB2.out hb5)
            clear hb5
            have c1 := keep_cell HB5.out (HP.out.row k hk4)
            go_wp2_with fail
            refine (between_any _ _ _ _).mono ?_
            rintro e w6 ⟨rfl, rfl⟩
            rw [HBX.out]
            go_wp2_with fail
            refine (HJ.out _ HB5.out).mono ?_
            rintro e w7 ⟨rfl, hex⟩
            have HT := Lib.hid (Turn.ahead HB5.out (Turn.of (HP.out.below HB5.out) hn4 hex HOKJ.out (bs := fun j => (ps j).b) (fun j hj => rfl)))
            obtain ⟨F', hpa, _, _⟩ := hex
            have HBK := Lib.hid (book_post (ps n).P n F' jrb w7 hpa HOKJ.out)
            have hV7 : Vars w7 := by obtain ⟨ps', h1, _⟩ := HT.out.ex; exact h1.posts.vars
            have HV7 := Lib.hid hV7
            clear hpa hV7
            go_wp2_with fail
            refine HBK.out.mono ?_
            rintro e w8 ⟨lv, rfl, hl8, ho8, hb8⟩
            obtain ⟨la, lc, rfl⟩ := own_shape hl8
            have hll : (allB jrb).length = lenB jrb := allB_len jrb
            have hle := lenB_le HOKJ.out
            have HB8 := Lib.hid hb8
            have HI := Lib.hid (itoa_any ((lenB jrb : Nat) : Int) (by omega) (by omega) w8 (HV7.out.below hb8))
            clear hl8 ho8 hb8
            rw [hll]
            go_wp2_with fail
            refine HI.out.mono ?_
            rintro e w9 ⟨rfl, hb9⟩
            have HB9 := Lib.hid (below_trans HB8.out hb9)
            clear hb9
            go_wp2
            go_ret2
            rw [HR.out]
            exact ⟨rfl, HT.out.more HB9.out⟩
      | false =>
        rw [hj] at HCP HR
        simp only [Bool.false_eq_true, if_false] at HR
        clear hj
        generalize otherW rw0 = ow at *
        have HPA := Lib.hid (fun W (hW : KB w W) => parse_any rw0 (by omega) W (HP.out.posts.vars.below hW))
        go_enter Tryz.func47, Tryz.ntmps47
        go_wp2_with fail
        refine HCU.out.mono ?_
        rintro e w1 ⟨rfl, hb1⟩
        have HB1 := Lib.hid hb1
        have HP1 := Lib.hid (HP.out.below hb1)
        clear hb1
        go_wp2_with fail
        refine (HNO.out _ HB1.out).mono ?_
        rintro e w2 ⟨rfl, hb2⟩
        have HB2 := Lib.hid (KB.call HB1.out hb2)
        clear hb2
        have c0 := keep_cell HB2.out (HP.out.row n hn4)
        go_wp2_with fail
        refine (between_any _ _ _ _).mono ?_
        rintro e w3 ⟨rfl, rfl⟩
        rw [HBT.out]
        go_wp2_with fail
        refine (HCP.out _).mono ?_
        rintro e w4 ⟨rfl, rfl⟩
        go_wp2_with fail
        refine (HPA.out _ HB2.out).mono ?_
        rintro e w5 ⟨⟨pv, rfl, hpv⟩, hb5⟩
        have hta := assert_deed hpv w5
        have htb := assert_ask hpv w5
        have HB5 := Lib.hid (KB.call HB2.out hb5)
        clear hb5 hpv c0
        cases hd : Cmd.deedO (parseB rw0) with
        | true =>
          rw [hd] at hta HR
          unfold ifV at hta
          simp only [if_true] at hta HR
          clear htb hd
          have HDO := Lib.hid (do_any (ps n).P n hn4 (ps n).F (ps n).b rw0 (by omega) w5 (by have h9 := (HP.out.below HB5.out).posts.post n hn4; rw [HP.out.num n hn4] at h9; exact h9) (HP.out.ok n hn4) (HP.out.posts.vars.below HB5.out) (HP.out.posts.free n hn4))
          have HOKD := Lib.hid (doB_ok (HP.out.ok n hn4) hn4 rw0)
          generalize doB (ps n).b n rw0 = dr at *
          obtain ⟨d0, d1, d2⟩ := dr
          go_wp2_with fail
          refine HDO.out.mono ?_
          rintro e w6 ⟨rfl, hex⟩
          have HT := Lib.hid (Turn.ahead HB5.out (Turn.of (HP.out.below HB5.out) hn4 hex HOKD.out (bs := fun j => (ps j).b) (fun j hj => rfl)))
          clear hex
          go_wp2
          go_ret2
          rw [HR.out]
          exact ⟨rfl, HT.out⟩
        | false =>
          rw [hd] at hta HR
          unfold ifV at hta
          simp only [Bool.false_eq_true, if_false] at hta HR
          clear hd
          cases hq : Cmd.askO (parseB rw0) with
          | true =>
            rw [hq] at htb HR
            unfold ifV at htb
            simp only [if_true] at htb HR
            have HAQ := Lib.hid (HASK.out n w5 hn4 HPV.out hq HB5.out)
            clear hq
            generalize askB (ps n).b rw0 = ar at *
            obtain ⟨a0, a1⟩ := ar
            go_wp2_with fail
            refine HAQ.out.mono ?_
            rintro e w6 ⟨rfl, hb6⟩
            have HB6 := Lib.hid (KB.call HB5.out hb6)
            clear hb6
            go_wp2
            go_ret2
            rw [HR.out]
            exact ⟨rfl, Turn.refl HP.out HB6.out⟩
          | false =>
            rw [hq] at htb HR
            unfold ifV at htb
            simp only [Bool.false_eq_true, if_false] at htb HR
            clear hq
            go_wp2
            go_ret2
            rw [HR.out]
            exact ⟨rfl, Turn.refl HP.out HB5.out⟩
end Go.Proofs.YtdfkaijeppdhaaaGreatDoor

/- Contracts: Play. -/
namespace Go.Proofs.YtdfkaijeppdhaaaGreatDoor
open Go.RowKit Go.Shelf

/-! ### Plain -/
def errW : ByteArray := ⟨#[101, 114, 114, 111, 114, 32]⟩
def playA (r : ByteArray × Int) : ByteArray := if r.2 = 0 then r.1 else errW ++ itoaB r.2
def playN (askB : Book → ByteArray → ByteArray × Int) (lines : List ByteArray) : Nat → List ByteArray × (Nat → Book)
  | 0 => ([], fun _ => empB)
  | k + 1 => ((playN askB lines k).1 ++ [playA (doesB askB (playN askB lines k).2 (lines.getD k emp)).1], (doesB askB (playN askB lines k).2 (lines.getD k emp)).2)
theorem doesB_congr (askB : Book → ByteArray → ByteArray × Int) {bs bs' : Nat → Book} (h : ∀ j, j < 4 → bs j = bs' j) (line : ByteArray) : (doesB askB bs line).1 = (doesB askB bs' line).1 ∧ ∀ j, j < 4 → (doesB askB bs line).2 j = (doesB askB bs' line).2 j := by
  unfold doesB
  cases hp : postV (firstW line) with
  | none => exact ⟨rfl, h⟩
  | some n =>
    have hn := (postV_some hp).2
    have hset : ∀ (c c' : Book), c = c' → ∀ j, j < 4 → setN bs n c j = setN bs' n c' j := fun c c' e j hj => by
      unfold setN
      split
      · exact e
      · exact h j hj
    simp only
    rw [h n hn]
    split
    · cases hk : postV (otherW (restW line)) with
      | none => exact ⟨rfl, h⟩
      | some k =>
        simp only
        rw [h k (postV_some hk).2]
        exact ⟨rfl, hset _ _ rfl⟩
    · split
      · exact ⟨rfl, hset _ _ rfl⟩
      · split
        · exact ⟨rfl, h⟩
        · exact ⟨rfl, h⟩
theorem doB_err (b : Book) (n : Nat) (line : ByteArray) : 0 ≤ (doB b n line).2.1 ∧ (doB b n line).2.1 ≤ 1000 := by
  unfold doB
  split
  · simp
  · rename_i c hc
    split
    · simp
    · split
      · simp
      · split
        · simp
        · cases c <;> simp [sayB]
          split <;> simp
theorem doesB_err (askB : Book → ByteArray → ByteArray × Int) (hsm : ∀ b l, 0 ≤ (askB b l).2 ∧ (askB b l).2 ≤ 1000) (bs : Nat → Book) (line : ByteArray) : 0 ≤ (doesB askB bs line).1.2 ∧ (doesB askB bs line).1.2 ≤ 1000 := by
  unfold doesB
  split
  · simp
  · split
    · split
      · simp
      · simp only [joinV]
        split <;> simp
    · split
      · exact doB_err _ _ _
      · split
        · exact hsm _ _
        · simp
theorem play_len (askB : Book → ByteArray → ByteArray × Int) (lines : List ByteArray) : ∀ k, (playN askB lines k).1.length = k
  | 0 => rfl
  | k + 1 => by unfold playN; rw [List.length_append, play_len askB lines k]; rfl

/-! ### Memory -/
theorem PostAt.types {w : World} {P n : Nat} {F : List Nat} {b : Book} (h : PostAt w P F n b) {k : Nat} (hk : k ∈ F) : ∃ cs t fr, w.heap[k]? = some (.cells cs t fr) ∧ (t = 81 ∨ t = 96 ∨ t = 43) := by
  obtain ⟨K, vs, hP, hvs, rfl⟩ := h.parts
  rcases List.mem_cons.1 hk with rfl | hk
  · exact ⟨_, _, _, hP, .inl rfl⟩
  · rcases List.mem_cons.1 hk with rfl | hk
    · exact ⟨_, _, _, hvs.cells, .inr (.inl rfl)⟩
    · obtain ⟨i, hi, h5⟩ := mem_blks.1 hk
      rcases (hvs.list i hi).2 with ⟨h1, _⟩ | ⟨g', cap', cur, h1, _, h2, _⟩
      · rw [h1] at h5; cases h5
      · rw [h1] at h5
        have : g' = k := by simpa [Value.ownBlock] using h5
        subst this
        exact ⟨_, _, _, h2, .inr (.inr rfl)⟩
theorem own_type {w : World} {base : Nat} {e : TypeId} {size : Nat} {v : Value} {n : Nat} {xs : List Value} (h : w.ownsRow base e size v n xs) {k : Nat} (hk : v.ownBlock = some k) : ∃ cur, w.heap[k]? = some (.cells cur e (0, 0)) := by
  rcases h.2 with ⟨h1, _⟩ | ⟨g', cap', cur, h1, _, h2, _⟩
  · rw [h1] at hk; cases hk
  · rw [h1] at hk
    have : g' = k := by simpa [Value.ownBlock] using hk
    subst this
    exact ⟨_, h2⟩
/-- A row of strings, or of posts, stands on no block of a post. -/
theorem PostAt.not_own {w : World} {P n : Nat} {F : List Nat} {b : Book} (h : PostAt w P F n b) {base : Nat} {e : TypeId} {size : Nat} {v : Value} {m : Nat} {xs : List Value} (hr : w.ownsRow base e size v m xs) (he : e ≠ 81 ∧ e ≠ 96 ∧ e ≠ 43) {k : Nat} (hk : k ∈ F) : v.ownBlock ≠ some k := fun hv => by
  obtain ⟨cs, t, fr, h1, h2⟩ := h.types hk
  obtain ⟨cur, h3⟩ := own_type hr hv
  rw [h1] at h3
  simp only [Option.some.injEq, Obj.cells.injEq] at h3
  obtain ⟨_, rfl, _⟩ := h3
  rcases h2 with h2 | h2 | h2
  · exact he.1 h2
  · exact he.2.1 h2
  · exact he.2.2 h2
theorem own_keep {w w' : World} {base : Nat} {e : TypeId} {size : Nat} {v : Value} {n : Nat} {xs : List Value} (h : w.ownsRow base e size v n xs) (hk : ∀ k, v.ownBlock = some k → w'.heap[k]? = w.heap[k]?) : w'.ownsRow base e size v n xs := by
  refine ⟨h.1, ?_⟩
  rcases h.2 with hn | ⟨g, cap, cur, rfl, hbg, hg, hrest⟩
  · exact .inl hn
  · exact .inr ⟨g, cap, cur, rfl, hbg, (hk g rfl).trans hg, hrest⟩
theorem Posts.grown {w w' : World} {m : Nat} {ps : Nat → Pst} (h : Posts w m ps) {base : Nat} {e : TypeId} {size : Nat} {v : Value} {n : Nat} {xs : List Value} (hr : w.ownsRow base e size v n xs) (he : e ≠ 81 ∧ e ≠ 96 ∧ e ≠ 43) (hv : ∀ k, isVar k → k < base) (hg : w.grownBy w' v.ownBlock) : Posts w' m ps :=
  h.keep (fun k hk => hg.block k (h.vars.lt hk) fun e2 => by have := (hr.lt k e2.symm).1; have := hv k hk; omega) fun i hi k hk => hg.block k (h.lt hi hk) fun e2 => (h.post i hi).not_own hr he hk e2.symm
def ptrs (ps : Nat → Pst) (k : Nat) : List Value := (List.range k).map fun j => .pointer (some ⟨(ps j).P, 0, none⟩)
theorem ptrs_snoc (ps : Nat → Pst) (k : Nat) (p : Pst) : ptrs (setS ps k p) (k + 1) = ptrs ps k ++ [.pointer (some ⟨p.P, 0, none⟩)] := by
  unfold ptrs
  rw [List.range_succ, List.map_append, List.map_singleton, setS_same]
  congr 1
  refine List.map_congr_left fun j hj => ?_
  rw [setS_other _ _ (by have := List.mem_range.1 hj; omega)]
theorem ptrs_at (ps : Nat → Pst) {k j : Nat} (h : j < k) : (ptrs ps k)[j]? = some (.pointer (some ⟨(ps j).P, 0, none⟩)) := by
  unfold ptrs
  rw [List.getElem?_map, List.getElem?_range h]; rfl
theorem Tryz.infoPtr : (Tryz.prog.info? 33).map (fun i => (i.zero, i.size, i.bytes)) = some (some (.pointer none), 1, 8) := by kernel_rfl
end Go.Proofs.YtdfkaijeppdhaaaGreatDoor

/- Contracts: Ask. -/
import Derived.Test.YtdfkaijeppdhaaaGreatDoorFg
import Derived.Test.YtdfkaijeppdhaaaGreatDoorFf
namespace Go.Proofs.YtdfkaijeppdhaaaGreatDoor
open Go.RowKit Go.Shelf

set_option maxRecDepth 100000 in
set_option maxHeartbeats 4000000 in
/-- Ask of what is no question. -/
theorem ask_no (P n : Nat) (F : List Nat) (b : Book) (line : ByteArray) (hs : line.size ≤ 1000000) (w : World) (h : PostAt w P F n b) (hV : Vars w) (hd : Cmd.askO (parseB line) = false) :
    Calls Tryz.prog 36 #[.pointer (some ⟨P, 0, none⟩), .string line] w (AnsPost (emp, 100) w) := by
  obtain ⟨K, vs, hP, hvs, hF⟩ := h.parts
  have HN := Lib.hid (none_any P K n _ w hP)
  have HA := Lib.hid (parse_any line hs w hV)
  have HD := Lib.hid hd
  clear h hP hvs hF hV hd
  unfold emp
  go_enter Tryz.func36, Tryz.ntmps36
  go_wp2_with fail
  refine HN.out.mono ?_
  rintro e w1 ⟨rfl, rfl⟩
  go_wp2_with fail
  refine HA.out.mono ?_
  rintro e w1 ⟨⟨pv, rfl, hpv⟩, hb1⟩
  have hta := assert_ask hpv w1
  rw [HD.out] at hta
  unfold ifV at hta
  simp only [Bool.false_eq_true, if_false] at hta
  have HB1 := Lib.hid hb1
  clear hpv hb1
  go_wp2
  go_ret2
  exact ⟨rfl, HB1.out⟩
theorem asked_norm (ans : List ByteArray → ByteArray × Int) (names : List ByteArray) (kn : Kn) : (askedV ans names kn).2 ≠ 0 → (askedV ans names kn).1 = emp := by
  unfold askedV
  split
  · exact fun _ => rfl
  · split
    · exact fun h => absurd rfl h
    · exact fun _ => rfl
set_option maxRecDepth 100000 in
set_option maxHeartbeats 8000000 in
/-- Ask of a question about texts. -/
theorem askq_asked (P n : Nat) (F : List Nat) (b : Book) (line : ByteArray) (hs : line.size ≤ 1000000) (w : World) (h : PostAt w P F n b) (hok : BookOk b) (hV : Vars w) (k : Nat) (names : List ByteArray) (ns : List Int) (hc : parseB line = some (.asked k names ns))
    (h0 : 0 < names.length) (hl : names.length ≤ 1000) (ans : List ByteArray → ByteArray × Int) (eg : ∀ args w, (callFunc (kindF k) args).run Tryz.prog w = .ok (.enter (kindF k) args) w)
    (hans : ∀ W base tv bv ts, Below w.heap.size w W → base ≤ W.heap.size → W.ownsRow base 9 1 tv ts.length (ts.map Value.string) → IntsAt W bv ns → allS (saysB (allB b)).txt names = some ts → Calls Tryz.prog (kindF k) #[tv, bv] W (AnsPost (ans ts) W)) :
    Calls Tryz.prog 36 #[.pointer (some ⟨P, 0, none⟩), .string line] w (AnsPost (askedV ans names (saysB (allB b))) w) := by
  have HSM := Lib.hid ((Cmd.names_small hc).2.2.2.2.2 k names ns rfl)
  have HANS := Lib.hid hans
  clear hans
  obtain ⟨R, hR⟩ : ∃ R, R = askedV ans names (saysB (allB b)) := ⟨_, rfl⟩
  have HNM := Lib.hid (asked_norm ans names (saysB (allB b)))
  have HR := Lib.hid hR
  rw [← hR]
  clear hR
  obtain ⟨K, vs, hP, hvs, hF⟩ := h.parts
  have HN := Lib.hid (none_any P K n _ w hP)
  have HA := Lib.hid (parse_any line hs w hV)
  have HC := Lib.hid hc
  have HPC := Lib.hid hP
  have HVS := Lib.hid hvs
  have HVR := Lib.hid hV
  have HOK := Lib.hid hok
  clear h hP hvs hF hV hok hc
  go_enter Tryz.func36, Tryz.ntmps36
  go_wp2_with fail
  refine HN.out.mono ?_
  rintro e w1 ⟨rfl, rfl⟩
  go_wp2_with fail
  refine HA.out.mono ?_
  rintro e w1 ⟨⟨pv, rfl, hpv⟩, hb1⟩
  have hta := assert_ask hpv w1
  rw [HC.out] at hta hpv
  rw [show Cmd.askO (some (.asked k names ns)) = true from rfl] at hta
  unfold ifV at hta
  simp only [if_true] at hta
  have HPV := Lib.hid hpv
  have HB1 := Lib.hid hb1
  have HV1 := Lib.hid (HVR.out.below hb1)
  have r4 : ∀ W, KB w1 W → W.cell? ⟨P, 0, none⟩ = some (.pointer (some ⟨K, 0, none⟩)) := fun W hW => keep_cell hW (keep_cell hb1 (heap_cell HPC.out rfl))
  have HALL := Lib.hid (fun W (hW : KB w1 W) => all_any K _ b W ((HVS.out.below HB1.out).below hW).at HOK.out)
  have HENT : Hid (∀ e ∈ allB b, (eLine e).size ≤ 60) := Lib.hid (fun e he => ((isLineB_iff _).1 (by rw [← lineB_is]; exact (book_bounds HOK.out he).2.2.2)).1)
  have HLEN : Hid ((allB b).length ≤ 1000) := Lib.hid (by rw [allB_len]; have := lenB_le HOK.out; omega)
  clear hpv hb1
  go_wp2
  obtain ⟨a1, b1, rfl, hs1, hi1⟩ := HPV.out
  have hme : ∀ w, (method 462 185 (.agg #[a1, b1, .func (.func (kindF k)) #[] #[]]) "skimmer/post.ask").run Tryz.prog w = .ok (338, .agg #[a1, b1, .func (.func (kindF k)) #[] #[]]) w := fun w => method_asked _ w
  have hah : ∀ w, (nilAhead 462 185 (.agg #[a1, b1, .func (.func (kindF k)) #[] #[]]) "skimmer/post.ask").run Tryz.prog w = .ok (some false) w := fun w => ahead_asked _ w
  have HS1 := Lib.hid hs1
  have HI1 := Lib.hid hi1
  have HRR := Lib.hid (show askedV ans names (saysB (allB b)) = R from HR.out.symm)
  clear hs1 hi1 hta
  generalize kindF k = gf at *
  have HAK := Lib.hid (fun W (hW : KB w1 W) ka kb (hk : KnAt W ka kb (allB b).length (saysB (allB b))) => asked_any gf eg ans a1 b1 names ns ka kb _ _ W (HS1.out.below hW) (HI1.out.below hW) h0 hl HSM.out hk (fun W2 base tv ts hb2 hbs hrow hts => HANS.out W2 base tv b1 ts (below_trans HB1.out (hW.trans (hb2.mono hW.size))) hbs hrow ((HI1.out.below hW).below hb2) hts))
  rw [HRR.out] at HAK
  go_region_held3 (fun W => KB w1 W) (first | exact KB.refl _ | exact KB.drew (KB.refl _) | assumption | exact KB.drew (by assumption) | fail) (first
    | (go_at_call 57; refine (HALL.out _ (by first | exact KB.refl _ | exact KB.drew (KB.refl _) | assumption)).mono ?_; rintro e w5 ⟨v5, rfl, hl5, ho5, hb5⟩; have q5 : KB w1 w5 := KB.call (KB.drew (KB.refl _)) hb5; have HSY := Lib.hid (says_any v5 (allB b) w5 (hl5.ents (by have := HLEN.out; omega)) HLEN.out HENT.out (HV1.out.below q5)); clear hl5 ho5 hb5)
    | (go_at_call 56; refine HSY.out.mono ?_; rintro e w6 ⟨ka, kb, rfl, hk6, hka, hkb, hb6⟩; have q6 : KB w1 w6 := KB.call q5 hb6; have HK6 := Lib.hid hk6; have HV6 := Lib.hid (HV1.out.below q6); clear hk6 hka hkb hb6)
    | (go_at_call 338; refine (HAK.out _ q6 _ _ HK6.out).mono ?_; rintro e w7 ⟨rfl, hb7⟩; have q7 : KB w1 w7 := KB.call q6 hb7; clear hb7)
    | fail)
  all_goals (
    rw [HRR.out] at HNM
    obtain ⟨rs, re⟩ := R
    by_cases hz : re = 0
    · subst hz
      go_wp2
      go_ret2
      exact ⟨rfl, below_trans HB1.out q7⟩
    · have z0 : (re != 0) = true := by simpa using hz
      have hem : rs = emp := HNM.out hz
      subst hem
      go_wp2
      go_ret2
      exact ⟨rfl, below_trans HB1.out q7⟩)
end Go.Proofs.YtdfkaijeppdhaaaGreatDoor

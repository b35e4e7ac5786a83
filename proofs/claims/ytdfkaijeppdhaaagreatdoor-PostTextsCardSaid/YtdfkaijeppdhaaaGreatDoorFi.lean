/- Texts of this claim, laid together: Fg, Fh, Fi. -/
import Derived.Test.YtdfkaijeppdhaaaGreatDoorEl
import Derived.Test.YtdfkaijeppdhaaaGreatDoorFf

/- Contracts: asked.ask, whatever answers; text; stock.ask. -/
namespace Go.Proofs.YtdfkaijeppdhaaaGreatDoor
open Go.RowKit Go.Shelf

theorem Tryz.infoStr : (Tryz.prog.info? 9).map (fun i => (i.zero, i.size, i.bytes)) = some (some (.string ⟨#[]⟩), 1, 16) := by kernel_rfl
theorem allG_take {α β : Type} {f : α → Option β} {d : α} {l : List α} {k : Nat} (h : k < l.length) : allS f (l.take (k + 1)) = match allS f (l.take k), f (l.getD k d) with
    | some ys, some y => some (ys ++ [y])
    | _, _ => none := by
  rw [List.take_succ_eq_append_getElem h, allS_snoc, List.getD_eq_getElem?_getD, List.getElem?_eq_getElem h, Option.getD_some]
  cases allS f (l.take k) <;> rfl
theorem allG_none {α β : Type} {f : α → Option β} {l : List α} {x : α} (hx : x ∈ l) (h : f x = none) : allS f l = none := allS_bad f l hx h
/-- What a question about texts answers. -/
def askedV (ans : List ByteArray → ByteArray × Int) (names : List ByteArray) (kn : Kn) : ByteArray × Int := match allS kn.txt names with
  | none => (emp, 5)
  | some ts => if (ans ts).2 = 0 then ((ans ts).1, 0) else (emp, (ans ts).2)
def AnsPost (r : ByteArray × Int) (w : World) (e : Ending) (w' : World) : Prop := e = .returned (.tuple #[.string r.1, .int .i64 r.2]) ∧ Below w.heap.size w w'
set_option maxRecDepth 100000 in
set_option maxHeartbeats 4000000 in
theorem asked_any (gf : Nat) (eg : ∀ args w, (callFunc gf args).run Tryz.prog w = .ok (.enter gf args) w) (ans : List ByteArray → ByteArray × Int) (nv bv : Value) (names : List ByteArray) (ns : List Int) (a b n : Nat) (kn : Kn) (w : World)
    (hN : StrsAt w nv names) (hI : IntsAt w bv ns) (h0 : 0 < names.length) (hl : names.length ≤ 1000) (hsz : ∀ x ∈ names, x.size ≤ 8) (hK : KnAt w a b n kn)
    (hans : ∀ W base tv ts, Below w.heap.size w W → base ≤ W.heap.size → W.ownsRow base 9 1 tv ts.length (ts.map Value.string) → allS kn.txt names = some ts → Calls Tryz.prog gf #[tv, bv] W (AnsPost (ans ts) W)) :
    Calls Tryz.prog 338 #[.agg #[nv, bv, .func (.func gf) #[] #[]], knV a b] w (AnsPost (askedV ans names kn) w) := by
  obtain ⟨i0, hi0, hz0, hz1, hz2⟩ := info_parts Tryz.infoStr
  obtain ⟨R, hR⟩ : ∃ R, R = askedV ans names kn := ⟨_, rfl⟩
  have HR := Lib.hid hR
  rw [← hR]
  clear hR
  obtain ⟨bk, off, cap, rfl, hcap, hcc, hq⟩ := hN.cons h0
  obtain ⟨ia, icap, hbv, _⟩ := id hI
  obtain ⟨w1, hw1⟩ : ∃ w1, w1 = (w.alloc (.cells #[.slice (some ⟨bk, off, none⟩) names.length cap, bv, .func (.func gf) #[] #[]] 185)).alloc (.cells #[.map (some a), .map (some b)] 102) := ⟨_, rfl⟩
  have hb1 : Below w.heap.size w w1 := by rw [hw1]; exact ((Below.refl _ w).alloc (Nat.le_refl _) _).alloc (by simp) _
  have HB1 := Lib.hid hb1
  have HQ := Lib.hid (fun j hj => keep_cell hb1 (hq j hj))
  have HK1 := Lib.hid (hK.below hb1)
  have HE1 : Hid (w1.heap[w.heap.size]? = some (.cells #[.slice (some ⟨bk, off, none⟩) names.length cap, bv, .func (.func gf) #[] #[]] 185 (0, 0))) := Lib.hid (by
    rw [hw1]; exact (Below.heap_alloc _ _ _ (by simp)).trans (World.alloc_heap_new w _))
  have HE2 : Hid (w1.heap[w.heap.size + 1]? = some (.cells #[.map (some a), .map (some b)] 102 (0, 0))) := Lib.hid (by
    have := World.alloc_heap_new (w.alloc (.cells #[.slice (some ⟨bk, off, none⟩) names.length cap, bv, .func (.func gf) #[] #[]] 185)) (.cells #[.map (some a), .map (some b)] 102)
    rw [World.size_alloc] at this
    rw [hw1]; exact this)
  have HANS := Lib.hid hans
  have HSZ := Lib.hid hsz
  have HZ1 : Hid (w1.heap.size = w.heap.size + 2) := Lib.hid (by rw [hw1]; simp)
  have HW1 := Lib.hid hw1
  obtain ⟨nl, hnl⟩ : ∃ nl, nl = names.length := ⟨_, rfl⟩
  have HN := Lib.hid hnl
  rw [← hnl] at hcap h0 hl HE1 HW1 ⊢
  clear hnl hw1 hb1 hN hI hK hans hsz hq
  subst hbv
  unfold knV
  go_enter Tryz.func338, Tryz.ntmps338
  go_wp2_with fail
  rw [← HW1.out]
  have HL1 := Lib.hid HZ1.out
  go_loopw [6, 16] (fun o i wr => ∃ (k : Nat) (ts : List ByteArray), k ≤ nl ∧ i = .int .i64 k ∧ Hid (allS kn.txt (names.take k) = some ts) ∧ Hid (ts.length = k) ∧ wr.ownsRow w1.heap.size 9 1 o k (ts.map Value.string) ∧ Below w1.heap.size w1 wr) (fun _ i _ => nl - (intOf i).toNat)
  case atStart => exact ⟨0, [], Nat.zero_le _, rfl, Lib.hid rfl, Lib.hid rfl, World.ownsRow_nil _ _ _ _, Below.refl _ _⟩
  case round =>
    obtain ⟨k, ts, hk, rfl, hall, hlen, hown, hbel⟩ := hrel
    have hsz1 := hbel.size
    have e0 := keep_cell hbel (heap_cell (j := 0) HE1.out rfl)
    have e1 := keep_cell hbel (heap_cell (j := 1) HE1.out rfl)
    have e2 := keep_cell hbel (heap_cell (j := 2) HE1.out rfl)
    have e3 := keep_cell hbel (heap_cell (j := 0) HE2.out rfl)
    have e4 := keep_cell hbel (heap_cell (j := 1) HE2.out rfl)
    by_cases hlt : k < nl
    · have hc := keep_cell hbel (HQ.out k (by rw [← HN.out]; exact hlt))
      have HS := Lib.hid (allG_take (f := kn.txt) (d := emp) (l := names) (k := k) (by rw [← HN.out]; exact hlt))
      have hmem : names.getD k emp ∈ names := by rw [List.getD_eq_getElem?_getD, List.getElem?_eq_getElem (by rw [← HN.out]; exact hlt)]; exact List.getElem_mem _
      have HM := Lib.hid hmem
      have HXS := HSZ.out _ hmem
      clear hmem
      generalize names.getD k emp = x at *
      have hlook := (HK1.out.below hbel).look x (by omega)
      have HB := Lib.hid hbel
      have HO := Lib.hid hown
      clear hbel hown
      cases hx : kn.txt x with
      | some y =>
        rw [hx] at HS hlook
        unfold txtV at hlook
        simp only [Option.getD_some, Option.isSome_some] at hlook
        clear hx
        go_wp2_with (at_builtin; refine wpList_append_own _ rfl _ _ 22 rfl w1.heap.size 9 i0 (.string ⟨#[]⟩) 1 16 Tryz.underlying22 hi0 hz0 hz1 hz2 rfl (by decide) _ _ _ rfl (HO.out.alloc _) ⟨wr.heap.size, 0, none⟩ 1 1 [.string y] rfl rfl ?c1 ?c2 ?c3 ?c4 ?c5 ?_)
        case c1 => exact (cell_one_new _ _ _)
        case c2 => intro u hu; simp at hu; subst hu; rfl
        case c3 => unfold maxLen; omega
        case c4 => omega
        case c5 => simp; omega
        · intro v' w2 hown' hgrow _
          have R := below_append HB.out hsz1 HO.out (Nat.le_refl _) hgrow
          clear hgrow
          go_wp2
          go_roundw
          case rel => exact ⟨k + 1, ts ++ [y], by omega, by go_num, Lib.hid (by rw [HS.out, hall.out]), Lib.hid (by rw [List.length_append, hlen.out]; rfl), by rw [List.map_append]; exact hown', R⟩
          case measure => simp [intOf]; omega
      | none =>
        have HRX : Hid (R = (emp, 5)) := Lib.hid (by rw [HR.out]; unfold askedV; rw [allG_none HM.out hx])
        rw [hx] at hlook
        unfold txtV emp at hlook
        simp only [Option.getD_none, Option.isSome_none] at hlook
        clear hx
        go_wp2
        go_ret2
        rw [HRX.out]
        exact ⟨rfl, HB1.out.trans (HB.out.mono HB1.out.size)⟩
    · have e : k = nl := by omega
      subst e
      have hts : allS kn.txt names = some ts := by
        have := hall.out
        rw [HN.out, List.take_length] at this
        exact this
      have HB := Lib.hid (HB1.out.trans (hbel.mono HB1.out.size))
      have HA := Lib.hid (HANS.out wr w1.heap.size _ ts HB.out hsz1 (by rw [hlen.out]; exact hown) hts)
      have HRR : Hid (R = if (ans ts).2 = 0 then ((ans ts).1, 0) else (emp, (ans ts).2)) := Lib.hid (by rw [HR.out]; unfold askedV; rw [hts])
      clear hown hbel hts
      generalize ans ts = r at *
      obtain ⟨rs, re⟩ := r
      by_cases hz : re = 0
      · subst hz
        have HRX : Hid (R = (rs, 0)) := Lib.hid (by rw [HRR.out]; rfl)
        go_wp2_with fail
        refine HA.out.mono ?_
        rintro e w5 ⟨rfl, h5⟩
        go_wp2
        go_ret2
        rw [HRX.out]
        exact ⟨rfl, below_trans HB.out h5⟩
      · have HRX : Hid (R = (emp, re)) := Lib.hid (by rw [HRR.out]; simp only; rw [if_neg hz])
        have z0 : (re != 0) = true := by simpa using hz
        go_wp2_with fail
        refine HA.out.mono ?_
        rintro e w5 ⟨rfl, h5⟩
        go_wp2
        go_ret2
        rw [HRX.out]
        exact ⟨rfl, below_trans HB.out h5⟩
/-- The text of one name. -/
def ansText (ts : List ByteArray) : ByteArray × Int := (ts.getD 0 emp, 0)
set_option maxHeartbeats 400000 in
theorem text_kind (W : World) (base : Nat) (tv bv : Value) (ts : List ByteArray) (h : W.ownsRow base 9 1 tv ts.length (ts.map Value.string)) (h0 : 0 < ts.length) (hl : ts.length ≤ 1000) : Calls Tryz.prog 116 #[tv, bv] W (AnsPost (ansText ts) W) := by
  rcases h.2 with ⟨_, h1⟩ | ⟨g, cap, cur, rfl, _⟩
  · omega
  · have c0 := h.cellAt 0 (by omega)
    rw [List.getElem?_map, List.getElem?_eq_getElem h0] at c0
    have hx : ansText ts = (ts[0], 0) := by unfold ansText; rw [List.getD_eq_getElem?_getD, List.getElem?_eq_getElem h0]; rfl
    rw [hx]
    generalize ts[0] = x at *
    generalize ts.length = n at *
    simp only [Option.map_some] at c0
    clear h hx
    go_enter Tryz.func116, Tryz.ntmps116
    go_wp2
    go_ret2
    exact ⟨rfl, Below.refl _ _⟩
end Go.Proofs.YtdfkaijeppdhaaaGreatDoor

/- Contracts: Ask. -/
namespace Go.Proofs.YtdfkaijeppdhaaaGreatDoor
open Go.RowKit Go.Shelf

set_option maxRecDepth 100000 in
set_option maxHeartbeats 4000000 in
/-- Ask of what is no question. -/
theorem ask_no (P n : Nat) (F : List Nat) (b : Book) (line : ByteArray) (hs : line.size ≤ 1000000) (w : World) (h : PostAt w P F n b) (hV : Vars w) (hd : Cmd.askO (parseB line) = false) :
    Calls Tryz.prog 36 #[.pointer (some ⟨P, 0, none⟩), .string line] w (AnsPost (emp, 100) w) := by
  obtain ⟨K, vs, hP, hvs, hF⟩ := h.parts
  have HN := Lib.hid (none_any P K n _ w hP)
  have HA := Lib.hid (parse_any line hs w hV)
  have HD := Lib.hid hd
  clear h hP hvs hF hV hd
  unfold emp
  go_enter Tryz.func36, Tryz.ntmps36
  go_wp2_with fail
  refine HN.out.mono ?_
  rintro e w1 ⟨rfl, rfl⟩
  go_wp2_with fail
  refine HA.out.mono ?_
  rintro e w1 ⟨⟨pv, rfl, hpv⟩, hb1⟩
  have hta := assert_ask hpv w1
  rw [HD.out] at hta
  unfold ifV at hta
  simp only [Bool.false_eq_true, if_false] at hta
  have HB1 := Lib.hid hb1
  clear hpv hb1
  go_wp2
  go_ret2
  exact ⟨rfl, HB1.out⟩
theorem asked_norm (ans : List ByteArray → ByteArray × Int) (names : List ByteArray) (kn : Kn) : (askedV ans names kn).2 ≠ 0 → (askedV ans names kn).1 = emp := by
  unfold askedV
  split
  · exact fun _ => rfl
  · split
    · exact fun h => absurd rfl h
    · exact fun _ => rfl
set_option maxRecDepth 100000 in
set_option maxHeartbeats 8000000 in
/-- Ask of a question about texts. -/
theorem askq_asked (P n : Nat) (F : List Nat) (b : Book) (line : ByteArray) (hs : line.size ≤ 1000000) (w : World) (h : PostAt w P F n b) (hok : BookOk b) (hV : Vars w) (k : Nat) (names : List ByteArray) (ns : List Int) (hc : parseB line = some (.asked k names ns))
    (h0 : 0 < names.length) (hl : names.length ≤ 1000) (ans : List ByteArray → ByteArray × Int) (eg : ∀ args w, (callFunc (kindF k) args).run Tryz.prog w = .ok (.enter (kindF k) args) w)
    (hans : ∀ W base tv bv ts, Below w.heap.size w W → base ≤ W.heap.size → W.ownsRow base 9 1 tv ts.length (ts.map Value.string) → IntsAt W bv ns → allS (saysB (allB b)).txt names = some ts → Calls Tryz.prog (kindF k) #[tv, bv] W (AnsPost (ans ts) W)) :
    Calls Tryz.prog 36 #[.pointer (some ⟨P, 0, none⟩), .string line] w (AnsPost (askedV ans names (saysB (allB b))) w) := by
  have HSM := Lib.hid ((Cmd.names_small hc).2.2.2.2.2 k names ns rfl)
  have HANS := Lib.hid hans
  clear hans
  obtain ⟨R, hR⟩ : ∃ R, R = askedV ans names (saysB (allB b)) := ⟨_, rfl⟩
  have HNM := Lib.hid (asked_norm ans names (saysB (allB b)))
  have HR := Lib.hid hR
  rw [← hR]
  clear hR
  obtain ⟨K, vs, hP, hvs, hF⟩ := h.parts
  have HN := Lib.hid (none_any P K n _ w hP)
  have HA := Lib.hid (parse_any line hs w hV)
  have HC := Lib.hid hc
  have HPC := Lib.hid hP
  have HVS := Lib.hid hvs
  have HVR := Lib.hid hV
  have HOK := Lib.hid hok
  clear h hP hvs hF hV hok hc
  go_enter Tryz.func36, Tryz.ntmps36
  go_wp2_with fail
  refine HN.out.mono ?_
  rintro e w1 ⟨rfl, rfl⟩
  go_wp2_with fail
  refine HA.out.mono ?_
  rintro e w1 ⟨⟨pv, rfl, hpv⟩, hb1⟩
  have hta := assert_ask hpv w1
  rw [HC.out] at hta hpv
  rw [show Cmd.askO (some (.asked k names ns)) = true from rfl] at hta
  unfold ifV at hta
  simp only [if_true] at hta
  have HPV := Lib.hid hpv
  have HB1 := Lib.hid hb1
  have HV1 := Lib.hid (HVR.out.below hb1)
  have r4 : ∀ W, KB w1 W → W.cell? ⟨P, 0, none⟩ = some (.pointer (some ⟨K, 0, none⟩)) := fun W hW => keep_cell hW (keep_cell hb1 (heap_cell HPC.out rfl))
  have HALL := Lib.hid (fun W (hW : KB w1 W) => all_any K _ b W ((HVS.out.below HB1.out).below hW).at HOK.out)
  have HENT : Hid (∀ e ∈ allB b, (eLine e).size ≤ 60) := Lib.hid (fun e he => ((isLineB_iff _).1 (by rw [← lineB_is]; exact (book_bounds HOK.out he).2.2.2)).1)
  have HLEN : Hid ((allB b).length ≤ 1000) := Lib.hid (by rw [allB_len]; have := lenB_le HOK.out; omega)
  clear hpv hb1
  go_wp2
  obtain ⟨a1, b1, rfl, hs1, hi1⟩ := HPV.out
  have hme : ∀ w, (method 462 185 (.agg #[a1, b1, .func (.func (kindF k)) #[] #[]]) "skimmer/post.ask").run Tryz.prog w = .ok (338, .agg #[a1, b1, .func (.func (kindF k)) #[] #[]]) w := fun w => method_asked _ w
  have hah : ∀ w, (nilAhead 462 185 (.agg #[a1, b1, .func (.func (kindF k)) #[] #[]]) "skimmer/post.ask").run Tryz.prog w = .ok (some false) w := fun w => ahead_asked _ w
  have HS1 := Lib.hid hs1
  have HI1 := Lib.hid hi1
  have HRR := Lib.hid (show askedV ans names (saysB (allB b)) = R from HR.out.symm)
  clear hs1 hi1 hta
  generalize kindF k = gf at *
  have HAK := Lib.hid (fun W (hW : KB w1 W) ka kb (hk : KnAt W ka kb (allB b).length (saysB (allB b))) => asked_any gf eg ans a1 b1 names ns ka kb _ _ W (HS1.out.below hW) (HI1.out.below hW) h0 hl HSM.out hk (fun W2 base tv ts hb2 hbs hrow hts => HANS.out W2 base tv b1 ts (below_trans HB1.out (hW.trans (hb2.mono hW.size))) hbs hrow ((HI1.out.below hW).below hb2) hts))
  rw [HRR.out] at HAK
  go_region_held3 (fun W => KB w1 W) (first | exact KB.refl _ | exact KB.drew (KB.refl _) | assumption | exact KB.drew (by assumption) | fail) (first
    | (go_at_call 57; refine (HALL.out _ (by first | exact KB.refl _ | exact KB.drew (KB.refl _) | assumption)).mono ?_; rintro e w5 ⟨v5, rfl, hl5, ho5, hb5⟩; have q5 : KB w1 w5 := KB.call (KB.drew (KB.refl _)) hb5; have HSY := Lib.hid (says_any v5 (allB b) w5 (hl5.ents (by have := HLEN.out; omega)) HLEN.out HENT.out (HV1.out.below q5)); clear hl5 ho5 hb5)
    | (go_at_call 56; refine HSY.out.mono ?_; rintro e w6 ⟨ka, kb, rfl, hk6, hka, hkb, hb6⟩; have q6 : KB w1 w6 := KB.call q5 hb6; have HK6 := Lib.hid hk6; have HV6 := Lib.hid (HV1.out.below q6); clear hk6 hka hkb hb6)
    | (go_at_call 338; refine (HAK.out _ q6 _ _ HK6.out).mono ?_; rintro e w7 ⟨rfl, hb7⟩; have q7 : KB w1 w7 := KB.call q6 hb7; clear hb7)
    | fail)
  all_goals (
    rw [HRR.out] at HNM
    obtain ⟨rs, re⟩ := R
    by_cases hz : re = 0
    · subst hz
      go_wp2
      go_ret2
      exact ⟨rfl, below_trans HB1.out q7⟩
    · have z0 : (re != 0) = true := by simpa using hz
      have hem : rs = emp := HNM.out hz
      subst hem
      go_wp2
      go_ret2
      exact ⟨rfl, below_trans HB1.out q7⟩)
end Go.Proofs.YtdfkaijeppdhaaaGreatDoor

/- Contracts: does. -/
namespace Go.Proofs.YtdfkaijeppdhaaaGreatDoor
open Go.RowKit Go.Shelf

/-! ### Plain -/
def firstW (line : ByteArray) : ByteArray := ⟨(Lib.cut line.data.toList [32]).1.toArray⟩
def restW (line : ByteArray) : ByteArray := ⟨(Lib.cut line.data.toList [32]).2.1.toArray⟩
def joinW : List UInt8 := [106, 111, 105, 110, 32]
def isJoin (s : ByteArray) : Bool := Lib.hasPrefix s.data.toList joinW
def otherW (s : ByteArray) : ByteArray := ⟨(Lib.trimPrefix s.data.toList joinW).toArray⟩
def setN (bs : Nat → Book) (i : Nat) (c : Book) : Nat → Book := fun j => if j = i then c else bs j
/-- A post of a word. -/
def postV (s : ByteArray) : Option Nat := match numV s with
  | some n => if betw 0 n 3 then some n.toNat else none
  | none => none
/-- A line of a script. -/
def doesB (askB : Book → ByteArray → ByteArray × Int) (bs : Nat → Book) (line : ByteArray) : (ByteArray × Int) × (Nat → Book) := match postV (firstW line) with
  | none => ((emp, 100), bs)
  | some n => if isJoin (restW line) then (match postV (otherW (restW line)) with
      | none => ((emp, 100), bs)
      | some k => ((itoaB (lenB (joinV (bs n) (bs k)).2 : Int), (joinV (bs n) (bs k)).1), setN bs n (joinV (bs n) (bs k)).2))
    else if Cmd.deedO (parseB (restW line)) then (((doB (bs n) n (restW line)).1, (doB (bs n) n (restW line)).2.1), setN bs n (doB (bs n) n (restW line)).2.2)
    else if Cmd.askO (parseB (restW line)) then (askB (bs n) (restW line), bs)
    else ((emp, 100), bs)
theorem postV_some {s : ByteArray} {n : Nat} (h : postV s = some n) : numV s = some (n : Int) ∧ n < 4 := by
  unfold postV at h
  cases hn : numV s with
  | none => rw [hn] at h; cases h
  | some v =>
    rw [hn] at h
    simp only at h
    split at h
    · rename_i hb
      rw [betw_iff] at hb
      injection h with h
      subst h
      exact ⟨by rw [Int.toNat_of_nonneg hb.1], by omega⟩
    · cases h
theorem cut_len (l sep : List UInt8) : (Lib.cut l sep).1.length ≤ l.length ∧ (Lib.cut l sep).2.1.length ≤ l.length := by
  unfold Lib.cut
  split <;> simp
  omega
theorem first_size (s : ByteArray) : (firstW s).size ≤ s.size := by
  have := (cut_len s.data.toList [32]).1
  rw [ba_size, ba_size]; exact this
theorem rest_size (s : ByteArray) : (restW s).size ≤ s.size := by
  have := (cut_len s.data.toList [32]).2
  rw [ba_size, ba_size]; exact this
theorem other_size (s : ByteArray) : (otherW s).size ≤ s.size := by
  rw [ba_size, ba_size]
  unfold otherW Lib.trimPrefix
  split <;> simp

/-! ### Four posts, and the slice of them -/
def U (ps : Nat → Pst) : List Nat := (ps 0).F ++ ((ps 1).F ++ ((ps 2).F ++ (ps 3).F))
theorem mem_U {ps : Nat → Pst} {k : Nat} : k ∈ U ps ↔ ∃ i, i < 4 ∧ k ∈ (ps i).F := by
  unfold U
  simp only [List.mem_append]
  refine ⟨fun h => ?_, fun ⟨i, hi, h⟩ => ?_⟩
  · rcases h with h | h | h | h
    · exact ⟨0, by omega, h⟩
    · exact ⟨1, by omega, h⟩
    · exact ⟨2, by omega, h⟩
    · exact ⟨3, by omega, h⟩
  · rcases (show i = 0 ∨ i = 1 ∨ i = 2 ∨ i = 3 by omega) with rfl | rfl | rfl | rfl
    · exact .inl h
    · exact .inr (.inl h)
    · exact .inr (.inr (.inl h))
    · exact .inr (.inr (.inr h))
structure PostsAt (w : World) (S : Nat) (ps : Nat → Pst) : Prop where
  posts : Posts w 4 ps
  row : ∀ j, j < 4 → w.cell? ⟨S, j, none⟩ = some (.pointer (some ⟨(ps j).P, 0, none⟩))
  own : S ∉ U ps
  ok : ∀ j, j < 4 → BookOk (ps j).b
  num : ∀ j, j < 4 → (ps j).n = j
theorem PostsAt.lt {w : World} {S : Nat} {ps : Nat → Pst} (h : PostsAt w S ps) : S < w.heap.size := World.block_lt_of_cell? _ _ (h.row 0 (by omega))
theorem PostsAt.below {w w' : World} {S : Nat} {ps : Nat → Pst} (h : PostsAt w S ps) (hb : Below w.heap.size w w') : PostsAt w' S ps :=
  ⟨h.posts.below hb, fun j hj => keep_cell hb (h.row j hj), h.own, h.ok, h.num⟩
/-- What one post leaves, of all. -/
structure Turn (w : World) (S : Nat) (ps : Nat → Pst) (bs : Nat → Book) (w' : World) : Prop where
  ex : ∃ ps', PostsAt w' S ps' ∧ (∀ j, j < 4 → (ps' j).b = bs j) ∧ NewOr w (U ps) (U ps') ∧ Off (U ps) w w'
theorem Turn.refl {w : World} {S : Nat} {ps : Nat → Pst} (h : PostsAt w S ps) {w' : World} (hb : Below w.heap.size w w') : Turn w S ps (fun j => (ps j).b) w' :=
  ⟨ps, h.below hb, fun _ _ => rfl, newOr_refl _ _, Off.of_below hb⟩
theorem PostsAt.turn {w w' : World} {S : Nat} {ps : Nat → Pst} (h : PostsAt w S ps) {i : Nat} (hi : i < 4) {F' : List Nat} {c : Book} (hp : PostAt w' (ps i).P F' i c) (hF : NewOr w (ps i).F F') (ho : Off (ps i).F w w') (hc : BookOk c) :
    PostsAt w' S (setS ps i ⟨(ps i).P, F', i, c⟩) ∧ NewOr w (U ps) (U (setS ps i ⟨(ps i).P, F', i, c⟩)) ∧ Off (U ps) w w' := by
  have hin : ∀ k, k ∈ (ps i).F → k ∈ U ps := fun k hk => mem_U.2 ⟨i, hi, hk⟩
  have hU : NewOr w (U ps) (U (setS ps i ⟨(ps i).P, F', i, c⟩)) := fun k hk => by
    obtain ⟨j, hj, hk⟩ := mem_U.1 hk
    by_cases e : j = i
    · subst e
      rw [setS_same] at hk
      exact (hF k hk).imp (hin k) id
    · rw [setS_other _ _ e] at hk
      exact .inl (mem_U.2 ⟨j, hj, hk⟩)
  have hS := h.lt
  refine ⟨⟨h.posts.turn hi (p := ⟨(ps i).P, F', i, c⟩) hp hF ho, fun j hj => ?_, fun hm => ?_, fun j hj => ?_, fun j hj => ?_⟩, hU, ho.mono fun k hk => .inl (hin k hk)⟩
  · rw [World.cell?_of_block (ho.block S hS fun hm => h.own (hin S hm)), h.row j hj]
    by_cases e : j = i
    · subst e; rw [setS_same]
    · rw [setS_other _ _ e]
  · rcases hU S hm with h1 | h1
    · exact h.own h1
    · omega
  · by_cases e : j = i
    · subst e; rw [setS_same]; exact hc
    · rw [setS_other _ _ e]; exact h.ok j hj
  · by_cases e : j = i
    · subst e; rw [setS_same]
    · rw [setS_other _ _ e]; exact h.num j hj
theorem Turn.of {w w' : World} {S : Nat} {ps : Nat → Pst} (h : PostsAt w S ps) {i : Nat} (hi : i < 4) {c : Book} (hx : ∃ F', PostAt w' (ps i).P F' i c ∧ NewOr w (ps i).F F' ∧ Off (ps i).F w w') (hc : BookOk c) {bs : Nat → Book} (hbs : ∀ j, j < 4 → bs j = (ps j).b) : Turn w S ps (setN bs i c) w' := by
  obtain ⟨F', h1, h2, h3⟩ := hx
  obtain ⟨k1, k2, k3⟩ := h.turn hi h1 h2 h3 hc
  refine ⟨_, k1, fun j hj => ?_, k2, k3⟩
  unfold setN
  by_cases e : j = i
  · subst e; rw [setS_same, if_pos rfl]
  · rw [setS_other _ _ e, if_neg e, hbs j hj]
theorem Turn.more {w w' w'' : World} {S : Nat} {ps : Nat → Pst} {bs : Nat → Book} (h : Turn w S ps bs w') (hb : Below w'.heap.size w' w'') : Turn w S ps bs w'' := by
  obtain ⟨ps', h1, h2, h3, h4⟩ := h.ex
  refine ⟨ps', h1.below hb, h2, h3, ⟨hb.os.trans h4.os, hb.tape.trans h4.tape, hb.output.trans h4.output, Nat.le_trans h4.size hb.size, fun k hk hn => (hb.block k (Nat.lt_of_lt_of_le hk h4.size)).trans (h4.block k hk hn)⟩⟩
theorem Turn.ahead {w0 w w' : World} {S : Nat} {ps : Nat → Pst} {bs : Nat → Book} (hb : Below w0.heap.size w0 w) (h : Turn w S ps bs w') : Turn w0 S ps bs w' := by
  obtain ⟨ps', h1, h2, h3, h4⟩ := h.ex
  refine ⟨ps', h1, h2, fun k hk => (h3 k hk).imp id (fun h => Nat.le_trans hb.size h), ⟨h4.os.trans hb.os, h4.tape.trans hb.tape, h4.output.trans hb.output, Nat.le_trans hb.size h4.size, fun k hk hn => (h4.block k (Nat.lt_of_lt_of_le hk hb.size) hn).trans (hb.block k hk)⟩⟩
def DoesPost (w : World) (S : Nat) (ps : Nat → Pst) (r : (ByteArray × Int) × (Nat → Book)) (e : Ending) (w' : World) : Prop :=
  e = .returned (.tuple #[.string r.1.1, .int .i64 r.1.2]) ∧ Turn w S ps r.2 w'
theorem Turn.books {w w' : World} {S : Nat} {ps : Nat → Pst} {bs bs' : Nat → Book} (h : Turn w S ps bs w') (e : ∀ j, j < 4 → bs j = bs' j) : Turn w S ps bs' w' := by
  obtain ⟨ps', h1, h2, h3, h4⟩ := h.ex
  exact ⟨ps', h1, fun j hj => (h2 j hj).trans (e j hj), h3, h4⟩
end Go.Proofs.YtdfkaijeppdhaaaGreatDoor

/- Texts of this claim, laid together: Pu, Aq, Le. -/
import Derived.Test.YtdfkaijeppdhaaaGreatDoorZEr40
import Derived.Test.YtdfkaijeppdhaaaGreatDoorZEr43
import Derived.Test.YtdfkaijeppdhaaaGreatDoorZEr12
import Derived.Test.YtdfkaijeppdhaaaGreatDoorZEr36
import Derived.Test.YtdfkaijeppdhaaaGreatDoorZEr01
import Derived.Deep.RegionHeld3
import Derived.Test.YtdfkaijeppdhaaaGreatDoorZEr34
import Derived.Deep.DeepCutAuto

/- Contracts: print.Distance, the answer far. -/
namespace Go.Proofs.YtdfkaijeppdhaaaGreatDoor
open Go.RowKit Go.Shelf
/-- The distance of two prints; 0 if one is none. -/
def farN (s t : ByteArray) : Nat := if bothP s t then dist s.data.toList t.data.toList else 0
def farE (s t : ByteArray) : Int := if bothP s t then 0 else 90
theorem printB_size {s : ByteArray} (h : printB s = true) : s.size ≤ 20 := by
  unfold printB at h
  rw [Bool.and_eq_true, decide_eq_true_eq] at h
  exact h.1
theorem farN_le (s t : ByteArray) : farN s t ≤ 40 := by
  unfold farN
  split
  · rename_i h
    unfold bothP at h
    rw [Bool.and_eq_true] at h
    have h1 := printB_size h.1
    have h2 := printB_size h.2
    have h3 := dist_le s.data.toList t.data.toList
    rw [← ba_size, ← ba_size] at h3
    omega
  · omega
def DistPost (s t : ByteArray) (w : World) (e : Ending) (w' : World) : Prop := e = .returned (.tuple #[.int .i64 (farN s t : Nat), .int .i64 (farE s t)]) ∧ Below w.heap.size w w'
set_option maxRecDepth 100000 in
set_option maxHeartbeats 1000000 in
theorem distance_any (s t : ByteArray) (hs : s.size ≤ 1000000) (ht : t.size ≤ 1000000) (w : World) :
    Calls Tryz.prog 151 #[.string s, .string t, .agg #[.int .i64 1, .int .i64 1]] w (DistPost s t w) := by
  have hb1 : Below w.heap.size w (w.alloc (.cells #[.int .i64 1, .int .i64 1] 176)) := (Below.refl _ _).alloc (Nat.le_refl _) _
  have HN := Lib.hid (newPair_any s t hs ht (w.alloc (.cells #[.int .i64 1, .int .i64 1] 176)))
  have HB1 := Lib.hid hb1
  clear hb1
  unfold DistPost farN farE
  cases hp : bothP s t with
  | false =>
    rw [hp] at HN
    simp only [Bool.false_eq_true, if_false] at HN ⊢
    unfold pair0 at HN
    clear hp
    go_enter Tryz.func151, Tryz.ntmps151
    go_wp2_with fail
    refine HN.out.mono ?_
    rintro e w2 ⟨rfl, hb2⟩
    have HB2 := Lib.hid (below_trans HB1.out hb2)
    clear hb2
    go_wp2
    go_ret2
    exact ⟨rfl, HB2.out.alloc HB2.out.size _⟩
  | true =>
    rw [hp] at HN
    simp only [if_true] at HN ⊢
    unfold pairV at HN
    unfold bothP at hp
    rw [Bool.and_eq_true] at hp
    have HS := Lib.hid (And.intro (printB_size hp.1) (printB_size hp.2))
    have HD := Lib.hid (show cst s.data.toList t.data.toList 0 0 = dist s.data.toList t.data.toList from rfl)
    generalize dist s.data.toList t.data.toList = d at *
    clear hp
    go_enter Tryz.func151, Tryz.ntmps151
    go_wp2_with fail
    refine HN.out.mono ?_
    rintro e w2 ⟨rfl, hb2⟩
    have HB2 := Lib.hid (below_trans HB1.out hb2)
    clear hb2
    have HB3 := Lib.hid (HB2.out.alloc HB2.out.size (.cells #[.string s, .string t, .int .i64 1, .int .i64 1] 253))
    go_wp2_with fail
    refine (rests_any s t HS.out.1 HS.out.2 _).mono ?_
    rintro e w3 ⟨O, G, rfl, htab, hb3⟩
    have HB4 := Lib.hid (below_trans HB3.out hb3)
    have q0 := htab.look (i := 0) (Nat.le_refl _) (Nat.zero_le _)
    obtain ⟨v, q1, hv⟩ := htab.entry (i := 0) (k := 0) (e := 0) (Nat.le_refl _) (Nat.zero_le _) (Nat.zero_le _) (by omega) (.inr (Nat.le_refl _))
    unfold okR at hv
    rw [if_pos rfl] at hv
    subst hv
    rw [HD.out] at q1
    simp only [Nat.zero_mul, Nat.add_zero] at q1
    have z1 : (0 : Int) < (s.size : Int) + 1 := by omega
    have z2 : (0 : Int) < (t.size : Int) + 1 := by omega
    clear hb3 htab
    go_wp2
    go_ret2
    exact ⟨rfl, HB4.out⟩
/-- The distance of two texts. -/
def ansFar (ts : List ByteArray) : ByteArray × Int := (itoaB (farN (ts.getD 0 emp) (ts.getD 1 emp) : Nat), farE (ts.getD 0 emp) (ts.getD 1 emp))
set_option maxHeartbeats 1000000 in
theorem far_kind (W : World) (base : Nat) (tv bv : Value) (ts : List ByteArray) (h : W.ownsRow base 9 1 tv ts.length (ts.map Value.string)) (h0 : ts.length = 2) (hsz : ∀ x ∈ ts, x.size ≤ 1000000) (hV : Vars W) : Calls Tryz.prog 118 #[tv, bv] W (AnsPost (ansFar ts) W) := by
  rcases h.2 with ⟨_, h1⟩ | ⟨g, cap, cur, rfl, _⟩
  · omega
  · have c0 := h.cellAt 0 (by omega)
    have c1 := h.cellAt 1 (by omega)
    rw [List.getElem?_map, List.getElem?_eq_getElem (by omega)] at c0 c1
    have hx : ts.getD 0 emp = ts[0] := by rw [List.getD_eq_getElem?_getD, List.getElem?_eq_getElem (by omega)]; rfl
    have hy : ts.getD 1 emp = ts[1] := by rw [List.getD_eq_getElem?_getD, List.getElem?_eq_getElem (by omega)]; rfl
    have hsx := hsz ts[0] (List.getElem_mem _)
    have hsy := hsz ts[1] (List.getElem_mem _)
    unfold ansFar
    rw [hx, hy]
    generalize ts[0] = x at *
    generalize ts[1] = y at *
    rw [h0]
    simp only [Option.map_some] at c0 c1
    clear h hx hy hsz h0
    have HD := Lib.hid (fun X => distance_any x y hsx hsy X)
    unfold DistPost at HD
    have HF := Lib.hid (farN_le x y)
    have HV := Lib.hid hV
    generalize farN x y = d at *
    generalize farE x y = er at *
    clear hV
    have j0 : ∀ X, KB W X → X.cell? ⟨g, 0, none⟩ = some (.string x) := fun X hX => keep_cell hX c0
    have j1 : ∀ X, KB W X → X.cell? ⟨g, 1, none⟩ = some (.string y) := fun X hX => keep_cell hX c1
    go_enter Tryz.func118, Tryz.ntmps118
    go_wp2_with fail
    go_region_held3 (fun X => KB W X) (first | exact KB.refl _ | exact KB.drew (KB.refl _) | assumption | exact KB.drew (by assumption) | fail) (first
      | (go_at_call 151; refine (HD.out _).mono ?_; rintro e w2 ⟨rfl, hb2⟩; have q2 : KB W w2 := KB.call (KB.drew (KB.refl _)) hb2; have HB2 := Lib.hid q2; have HI := Lib.hid (itoa_any (d : Int) (by omega) (by have := HF.out; omega) w2 (HV.out.below HB2.out)); clear hb2)
      | fail)
    all_goals (
      go_wp2_with (first
        | (go_at_call 48; refine HI.out.mono ?_; rintro e w3 ⟨rfl, hb3⟩)
        | fail)
      go_ret2
      exact ⟨rfl, below_trans HB2.out hb3⟩)
theorem says_size : ∀ (l : List Ent) (kn : Kn), (∀ n t, kn.txt n = some t → t.size ≤ 60) → (∀ e ∈ l, (eLine e).size ≤ 60) → ∀ n t, (saysFrom kn l).txt n = some t → t.size ≤ 60
  | [], kn, h, _ => h
  | e :: l, kn, h, hl => by
    have h1 : ∀ n t, (lineSay kn (eLine e)).txt n = some t → t.size ≤ 60 := by
      intro n t ht
      unfold lineSay at ht
      cases hp : parseB (eLine e) with
      | none => rw [hp] at ht; exact h n t ht
      | some c =>
        rw [hp] at ht
        simp only at ht
        split at ht
        · cases c with
          | put x u =>
            simp only [sayB, upd] at ht
            split at ht
            · cases ht
              have := (Cmd.put_size hp)
              have := hl e (by simp)
              omega
            · exact h n t ht
          | drop x =>
            simp only [sayB] at ht
            split at ht
            · exact h n t ht
            · simp only [upd] at ht
              split at ht
              · cases ht
              · exact h n t ht
          | add x m => exact h n t ht
          | stock x => exact h n t ht
          | share m x => exact h n t ht
          | asked k x m => exact h n t ht
        · exact h n t ht
    exact says_size l _ h1 (fun e he => hl e (by simp [he]))
theorem says_text {b : Book} (hb : BookOk b) (n t : ByteArray) (h : (saysB (allB b)).txt n = some t) : t.size ≤ 60 :=
  says_size (allB b) kn0 (fun _ _ h => by cases h) (fun _ he => ((isLineB_iff _).1 (by rw [← lineB_is]; exact (book_bounds hb he).2.2.2)).1) n t h
theorem allS_mem {α β : Type} {f : α → Option β} : ∀ {l : List α} {ys : List β}, allS f l = some ys → ∀ y ∈ ys, ∃ x, f x = some y
  | [], _, h, y, hy => by simp only [allS, Option.some.injEq] at h; subst h; simp at hy
  | a :: l, ys, h, y, hy => by
    unfold allS at h
    cases h1 : f a with
    | none => simp [h1] at h
    | some z =>
      cases h2 : allS f l with
      | none => simp [h1, h2] at h
      | some zs =>
        simp only [h1, h2, Option.some.injEq] at h
        subst h
        rcases List.mem_cons.1 hy with rfl | hy
        · exact ⟨a, h1⟩
        · exact allS_mem h2 y hy
theorem ask_far_any (P n : Nat) (F : List Nat) (b : Book) (line : ByteArray) (hs : line.size ≤ 1000000) (w : World) (h : PostAt w P F n b) (hok : BookOk b) (hV : Vars w) (names : List ByteArray) (ns : List Int) (hc : parseB line = some (.asked 2 names ns)) :
    Calls Tryz.prog 36 #[.pointer (some ⟨P, 0, none⟩), .string line] w (AnsPost (askedV ansFar names (saysB (allB b))) w) := by
  have hsh := (Cmd.shape hc).2 _ _ _ rfl
  unfold Shp at hsh
  exact askq_asked P n F b line hs w h hok hV 2 names ns hc (by omega) (by omega) ansFar (enters_of Tryz.func118 (by kernel_rfl) rfl) fun W base tv bv ts hb _ hrow _ hts => by
    have hlen := allS_len _ _ _ hts
    refine far_kind W base tv bv ts hrow (by omega) (fun x hx => ?_) (hV.below hb)
    obtain ⟨n, hn⟩ := allS_mem hts x hx
    have := says_text hok n x hn
    omega
end Go.Proofs.YtdfkaijeppdhaaaGreatDoor

/- Ask of any line (the program). -/
namespace Go.Proofs.YtdfkaijeppdhaaaGreatDoor
open Go.RowKit Go.Shelf
def ansK (k : Nat) (ns : List Int) : List ByteArray → ByteArray × Int :=
  if k = 0 then ansText else if k = 1 then ansBeat else if k = 2 then ansFar else ansDrift ns
/-- The answer of a question, of what a book says. -/
def askV (kn : Kn) : Cmd → ByteArray × Int
  | .stock n => stockA n kn
  | .share m l => shareA l m kn
  | .asked k l ns => askedV (ansK k ns) l kn
  | _ => (emp, 100)
/-- The answer of a line. -/
def askB (b : Book) (line : ByteArray) : ByteArray × Int := match parseB line with
  | some c => askV (saysB (allB b)) c
  | none => (emp, 100)
theorem ask_any (P n : Nat) (F : List Nat) (b : Book) (line : ByteArray) (hs : line.size ≤ 1000000) (w : World) (h : PostAt w P F n b) (hok : BookOk b) (hV : Vars w) :
    Calls Tryz.prog 36 #[.pointer (some ⟨P, 0, none⟩), .string line] w (AnsPost (askB b line) w) := by
  cases hc : parseB line with
  | none =>
    have e : askB b line = (emp, 100) := by unfold askB; rw [hc] <;> rfl
    rw [e]
    exact ask_no P n F b line hs w h hV (by rw [hc]; rfl)
  | some c =>
    have hsh := Cmd.shape hc
    cases c with
    | put x t =>
      have e : askB b line = (emp, 100) := by unfold askB; rw [hc] <;> rfl
      rw [e]
      exact ask_no P n F b line hs w h hV (by rw [hc]; rfl)
    | drop x =>
      have e : askB b line = (emp, 100) := by unfold askB; rw [hc] <;> rfl
      rw [e]
      exact ask_no P n F b line hs w h hV (by rw [hc]; rfl)
    | add x m =>
      have e : askB b line = (emp, 100) := by unfold askB; rw [hc] <;> rfl
      rw [e]
      exact ask_no P n F b line hs w h hV (by rw [hc]; rfl)
    | stock x =>
      have e : askB b line = stockA x (saysB (allB b)) := by unfold askB; rw [hc] <;> rfl
      rw [e]
      exact askq_stock P n F b line hs w h hok hV x hc
    | share m l =>
      have e : askB b line = shareA l m (saysB (allB b)) := by unfold askB; rw [hc] <;> rfl
      rw [e]
      have h1 := hsh.1 m l rfl
      exact askq_share P n F b line hs w h hok hV m l hc (by omega) (by omega)
    | asked k l ns =>
      have e : askB b line = askedV (ansK k ns) l (saysB (allB b)) := by unfold askB; rw [hc] <;> rfl
      rw [e]
      have h1 := hsh.2 k l ns rfl
      unfold Shp at h1
      rcases h1 with ⟨rfl, h2, h3⟩ | ⟨rfl, h2, h3⟩ | ⟨rfl, h2, h3⟩ | ⟨rfl, h2, h3⟩
      · exact ask_text_any P n F b line hs w h hok hV l ns hc (by omega) (by omega)
      · exact ask_beat_any P n F b line hs w h hok hV l ns hc
      · exact ask_far_any P n F b line hs w h hok hV l ns hc
      · exact ask_drift_any P n F b line hs w h hok hV l ns hc
/-- An answer with an error is empty. -/
theorem askB_norm (b : Book) (line : ByteArray) : (askB b line).2 ≠ 0 → (askB b line).1 = emp := by
  unfold askB
  cases parseB line with
  | none => exact fun _ => rfl
  | some c =>
    cases c with
    | stock x => exact stockA_norm x _
    | share m l => exact shareA_norm l m _
    | asked k l ns => exact asked_norm _ l _
    | _ => exact fun _ => rfl
end Go.Proofs.YtdfkaijeppdhaaaGreatDoor

/- The law PostErrors. -/
namespace Go.Proofs.YtdfkaijeppdhaaaGreatDoor
open Go.RowKit Go.Shelf
theorem ask_l {base : Nat} {w : World} {l : List PB} (h : PsL base w l) {i : Nat} (hi : i < l.length) (line : ByteArray) (hs : line.size ≤ 1000000) :
    Calls Tryz.prog 36 #[.pointer (some ⟨(atL l i).1, 0, none⟩), .string line] w (ReadL base l (.tuple #[.string (askB (atL l i).2.2 line).1, .int .i64 (askB (atL l i).2.2 line).2]) w) := by
  obtain ⟨F, h1, _, _⟩ := PsAt.post h hi
  refine (ask_any _ _ F _ line hs w h1 (PsAt.ok h hi) h.vars).mono ?_
  rintro e w' ⟨rfl, hb⟩
  exact ⟨rfl, PsAt.kept h hb⟩
theorem PsL.okE {base : Nat} {w : World} {l : List PB} (h : PsL base w l) {i : Nat} (hi : i < l.length) : BookOk (atL l i).2.2 := PsAt.ok h hi

theorem do_not {b : Book} {n : Nat} {line : ByteArray} (h : (doB b n line).2.1 ≠ 0) : (doB b n line).1 = emp ∧ (doB b n line).2.2 = b := by
  unfold doB at h ⊢
  split at h
  · exact ⟨rfl, rfl⟩
  · split at h
    · rename_i hd
      rw [if_pos hd]; exact ⟨rfl, rfl⟩
    · rename_i hd
      rw [if_neg hd]
      split at h
      · rename_i hl
        rw [if_pos hl]; exact ⟨rfl, rfl⟩
      · rename_i hl
        rw [if_neg hl]
        split at h
        · exact absurd rfl h
        · rename_i h0
          rw [if_neg h0]; exact ⟨rfl, rfl⟩
/-- A deed that came off. -/
theorem do_yes {b : Book} {n : Nat} {line : ByteArray} (h : (doB b n line).2.1 = 0) : (∃ c, parseB line = some c ∧ c.deed = true) ∧ (doB b n line).2.2 = addAt b n (newE b n line) := by
  unfold doB at h ⊢
  split at h
  · simp at h
  · rename_i c hc
    split at h
    · simp at h
    · rename_i hd
      refine ⟨⟨c, hc, by simpa using hd⟩, ?_⟩
      rw [if_neg hd]
      split at h
      · simp at h
      · rename_i hl
        rw [if_neg hl]
        split at h
        · rename_i h0
          rw [if_pos h0]
        · rename_i h0
          exact absurd h h0
theorem ask_deed {b : Book} {line : ByteArray} {c : Cmd} (h : parseB line = some c) (hd : c.deed = true) : askB b line = (emp, 100) := by
  unfold askB
  rw [h]
  cases c with
  | put x t => rfl
  | drop x => rfl
  | add x m => rfl
  | stock x => cases hd
  | share m l => cases hd
  | asked k l ns => cases hd
theorem ask_told {b : Book} {n t : ByteArray} (hn : isNameB n = true) (h : (saysB (allB b)).txt n = some t) : askB b (askText n) = (t, 0) := by
  unfold askB
  rw [text_parse hn]
  simp [askV, ansK, askedV, allS, h, ansText]
theorem byte_is (s : ByteArray) {j : Nat} (h : j < s.size) : s.data.toList[j]? = some s[j] := by
  rw [List.getElem?_eq_getElem (by rw [← ba_size]; exact h)]
  rfl
theorem askText_size (n : ByteArray) : (askText n).size = 5 + n.size := by
  rw [ba_size (askText n), ba_size n]
  simp [askText, bsB]
  omega
/-- What holds between two rounds. -/
structure ErI (base : Nat) (w : World) (p : Nat) (B : Book) (wr : World) : Prop where
  ps : PsL base wr [(p, 1, B)]
  kin : Kin base w wr
/-- The name in a put line: as it is read. -/
def NameI (F r0 : ByteArray) (nm i : Value) : Prop := ∃ k : Nat, i = .int .i64 k ∧ ((k ≤ r0.size ∧ nm = .string F) ∨ (k = r0.size + 1 ∧ nm = .string r0))
set_option maxRecDepth 100000 in
set_option maxHeartbeats 8000000 in
theorem PostErrors_walk (v : Value) (lines : List ByteArray) (w : World) (hL : StrsIn w v lines) (hV : Vars w) : Calls Tryz.prog 6 #[v] w (BoolPost true w) := by
  have HVR := Lib.hid hV
  have HLG := Lib.hid (long_any v lines 24 w hL)
  have HIN := Lib.hid hL
  obtain ⟨la, lc, rfl, hc⟩ := hL.at_
  have HLC := Lib.hid hc
  cases hlong : longB lines 24 with
  | true =>
    rw [hlong] at HLG
    clear hlong hc hL hV
    go_enter Tryz.func6, Tryz.ntmps6
    go_wp2_with fail
    refine HLG.out.mono ?_
    rintro e w1 ⟨rfl, hb1⟩
    have HB1 := Lib.hid hb1
    clear hb1
    go_wp2_with fail
    refine (sane_any w1 (HVR.out.below HB1.out)).mono ?_
    rintro e w2 ⟨rfl, hb2⟩
    have HB2 := Lib.hid (below_trans HB1.out hb2)
    clear hb2
    go_wp2
    go_ret
    exact ⟨rfl, HB2.out⟩
  | false =>
    rw [hlong] at HLG
    obtain ⟨hsz, hlen⟩ := longB_no hlong
    have HSZ := Lib.hid hsz
    obtain ⟨ln, hln⟩ : ∃ ln, ln = lines.length := ⟨_, rfl⟩
    have HN := Lib.hid hln
    rw [← hln] at hlen HLG ⊢
    clear hlong hc hL hV hsz hln
    go_enter Tryz.func6, Tryz.ntmps6
    go_wp2_with fail
    refine HLG.out.mono ?_
    rintro e w1 ⟨rfl, hb1⟩
    have HK1 := Lib.hid (Kin.of_below (base := w.heap.size) hb1)
    have HP1 : Hid (PsL w.heap.size w1 []) := Lib.hid (PsAt.low (PsL.nil (HVR.out.below hb1)) hb1.size)
    clear hb1
    go_wp2_with fail
    refine (new_l HP1.out 1 (by omega)).mono ?_
    rintro e w2 ⟨p, rfl, hA, hK⟩
    have HI0 : Hid (ErI w.heap.size w p empB w2) := Lib.hid ⟨hA, HK1.out.trans hK⟩
    clear hA hK
    go_wp2
    go_loopw [5] (fun i wr => ∃ (k : Nat) (B : Book), k ≤ ln ∧ i = .int .i64 k ∧ Hid (ErI w.heap.size w p B wr)) (fun i _ => ln - (intOf i).toNat)
    case atStart => exact ⟨0, empB, Nat.zero_le _, rfl, HI0⟩
    case round =>
      obtain ⟨k, B, hk, rfl, HI⟩ := hrel
      by_cases hlt : k < ln
      · obtain ⟨b, off, rfl, hcc⟩ := HLC.out (by rw [← HN.out]; omega)
        have HC0 := Lib.hid (hcc k (by rw [← HN.out]; exact hlt))
        have hxs : (lines.getD k emp).size ≤ 200 := by
          rw [List.getD_eq_getElem?_getD, List.getElem?_eq_getElem (by rw [← HN.out]; exact hlt)]
          exact HSZ.out _ (List.getElem_mem (by rw [← HN.out]; exact hlt))
        generalize lines.getD k emp = x at *
        have HOK : Hid (BookOk B) := Lib.hid (HI.out.ps.okE (i := 0) (by show 0 < 1; omega))
        have HKN := Lib.hid HI.out.kin
        clear hcc
        go_wp2_with fail
        refine (copy_l HI.out.ps (i := 0) (by show 0 < 1; omega)).mono ?_
        rintro e w3 ⟨m, rfl, hA, hK⟩
        have HA3 : Hid (PsL w.heap.size w3 [(p, 1, B), (m, 1, B)]) := Lib.hid hA
        have HK3 := Lib.hid (HKN.out.trans hK)
        have c3 := keep_cell (HK3.out.below (Nat.le_refl _)) HC0.out
        clear hA hK
        obtain ⟨ra, hra⟩ : ∃ ra, ra = askB B x := ⟨_, rfl⟩
        have HASK := Lib.hid (ask_l HA3.out (i := 0) (by show 0 < 2; omega) x (by omega))
        rw [show askB (atL [(p, 1, B), (m, 1, B)] 0).2.2 x = ra from hra.symm] at HASK
        have HRA := Lib.hid hra
        clear hra
        obtain ⟨a1, e1⟩ := ra
        go_wp2_with fail
        refine HASK.out.mono ?_
        rintro e w4 ⟨rfl, hA, hK⟩
        have HA4 := Lib.hid hA
        have HK4 := Lib.hid (HK3.out.trans hK)
        have c4 := keep_cell (HK4.out.below (Nat.le_refl _)) HC0.out
        clear hA hK c3 HASK
        have HS4 := Lib.hid (same_l HA4.out (i := 0) (j := 1) (by show 0 < 2; omega) (by show 1 < 2; omega) (decide_eq_true rfl))
        go_wp2_with fail
        refine HS4.out.mono ?_
        rintro e w5 ⟨rfl, hA, hK⟩
        have HA5 := Lib.hid hA
        have HK5 := Lib.hid (HK4.out.trans hK)
        have c5 := keep_cell (HK5.out.below (Nat.le_refl _)) HC0.out
        clear hA hK c4 HS4
        have HD5 := Lib.hid (do_l HA5.out (i := 0) (by show 0 < 2; omega) x (by omega))
        obtain ⟨r, hr⟩ : ∃ r, r = doB B 1 x := ⟨_, rfl⟩
        rw [show doB (atL [(p, 1, B), (m, 1, B)] 0).2.2 (atL [(p, 1, B), (m, 1, B)] 0).2.1 x = r from hr.symm] at HD5
        have HR := Lib.hid hr
        clear hr
        obtain ⟨s1, q1, B1⟩ := r
        have HNM : Hid (e1 ≠ 0 → a1 = emp) := Lib.hid (fun h => by
          have := askB_norm B x
          rw [← HRA.out] at this
          exact this h)
        by_cases hz : q1 = 0
        · subst hz
          have hyes := do_yes (b := B) (n := 1) (line := x) (by rw [← HR.out])
          rw [← HR.out] at hyes
          obtain ⟨⟨c, hpc, hcd⟩, hB1⟩ := hyes
          simp only at hB1
          have hae := ask_deed (b := B) hpc hcd
          rw [← HRA.out] at hae
          simp only [Prod.mk.injEq] at hae
          obtain ⟨rfl, rfl⟩ := hae
          have hall : allB B1 = allB B ++ [newE B 1 x] := by rw [hB1]; exact allB_add HOK.out (by omega) x
          have hcnt : cntB B1 = cntB B + 1 := by rw [hB1]; exact cntB_add HOK.out (by omega) x
          have hlen1 : lenB B1 = lenB B + 1 := by rw [hB1]; exact addAt_len B (by omega) _
          have HOK1 : Hid (BookOk B1) := Lib.hid (by
            have h9 := doB_ok HOK.out (show 1 < 4 by omega) x
            rw [← HR.out] at h9; exact h9)
          have HTN : Hid (textB B1 ≠ textB B) := Lib.hid (text_ne HOK1.out HOK.out (by omega))
          obtain ⟨n1, hn1⟩ : ∃ n1, n1 = (allB B).length := ⟨_, rfl⟩
          have HL1 : Hid ((allB B1).length = n1 + 1) := Lib.hid (by rw [hall, hn1]; simp)
          have HL0 : Hid ((allB B).length = n1) := Lib.hid hn1.symm
          obtain ⟨c0, hc0⟩ : ∃ c0, c0 = cntB B := ⟨_, rfl⟩
          have HCT : Hid (cntB B = c0 ∧ cntB B1 = c0 + 1) := Lib.hid ⟨hc0.symm, by rw [hcnt, hc0]⟩
          have hc0b := (cntB_le HOK.out)
          rw [← hc0] at hc0b
          have hn1b : n1 ≤ 240 := by rw [hn1, allB_len]; exact lenB_le HOK.out
          obtain ⟨hsz4, hshape⟩ := deed_shape hpc hcd
          have HSH := Lib.hid hshape
          have HPC := Lib.hid hpc
          have HB1E := Lib.hid hB1
          have w1 : IntKind.i64.wrap ((n1 : Int) + 1) = (n1 : Int) + 1 := IntWalk.i64_in _ (by omega)
          have w2 : IntKind.i64.wrap (c0 + 1) = c0 + 1 := IntWalk.i64_in _ (by omega)
          have z4 : (4 : Int) ≤ (x.size : Int) := by omega
          clear hB1 hall hcnt hlen1 hn1 hc0 hshape hpc hcd HNM
          unfold emp
          go_wp2_with fail
          refine HD5.out.mono ?_
          rintro e w6 ⟨rfl, hA, hK⟩
          have HA6 : Hid (PsL w.heap.size w6 [(p, 1, B1), (m, 1, B)]) := Lib.hid hA
          have HK6 := Lib.hid (HK5.out.trans hK)
          have c6 := keep_cell (HK6.out.below (Nat.le_refl _)) HC0.out
          clear hA hK c5 HD5
          have HS6 := Lib.hid (same_l HA6.out (i := 0) (j := 1) (by show 0 < 2; omega) (by show 1 < 2; omega) (decide_eq_false HTN.out))
          go_wp2_with fail
          refine HS6.out.mono ?_
          rintro e w7 ⟨rfl, hA, hK⟩
          have HA7 := Lib.hid hA
          have HK7 := Lib.hid (HK6.out.trans hK)
          clear hA hK HS6
          have HBK := Lib.hid (book_l HA7.out (i := 0) (by show 0 < 2; omega))
          rw [show allB (atL [(p, 1, B1), (m, 1, B)] 0).2.2 = allB B1 from rfl] at HBK
          unfold ListL at HBK
          rw [HL1.out] at HBK
          go_wp2_with fail
          refine HBK.out.mono ?_
          rintro e w8 ⟨ba, bc, rfl, _, hA, hK⟩
          have HA8 := Lib.hid hA
          have HK8 := Lib.hid (HK7.out.trans hK)
          clear hA hK HBK
          have HBK := Lib.hid (book_l HA8.out (i := 1) (by show 1 < 2; omega))
          rw [show allB (atL [(p, 1, B1), (m, 1, B)] 1).2.2 = allB B from rfl] at HBK
          unfold ListL at HBK
          rw [HL0.out] at HBK
          go_wp2_with fail
          refine HBK.out.mono ?_
          rintro e w9 ⟨da, dc, rfl, _, hA, hK⟩
          have HA9 := Lib.hid hA
          have HK9 := Lib.hid (HK8.out.trans hK)
          clear hA hK HBK
          have HC9 := Lib.hid (count_l HA9.out (i := 0) (by show 0 < 2; omega))
          rw [show cntB (atL [(p, 1, B1), (m, 1, B)] 0).2.2 = c0 + 1 from HCT.out.2] at HC9
          go_wp2_with fail
          refine HC9.out.mono ?_
          rintro e w10 ⟨rfl, hA, hK⟩
          have HA10 := Lib.hid hA
          have HK10 := Lib.hid (HK9.out.trans hK)
          clear hA hK HC9
          have HC10 := Lib.hid (count_l HA10.out (i := 1) (by show 1 < 2; omega))
          rw [show cntB (atL [(p, 1, B1), (m, 1, B)] 1).2.2 = c0 from HCT.out.1] at HC10
          go_wp2_with fail
          refine HC10.out.mono ?_
          rintro e w11 ⟨rfl, hA, hK⟩
          have HA11 := Lib.hid hA
          have HK11 := Lib.hid (HK10.out.trans hK)
          have c11 := keep_cell (HK11.out.below (Nat.le_refl _)) HC0.out
          clear hA hK HC10 c6
          have HI2 : Hid (∀ wz, PsL w.heap.size wz [(p, 1, B1), (m, 1, B)] → Kin w.heap.size w wz → ErI w.heap.size w p B1 wz) := Lib.hid (fun wz h1 h2 => ⟨PsL.first (r := [(m, 1, B)]) h1, h2⟩)
          rcases HSH.out with ⟨r0, t, rfl, hnm, hx⟩ | hne
          · have hbt : ((x.extract 0 4).toList == [112, 117, 116, 32]) = true := by
              rw [ba_list, ba_take, bsB_list, beq_iff_eq, hx]
              rfl
            have htold := put_told HOK.out (show 1 < 4 by omega) HPC.out (by rw [← HR.out])
            rw [← HR.out] at htold
            obtain ⟨hs1, htx⟩ := htold
            simp only at hs1 htx
            subst hs1
            obtain ⟨F, hF⟩ : ∃ F, F = x.extract 4 x.size := ⟨_, rfl⟩
            have hFd : F.data.toList = r0.data.toList ++ 32 :: s1.data.toList := by
              rw [hF, ba_drop, bsB_list, hx]
              rfl
            have hFz : F.size = r0.size + 1 + s1.size := by rw [ba_size F, hFd, ba_size r0, ba_size s1]; simp; omega
            have HFT : Hid (F.extract 0 r0.size = r0) := Lib.hid (by
              rw [ba_take, hFd, ba_size r0, List.take_left' rfl, bsB_of])
            have HFB : Hid (∀ j (hj : j < F.size), j < r0.size → F[j].toNat ≠ 32) := Lib.hid (fun j hj hj2 => by
              have h9 : F[j] = r0[j] := by
                have e1 := byte_is F hj
                have e2 := byte_is r0 hj2
                rw [hFd, List.getElem?_append_left (by rw [← ba_size]; exact hj2), e2] at e1
                exact (Option.some.inj e1).symm
              have h10 := ((isNameB_iff r0).1 hnm).2.2 r0[j] (by
                have e2 := byte_is r0 hj2
                exact List.mem_of_getElem? e2)
              rw [h9]; omega)
            have HFS : Hid (∀ (hj : r0.size < F.size), F[r0.size].toNat = 32) := Lib.hid (fun hj => by
              have e1 := byte_is F hj
              rw [hFd, List.getElem?_append_right (by rw [← ba_size]; exact Nat.le_refl _), show r0.size - r0.data.toList.length = 0 by rw [← ba_size]; omega] at e1
              have := Option.some.inj e1
              rw [← this]; rfl)
            have HAT : Hid (askB B1 (askText r0) = (s1, 0)) := Lib.hid (ask_told hnm htx)
            have hrz := (isNameB_iff r0).1 hnm
            have hr8 : r0.size ≤ 8 := hrz.2.1
            have hsz2 : s1.size ≤ 1000000 := by
              have : F.size ≤ x.size := by rw [hF]; simp
              omega
            have HF := Lib.hid hF
            clear hx hFd htx hnm hrz hF
            go_wp2
            rw [← HF.out]
            go_loop [11, 12] (fun nm i => NameI F r0 nm i) (fun _ i => r0.size + 2 - (intOf i).toNat)
            case atStart => exact ⟨0, rfl, .inl ⟨Nat.zero_le _, rfl⟩⟩
            case round =>
              obtain ⟨q, rfl, ⟨hq, rfl⟩ | ⟨hq, rfl⟩⟩ := hrel
              · have hq3 : q < F.size := by omega
                have hqb := HFB.out q hq3
                rcases Nat.lt_or_eq_of_le hq with hq1 | hq1
                · have h32 : ((F[q].toNat : Int) == 32) = false := by rw [beq_eq_false_iff_ne]; have := hqb hq1; omega
                  clear hqb
                  go_wp2
                  go_round
                  case rel => exact ⟨q + 1, by go_num, .inl ⟨hq1, rfl⟩⟩
                  case measure => simp [intOf]; omega
                · subst hq1
                  have h9 := HFS.out hq3
                  have h32 : ((F[r0.size].toNat : Int) == 32) = true := by rw [beq_iff_eq]; omega
                  clear hqb h9
                  go_wp2
                  rw [HFT.out]
                  go_round
                  case rel => exact ⟨r0.size + 1, by go_num, .inr ⟨rfl, rfl⟩⟩
                  case measure => first | (simp [intOf]; done) | (simp [intOf]; omega)
              · have hq9 : ¬ q < r0.size := by omega
                have hs5 : ¬ 9223372036854775807 < 5 + r0.size := by omega
                have HTX : Hid ((⟨#[116, 101, 120, 116, 32]⟩ : ByteArray) ++ r0 = askText r0) := Lib.hid (ba_ext (by simp [askText, bsB, ByteArray.data_append]))
                have HAS := Lib.hid (ask_l HA11.out (i := 0) (by show 0 < 2; omega) (askText r0) (by rw [askText_size]; omega))
                rw [show askB (atL [(p, 1, B1), (m, 1, B)] 0).2.2 (askText r0) = (s1, 0) from HAT.out] at HAS
                go_wp2_with fail
                rw [HTX.out]
                refine HAS.out.mono ?_
                rintro e w12 ⟨rfl, hA, hK⟩
                have HI3 : Hid (ErI w.heap.size w p B1 w12) := Lib.hid (HI2.out _ hA (HK11.out.trans hK))
                clear hA hK
                go_wp2
                go_roundw
                case rel => exact ⟨k + 1, B1, by omega, by go_num, HI3⟩
                case measure => simp [intOf]; omega
          · have hbf : ((x.extract 0 4).toList == [112, 117, 116, 32]) = false := by
              rw [ba_list, ba_take, bsB_list, beq_eq_false_iff_ne]
              exact hne
            clear hne
            go_wp2
            go_roundw
            case rel => exact ⟨k + 1, B1, by omega, by go_num, Lib.hid (HI2.out _ HA11.out HK11.out)⟩
            case measure => simp [intOf]; omega
        · have hno := do_not (b := B) (n := 1) (line := x) (by rw [← HR.out]; exact hz)
          rw [← HR.out] at hno
          obtain ⟨h1, h2⟩ := hno
          simp only at h1 h2
          subst h1
          subst h2
          have hz1 : (q1 != 0) = true := by simpa using hz
          clear hz
          unfold emp at HD5 HNM
          by_cases hy : e1 = 0
          · subst hy
            go_wp2_with fail
            refine HD5.out.mono ?_
            rintro e w6 ⟨rfl, hA, hK⟩
            have HA6 : Hid (PsL w.heap.size w6 [(p, 1, B1), (m, 1, B1)]) := Lib.hid hA
            have HK6 := Lib.hid (HK5.out.trans hK)
            clear hA hK c5 HD5
            have HS6 := Lib.hid (same_l HA6.out (i := 0) (j := 1) (by show 0 < 2; omega) (by show 1 < 2; omega) (decide_eq_true rfl))
            go_wp2_with fail
            refine HS6.out.mono ?_
            rintro e w7 ⟨rfl, hA, hK⟩
            have HI2 : Hid (ErI w.heap.size w p B1 w7) := Lib.hid ⟨PsL.first (r := [(m, 1, B1)]) hA, HK6.out.trans hK⟩
            clear hA hK
            go_wp2
            go_roundw
            case rel => exact ⟨k + 1, B1, by omega, by go_num, HI2⟩
            case measure => simp [intOf]; omega
          · have ha := HNM.out hy
            subst ha
            have hy1 : (e1 != 0) = true := by simpa using hy
            clear hy
            go_wp2_with fail
            refine HD5.out.mono ?_
            rintro e w6 ⟨rfl, hA, hK⟩
            have HA6 : Hid (PsL w.heap.size w6 [(p, 1, B1), (m, 1, B1)]) := Lib.hid hA
            have HK6 := Lib.hid (HK5.out.trans hK)
            clear hA hK c5 HD5
            have HS6 := Lib.hid (same_l HA6.out (i := 0) (j := 1) (by show 0 < 2; omega) (by show 1 < 2; omega) (decide_eq_true rfl))
            go_wp2_with fail
            refine HS6.out.mono ?_
            rintro e w7 ⟨rfl, hA, hK⟩
            have HI2 : Hid (ErI w.heap.size w p B1 w7) := Lib.hid ⟨PsL.first (r := [(m, 1, B1)]) hA, HK6.out.trans hK⟩
            clear hA hK
            go_wp2
            go_roundw
            case rel => exact ⟨k + 1, B1, by omega, by go_num, HI2⟩
            case measure => simp [intOf]; omega
      · have e : k = ln := by omega
        go_wp2_with fail
        refine (sane_l HI.out.ps).mono ?_
        rintro e w4 ⟨rfl, hA, hK⟩
        have HB4 := Lib.hid ((HI.out.kin.trans hK).below (Nat.le_refl _))
        clear hA hK
        go_wp2
        go_ret
        exact ⟨rfl, HB4.out⟩
end Go.Proofs.YtdfkaijeppdhaaaGreatDoor

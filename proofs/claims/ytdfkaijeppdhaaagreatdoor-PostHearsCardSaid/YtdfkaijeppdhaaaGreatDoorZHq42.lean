/- Texts of this claim, laid together: Pu, Aq, Wn, Lc. -/
import Derived.Test.YtdfkaijeppdhaaaGreatDoorZHq39
import Derived.Test.YtdfkaijeppdhaaaGreatDoorZHq41
import Derived.Test.YtdfkaijeppdhaaaGreatDoorZHq13
import Derived.Test.YtdfkaijeppdhaaaGreatDoorZHq35
import Derived.Deep.RegionHeld3
import Derived.Test.YtdfkaijeppdhaaaGreatDoorZHq14

/- Contracts: print.Distance, the answer far. -/
namespace Go.Proofs.YtdfkaijeppdhaaaGreatDoor
open Go.RowKit Go.Shelf
/-- The distance of two prints; 0 if one is none. -/
def farN (s t : ByteArray) : Nat := if bothP s t then dist s.data.toList t.data.toList else 0
def farE (s t : ByteArray) : Int := if bothP s t then 0 else 90
theorem printB_size {s : ByteArray} (h : printB s = true) : s.size ≤ 20 := by
  unfold printB at h
  rw [Bool.and_eq_true, decide_eq_true_eq] at h
  exact h.1
theorem farN_le (s t : ByteArray) : farN s t ≤ 40 := by
  unfold farN
  split
  · rename_i h
    unfold bothP at h
    rw [Bool.and_eq_true] at h
    have h1 := printB_size h.1
    have h2 := printB_size h.2
    have h3 := dist_le s.data.toList t.data.toList
    rw [← ba_size, ← ba_size] at h3
    omega
  · omega
def DistPost (s t : ByteArray) (w : World) (e : Ending) (w' : World) : Prop := e = .returned (.tuple #[.int .i64 (farN s t : Nat), .int .i64 (farE s t)]) ∧ Below w.heap.size w w'
set_option maxRecDepth 100000 in
set_option maxHeartbeats 1000000 in
theorem distance_any (s t : ByteArray) (hs : s.size ≤ 1000000) (ht : t.size ≤ 1000000) (w : World) :
    Calls Tryz.prog 151 #[.string s, .string t, .agg #[.int .i64 1, .int .i64 1]] w (DistPost s t w) := by
  have hb1 : Below w.heap.size w (w.alloc (.cells #[.int .i64 1, .int .i64 1] 176)) := (Below.refl _ _).alloc (Nat.le_refl _) _
  have HN := Lib.hid (newPair_any s t hs ht (w.alloc (.cells #[.int .i64 1, .int .i64 1] 176)))
  have HB1 := Lib.hid hb1
  clear hb1
  unfold DistPost farN farE
  cases hp : bothP s t with
  | false =>
    rw [hp] at HN
    simp only [Bool.false_eq_true, if_false] at HN ⊢
    unfold pair0 at HN
    clear hp
    go_enter Tryz.func151, Tryz.ntmps151
    go_wp2_with fail
    refine HN.out.mono ?_
    rintro e w2 ⟨rfl, hb2⟩
    have HB2 := Lib.hid (below_trans HB1.out hb2)
    clear hb2
    go_wp2
    go_ret2
    exact ⟨rfl, HB2.out.alloc HB2.out.size _⟩
  | true =>
    rw [hp] at HN
    simp only [if_true] at HN ⊢
    unfold pairV at HN
    unfold bothP at hp
    rw [Bool.and_eq_true] at hp
    have HS := Lib.hid (And.intro (printB_size hp.1) (printB_size hp.2))
    have HD := Lib.hid (show cst s.data.toList t.data.toList 0 0 = dist s.data.toList t.data.toList from rfl)
    generalize dist s.data.toList t.data.toList = d at *
    clear hp
    go_enter Tryz.func151, Tryz.ntmps151
    go_wp2_with fail
    refine HN.out.mono ?_
    rintro e w2 ⟨rfl, hb2⟩
    have HB2 := Lib.hid (below_trans HB1.out hb2)
    clear hb2
    have HB3 := Lib.hid (HB2.out.alloc HB2.out.size (.cells #[.string s, .string t, .int .i64 1, .int .i64 1] 253))
    go_wp2_with fail
    refine (rests_any s t HS.out.1 HS.out.2 _).mono ?_
    rintro e w3 ⟨O, G, rfl, htab, hb3⟩
    have HB4 := Lib.hid (below_trans HB3.out hb3)
    have q0 := htab.look (i := 0) (Nat.le_refl _) (Nat.zero_le _)
    obtain ⟨v, q1, hv⟩ := htab.entry (i := 0) (k := 0) (e := 0) (Nat.le_refl _) (Nat.zero_le _) (Nat.zero_le _) (by omega) (.inr (Nat.le_refl _))
    unfold okR at hv
    rw [if_pos rfl] at hv
    subst hv
    rw [HD.out] at q1
    simp only [Nat.zero_mul, Nat.add_zero] at q1
    have z1 : (0 : Int) < (s.size : Int) + 1 := by omega
    have z2 : (0 : Int) < (t.size : Int) + 1 := by omega
    clear hb3 htab
    go_wp2
    go_ret2
    exact ⟨rfl, HB4.out⟩
/-- The distance of two texts. -/
def ansFar (ts : List ByteArray) : ByteArray × Int := (itoaB (farN (ts.getD 0 emp) (ts.getD 1 emp) : Nat), farE (ts.getD 0 emp) (ts.getD 1 emp))
set_option maxHeartbeats 1000000 in
theorem far_kind (W : World) (base : Nat) (tv bv : Value) (ts : List ByteArray) (h : W.ownsRow base 9 1 tv ts.length (ts.map Value.string)) (h0 : ts.length = 2) (hsz : ∀ x ∈ ts, x.size ≤ 1000000) (hV : Vars W) : Calls Tryz.prog 118 #[tv, bv] W (AnsPost (ansFar ts) W) := by
  rcases h.2 with ⟨_, h1⟩ | ⟨g, cap, cur, rfl, _⟩
  · omega
  · have c0 := h.cellAt 0 (by omega)
    have c1 := h.cellAt 1 (by omega)
    rw [List.getElem?_map, List.getElem?_eq_getElem (by omega)] at c0 c1
    have hx : ts.getD 0 emp = ts[0] := by rw [List.getD_eq_getElem?_getD, List.getElem?_eq_getElem (by omega)]; rfl
    have hy : ts.getD 1 emp = ts[1] := by rw [List.getD_eq_getElem?_getD, List.getElem?_eq_getElem (by omega)]; rfl
    have hsx := hsz ts[0] (List.getElem_mem _)
    have hsy := hsz ts[1] (List.getElem_mem _)
    unfold ansFar
    rw [hx, hy]
    generalize ts[0] = x at *
    generalize ts[1] = y at *
    rw [h0]
    simp only [Option.map_some] at c0 c1
    clear h hx hy hsz h0
    have HD := Lib.hid (fun X => distance_any x y hsx hsy X)
    unfold DistPost at HD
    have HF := Lib.hid (farN_le x y)
    have HV := Lib.hid hV
    generalize farN x y = d at *
    generalize farE x y = er at *
    clear hV
    have j0 : ∀ X, KB W X → X.cell? ⟨g, 0, none⟩ = some (.string x) := fun X hX => keep_cell hX c0
    have j1 : ∀ X, KB W X → X.cell? ⟨g, 1, none⟩ = some (.string y) := fun X hX => keep_cell hX c1
    go_enter Tryz.func118, Tryz.ntmps118
    go_wp2_with fail
    go_region_held3 (fun X => KB W X) (first | exact KB.refl _ | exact KB.drew (KB.refl _) | assumption | exact KB.drew (by assumption) | fail) (first
      | (go_at_call 151; refine (HD.out _).mono ?_; rintro e w2 ⟨rfl, hb2⟩; have q2 : KB W w2 := KB.call (KB.drew (KB.refl _)) hb2; have HB2 := Lib.hid q2; have HI := Lib.hid (itoa_any (d : Int) (by omega) (by have := HF.out; omega) w2 (HV.out.below HB2.out)); clear hb2)
      | fail)
    all_goals (
      go_wp2_with (first
        | (go_at_call 48; refine HI.out.mono ?_; rintro e w3 ⟨rfl, hb3⟩)
        | fail)
      go_ret2
      exact ⟨rfl, below_trans HB2.out hb3⟩)
theorem says_size : ∀ (l : List Ent) (kn : Kn), (∀ n t, kn.txt n = some t → t.size ≤ 60) → (∀ e ∈ l, (eLine e).size ≤ 60) → ∀ n t, (saysFrom kn l).txt n = some t → t.size ≤ 60
  | [], kn, h, _ => h
  | e :: l, kn, h, hl => by
    have h1 : ∀ n t, (lineSay kn (eLine e)).txt n = some t → t.size ≤ 60 := by
      intro n t ht
      unfold lineSay at ht
      cases hp : parseB (eLine e) with
      | none => rw [hp] at ht; exact h n t ht
      | some c =>
        rw [hp] at ht
        simp only at ht
        split at ht
        · cases c with
          | put x u =>
            simp only [sayB, upd] at ht
            split at ht
            · cases ht
              have := (Cmd.put_size hp)
              have := hl e (by simp)
              omega
            · exact h n t ht
          | drop x =>
            simp only [sayB] at ht
            split at ht
            · exact h n t ht
            · simp only [upd] at ht
              split at ht
              · cases ht
              · exact h n t ht
          | add x m => exact h n t ht
          | stock x => exact h n t ht
          | share m x => exact h n t ht
          | asked k x m => exact h n t ht
        · exact h n t ht
    exact says_size l _ h1 (fun e he => hl e (by simp [he]))
theorem says_text {b : Book} (hb : BookOk b) (n t : ByteArray) (h : (saysB (allB b)).txt n = some t) : t.size ≤ 60 :=
  says_size (allB b) kn0 (fun _ _ h => by cases h) (fun _ he => ((isLineB_iff _).1 (by rw [← lineB_is]; exact (book_bounds hb he).2.2.2)).1) n t h
theorem allS_mem {α β : Type} {f : α → Option β} : ∀ {l : List α} {ys : List β}, allS f l = some ys → ∀ y ∈ ys, ∃ x, f x = some y
  | [], _, h, y, hy => by simp only [allS, Option.some.injEq] at h; subst h; simp at hy
  | a :: l, ys, h, y, hy => by
    unfold allS at h
    cases h1 : f a with
    | none => simp [h1] at h
    | some z =>
      cases h2 : allS f l with
      | none => simp [h1, h2] at h
      | some zs =>
        simp only [h1, h2, Option.some.injEq] at h
        subst h
        rcases List.mem_cons.1 hy with rfl | hy
        · exact ⟨a, h1⟩
        · exact allS_mem h2 y hy
theorem ask_far_any (P n : Nat) (F : List Nat) (b : Book) (line : ByteArray) (hs : line.size ≤ 1000000) (w : World) (h : PostAt w P F n b) (hok : BookOk b) (hV : Vars w) (names : List ByteArray) (ns : List Int) (hc : parseB line = some (.asked 2 names ns)) :
    Calls Tryz.prog 36 #[.pointer (some ⟨P, 0, none⟩), .string line] w (AnsPost (askedV ansFar names (saysB (allB b))) w) := by
  have hsh := (Cmd.shape hc).2 _ _ _ rfl
  unfold Shp at hsh
  exact askq_asked P n F b line hs w h hok hV 2 names ns hc (by omega) (by omega) ansFar (enters_of Tryz.func118 (by kernel_rfl) rfl) fun W base tv bv ts hb _ hrow _ hts => by
    have hlen := allS_len _ _ _ hts
    refine far_kind W base tv bv ts hrow (by omega) (fun x hx => ?_) (hV.below hb)
    obtain ⟨n, hn⟩ := allS_mem hts x hx
    have := says_text hok n x hn
    omega
end Go.Proofs.YtdfkaijeppdhaaaGreatDoor

/- Ask of any line (the program). -/
namespace Go.Proofs.YtdfkaijeppdhaaaGreatDoor
open Go.RowKit Go.Shelf
def ansK (k : Nat) (ns : List Int) : List ByteArray → ByteArray × Int :=
  if k = 0 then ansText else if k = 1 then ansBeat else if k = 2 then ansFar else ansDrift ns
/-- The answer of a question, of what a book says. -/
def askV (kn : Kn) : Cmd → ByteArray × Int
  | .stock n => stockA n kn
  | .share m l => shareA l m kn
  | .asked k l ns => askedV (ansK k ns) l kn
  | _ => (emp, 100)
/-- The answer of a line. -/
def askB (b : Book) (line : ByteArray) : ByteArray × Int := match parseB line with
  | some c => askV (saysB (allB b)) c
  | none => (emp, 100)
theorem ask_any (P n : Nat) (F : List Nat) (b : Book) (line : ByteArray) (hs : line.size ≤ 1000000) (w : World) (h : PostAt w P F n b) (hok : BookOk b) (hV : Vars w) :
    Calls Tryz.prog 36 #[.pointer (some ⟨P, 0, none⟩), .string line] w (AnsPost (askB b line) w) := by
  cases hc : parseB line with
  | none =>
    have e : askB b line = (emp, 100) := by unfold askB; rw [hc] <;> rfl
    rw [e]
    exact ask_no P n F b line hs w h hV (by rw [hc]; rfl)
  | some c =>
    have hsh := Cmd.shape hc
    cases c with
    | put x t =>
      have e : askB b line = (emp, 100) := by unfold askB; rw [hc] <;> rfl
      rw [e]
      exact ask_no P n F b line hs w h hV (by rw [hc]; rfl)
    | drop x =>
      have e : askB b line = (emp, 100) := by unfold askB; rw [hc] <;> rfl
      rw [e]
      exact ask_no P n F b line hs w h hV (by rw [hc]; rfl)
    | add x m =>
      have e : askB b line = (emp, 100) := by unfold askB; rw [hc] <;> rfl
      rw [e]
      exact ask_no P n F b line hs w h hV (by rw [hc]; rfl)
    | stock x =>
      have e : askB b line = stockA x (saysB (allB b)) := by unfold askB; rw [hc] <;> rfl
      rw [e]
      exact askq_stock P n F b line hs w h hok hV x hc
    | share m l =>
      have e : askB b line = shareA l m (saysB (allB b)) := by unfold askB; rw [hc] <;> rfl
      rw [e]
      have h1 := hsh.1 m l rfl
      exact askq_share P n F b line hs w h hok hV m l hc (by omega) (by omega)
    | asked k l ns =>
      have e : askB b line = askedV (ansK k ns) l (saysB (allB b)) := by unfold askB; rw [hc] <;> rfl
      rw [e]
      have h1 := hsh.2 k l ns rfl
      unfold Shp at h1
      rcases h1 with ⟨rfl, h2, h3⟩ | ⟨rfl, h2, h3⟩ | ⟨rfl, h2, h3⟩ | ⟨rfl, h2, h3⟩
      · exact ask_text_any P n F b line hs w h hok hV l ns hc (by omega) (by omega)
      · exact ask_beat_any P n F b line hs w h hok hV l ns hc
      · exact ask_far_any P n F b line hs w h hok hV l ns hc
      · exact ask_drift_any P n F b line hs w h hok hV l ns hc
theorem askB_congr {b c : Book} (h : BookEq b c) (line : ByteArray) : askB b line = askB c line := by unfold askB; rw [h.all]
end Go.Proofs.YtdfkaijeppdhaaaGreatDoor

/- Contracts: written, copies (the laws' own). -/
namespace Go.Proofs.YtdfkaijeppdhaaaGreatDoor
open Go.RowKit Go.Shelf
theorem ptr_notT : ¬ isPostT 33 := by unfold isPostT; decide
def ptrsP (P : Nat → Nat) (k : Nat) : List Value := (List.range k).map fun j => .pointer (some ⟨P j, 0, none⟩)
theorem ptrsP_snoc (P : Nat → Nat) (k p : Nat) : ptrsP (upN P k p) (k + 1) = ptrsP P k ++ [.pointer (some ⟨p, 0, none⟩)] := by
  unfold ptrsP
  rw [List.range_succ, List.map_append, List.map_singleton, upN_same]
  congr 1
  refine List.map_congr_left fun j hj => ?_
  rw [upN_other _ _ (by have := List.mem_range.1 hj; omega)]
theorem ptrsP_at (P : Nat → Nat) {k j : Nat} (h : j < k) : (ptrsP P k)[j]? = some (.pointer (some ⟨P j, 0, none⟩)) := by
  unfold ptrsP
  rw [List.getElem?_map, List.getElem?_range h]; rfl
/-- A row of pointers, grown by one; the posts stay. -/
theorem PsAt.appended {base : Nat} {w1 w2 : World} {m k : Nat} {P n : Nat → Nat} {b : Nat → Book} {o : Value} {ob : Obj} {base' : Nat} {xs : List Value} (h : PsAt base w1 m P n b) (hr : (w1.alloc ob).ownsRow base' 33 1 o k xs) (hv : ∀ k, isVar k → k < base')
    (hg : (w1.alloc ob).grownBy w2 o.ownBlock) : PsAt base w2 m P n b :=
  (h.below ((Below.refl _ w1).alloc (Nat.le_refl _) ob)).grown hr ptr_notT hv hg

/-- What holds in the first loop. -/
structure WrI (w : World) (k : Nat) (o : Value) (P : Nat → Nat) (wr : World) : Prop where
  row : wr.ownsRow w.heap.size 33 1 o k (ptrsP P k)
  ps : PsAt w.heap.size wr k P (fun j => j) (fun _ => empB)
  below : Below w.heap.size w wr
/-- What holds in the second loop. -/
structure WrJ (w : World) (o : Value) (P : Nat → Nat) (bs : Nat → Book) (wr : World) : Prop where
  row : wr.ownsRow w.heap.size 33 1 o 3 (ptrsP P 3)
  ps : PsAt w.heap.size wr 3 P (fun j => j) bs
  sys : Sys bs
  below : Below w.heap.size w wr
def WrittenPost (w : World) (e : Ending) (w' : World) : Prop := ∃ g c P bs, e = .returned (.slice (some ⟨g, 0, none⟩) 3 c) ∧ WrJ w (.slice (some ⟨g, 0, none⟩) 3 c) P bs w'
theorem WrI.next {w wr w1 w2 : World} {k p : Nat} {o v' : Value} {P : Nat → Nat} {ob : Obj} (h : WrI w k o P wr) (hV : ∀ j, isVar j → j < w.heap.size) (h1 : NewPs w.heap.size k P (fun j => j) (fun _ => empB) k empB wr w1 p)
    (hrow : w2.ownsRow w.heap.size 33 1 v' (k + 1) (ptrsP P k ++ [.pointer (some ⟨p, 0, none⟩)])) (hg : (w1.alloc ob).grownBy w2 o.ownBlock) : WrI w (k + 1) v' (upN P k p) w2 := by
  have hsz := h.below.size
  have hr1 := h1.2.own h.row ptr_notT
  have hb1 := h.below.trans (h1.2.below hsz)
  refine ⟨by rw [ptrsP_snoc]; exact hrow, ?_, below_append hb1 hb1.size hr1 (Nat.le_refl _) hg⟩
  refine (PsAt.appended h1.1 (hr1.alloc ob) hV hg).congr fun i hi => ⟨rfl, ?_, ?_⟩
  · unfold upN; split <;> simp [*]
  · unfold upN; split <;> rfl
theorem WrJ.row_at {w wr : World} {g c : Nat} {P : Nat → Nat} {bs : Nat → Book} (h : WrJ w (.slice (some ⟨g, 0, none⟩) 3 c) P bs wr) {j : Nat} (hj : j < 3) : wr.cell? ⟨g, j, none⟩ = some (.pointer (some ⟨P j, 0, none⟩)) := by
  have := h.row.cellAt j (by omega)
  rw [this, ptrsP_at P hj]
theorem WrJ.join {w wr w1 : World} {o : Value} {P : Nat → Nat} {bs : Nat → Book} (h : WrJ w o P bs wr) {i j : Nat} (hi : i < 3) (hj : j < 3) {e : Ending} (hx : JoinPs w.heap.size 3 P (fun j => j) bs i (joinV (bs i) (bs j)) wr e w1) : e = .returned (.int .i64 0) ∧ WrJ w o P (upN bs i (joinL (bs i) (bs j))) w1 := by
  have hju := (join_under (h.sys.under hi) (h.sys.under hj)).1
  have hv : joinV (bs i) (bs j) = (0, joinL (bs i) (bs j)) := by unfold joinV; rw [hju]
  rw [hv] at hx
  obtain ⟨h1, h2, h3⟩ := hx
  exact ⟨h1, h3.own h.row ptr_notT, h2, h.sys.join hi hj, h.below.trans (h3.below h.below.size)⟩
theorem WrJ.add {w wr w1 : World} {o : Value} {P : Nat → Nat} {bs : Nat → Book} (h : WrJ w o P bs wr) {i : Nat} (hi : i < 3) {line : ByteArray} {e : Ending} (hx : DoPs w.heap.size 3 P (fun j => j) bs i (doB (bs i) i line) wr e w1) : WrJ w o P (upN bs i (doB (bs i) i line).2.2) w1 := by
  obtain ⟨h1, h2, h3⟩ := hx
  exact ⟨h3.own h.row ptr_notT, h2, h.sys.add hi line, h.below.trans (h3.below h.below.size)⟩
set_option maxRecDepth 100000 in
set_option maxHeartbeats 8000000 in
theorem written_any (v : Value) (lines : List ByteArray) (n : Int) (w : World) (hL : StrsW w v lines) (hsz : ∀ s ∈ lines, s.size ≤ 200) (hlen : lines.length ≤ 30) (hV : Vars w) :
    Calls Tryz.prog 20 #[v, .int .u32 n] w (WrittenPost w) := by
  obtain ⟨i0, hi0, hz0, hz1, hz2⟩ := info_parts Tryz.infoPtr
  have HVL := Lib.hid (fun j hj => hV.lt (k := j) hj)
  have HSZ := Lib.hid (fun k (hk : k < lines.length) => show (lines.getD k emp).size ≤ 200 by
    rw [List.getD_eq_getElem?_getD, List.getElem?_eq_getElem hk]; exact hsz _ (List.getElem_mem hk))
  obtain ⟨la, lc, rfl, hc⟩ := hL
  have HLC := Lib.hid hc
  have HI0 : Hid (WrI w 0 (.slice none 0 0) (fun _ => 0) w) := Lib.hid ⟨World.ownsRow_nil _ _ _ _, PsAt.nil hV _ _ _, Below.refl _ _⟩
  obtain ⟨ln, hln⟩ : ∃ ln, ln = lines.length := ⟨_, rfl⟩
  have HN := Lib.hid hln
  rw [← hln] at hlen ⊢
  clear hc hsz hV hln
  go_enter Tryz.func20, Tryz.ntmps20
  go_wp2
  go_loopw [5, 6] (fun o i wr => ∃ (k : Nat) (P : Nat → Nat), k ≤ 3 ∧ i = .int .i64 k ∧ Hid (WrI w k o P wr)) (fun _ i _ => 3 - (intOf i).toNat)
  case atStart => exact ⟨0, _, by omega, rfl, HI0⟩
  case round =>
    obtain ⟨k, P, hk, rfl, HI⟩ := hrel
    obtain ⟨oa, oc, rfl⟩ := own_shape HI.out.row
    by_cases hlt : k < 3
    · have hlt2 : (k : Int) < 3 := by omega
      have hszr := HI.out.below.size
      go_wp2_with fail
      refine (new_ps HI.out.ps k (by omega)).mono ?_
      rintro e w1 ⟨p, rfl, hA⟩
      have HA := Lib.hid hA
      have HO1 := Lib.hid (hA.2.own HI.out.row ptr_notT)
      have hsz2 : w.heap.size ≤ w1.heap.size := Nat.le_trans hszr hA.2.size
      clear hA
      go_wp2_with (at_builtin; refine wpList_append_own _ rfl _ _ 31 rfl w.heap.size 33 i0 (.pointer none) 1 8 Tryz.underlying31 hi0 hz0 hz1 hz2 rfl (by decide) _ _ _ rfl (HO1.out.alloc _) ⟨w1.heap.size, 0, none⟩ 1 1 [.pointer (some ⟨p, 0, none⟩)] rfl rfl ?c1 ?c2 ?c3 ?c4 ?c5 ?_)
      case c1 => exact (cell_one_new _ _ _)
      case c2 => intro u hu; simp at hu; subst hu; rfl
      case c3 => unfold maxLen; omega
      case c4 => omega
      case c5 => simp; omega
      · intro v' w2 hown' hgrow _
        have HM := Lib.hid (HI.out.next HVL.out HA.out hown' hgrow)
        clear hown' hgrow
        go_wp2
        go_roundw
        case rel => exact ⟨k + 1, _, by omega, by go_num, HM⟩
        case measure => simp [intOf]; omega
    · have e : k = 3 := by omega
      subst e
      rw [show ((3 : Nat) : Int) = 3 from rfl]
      obtain ⟨S, cap, cur, hos, _, _, _⟩ := HI.out.row.2.resolve_left (fun h => by simp at h)
      simp only [Value.slice.injEq] at hos
      obtain ⟨rfl, -, rfl⟩ := hos
      have HJ0 : Hid (WrJ w (.slice (some ⟨S, 0, none⟩) 3 oc) P (fun _ => empB) wr) := Lib.hid ⟨HI.out.row, HI.out.ps, sys_new, HI.out.below⟩
      clear HI
      go_wp2
      obtain ⟨wo, hwo⟩ : ∃ wo, wo = wr := ⟨_, rfl⟩
      subst hwo
      go_loopw [9] (fun i wr => ∃ (k : Nat) (bs : Nat → Book), k ≤ ln ∧ i = .int .i64 k ∧ Hid (WrJ w (.slice (some ⟨S, 0, none⟩) 3 oc) P bs wr)) (fun i _ => ln - (intOf i).toNat)
      case atStart => exact ⟨0, _, Nat.zero_le _, rfl, HJ0⟩
      case round =>
        obtain ⟨k, bs, hk, rfl, HJ⟩ := hrel
        by_cases hlt : k < ln
        · obtain ⟨b, off, rfl, hcc⟩ := HLC.out (by rw [← HN.out]; omega)
          have c1 := keep_cell HJ.out.below (hcc k (by rw [← HN.out]; exact hlt))
          have HC0 := Lib.hid (hcc k (by rw [← HN.out]; exact hlt))
          have hxs := HSZ.out k (by rw [← HN.out]; exact hlt)
          generalize lines.getD k emp = x at *
          have hj1 : k % 3 < 3 := Nat.mod_lt _ (by omega)
          have hj2 : (k + 1) % 3 < 3 := Nat.mod_lt _ (by omega)
          have d1 := HJ.out.row_at hj1
          have d2 := HJ.out.row_at hj2
          have m1 : (k : Int).tmod 3 = ((k % 3 : Nat) : Int) := by rw [Int.tmod_eq_emod_of_nonneg (by omega)]; omega
          have m2 : ((k : Int) + 1).tmod 3 = (((k + 1) % 3 : Nat) : Int) := by rw [Int.tmod_eq_emod_of_nonneg (by omega)]; omega
          have i1 : ((k % 3 : Nat) : Int) < 3 := by omega
          have i2 : (((k + 1) % 3 : Nat) : Int) < 3 := by omega
          clear hcc
          generalize k % 3 = j1 at *
          generalize (k + 1) % 3 = j2 at *
          have hk32 : (k : Int) < 32 := by omega
          cases hbit : (Go.bits BinOp.and IntKind.u32 (n / 2 ^ k) 1 == 1) with
          | true =>
            go_wp2_with fail
            refine (join_ps HJ.out.ps hj1 hj2).mono ?_
            rintro e w1 hJP
            obtain ⟨rfl, hJ2⟩ := HJ.out.join hj1 hj2 hJP
            have HJ2 := Lib.hid hJ2
            have c2 := keep_cell hJ2.below HC0.out
            clear hJP hJ2
            go_wp2_with fail
            refine (do_ps HJ2.out.ps hj1 x (by omega)).mono ?_
            rintro e w2 hDP
            have HJ3 := Lib.hid (HJ2.out.add hj1 hDP)
            obtain ⟨rfl, _, _⟩ := hDP
            go_wp2
            go_roundw
            case rel => exact ⟨k + 1, _, by omega, by go_num, HJ3⟩
            case measure => simp [intOf]; omega
          | false =>
            go_wp2_with fail
            refine (do_ps HJ.out.ps hj1 x (by omega)).mono ?_
            rintro e w2 hDP
            have HJ3 := Lib.hid (HJ.out.add hj1 hDP)
            obtain ⟨rfl, _, _⟩ := hDP
            go_wp2
            go_roundw
            case rel => exact ⟨k + 1, _, by omega, by go_num, HJ3⟩
            case measure => simp [intOf]; omega
        · have e : k = ln := by omega
          go_wp2
          go_ret
          exact ⟨S, oc, P, bs, rfl, HJ.out⟩

/-- The first k copies of posts. -/
def copL (l : List PB) (Q : Nat → Nat) : Nat → List PB
  | 0 => []
  | k + 1 => copL l Q k ++ [(Q k, (atL l k).2.1, (atL l k).2.2)]
theorem copL_congr (l : List PB) {Q Q' : Nat → Nat} : ∀ k, (∀ i, i < k → Q i = Q' i) → copL l Q k = copL l Q' k
  | 0, _ => rfl
  | k + 1, h => by rw [copL, copL, copL_congr l k (fun i hi => h i (by omega)), h k (by omega)]
theorem PsL.appended {base : Nat} {w1 w2 : World} {l : List PB} {k : Nat} {o : Value} {ob : Obj} {base' : Nat} {xs : List Value} (h : PsL base w1 l) (hr : (w1.alloc ob).ownsRow base' 33 1 o k xs) (hv : ∀ k, isVar k → k < base')
    (hg : (w1.alloc ob).grownBy w2 o.ownBlock) : PsL base w2 l := PsAt.appended h hr hv hg
/-- What holds in the loop. -/
structure CpI (base : Nat) (w : World) (l : List PB) (k : Nat) (o : Value) (Q : Nat → Nat) (wr : World) : Prop where
  row : wr.ownsRow w.heap.size 33 1 o k (ptrsP Q k)
  ps : PsL base wr (l ++ copL l Q k)
  below : Below w.heap.size w wr
theorem CpI.next {base : Nat} {w wr w1 w2 : World} {l : List PB} {k p : Nat} {o v' : Value} {Q : Nat → Nat} {ob : Obj} (h : CpI base w l k o Q wr) (hV : ∀ j, isVar j → j < w.heap.size)
    (h1 : PsL base w1 ((l ++ copL l Q k) ++ [(p, (atL l k).2.1, (atL l k).2.2)])) (hb : Below wr.heap.size wr w1)
    (hrow : w2.ownsRow w.heap.size 33 1 v' (k + 1) (ptrsP Q k ++ [.pointer (some ⟨p, 0, none⟩)])) (hg : (w1.alloc ob).grownBy w2 o.ownBlock) : CpI base w l (k + 1) v' (upN Q k p) w2 := by
  have hsz := h.below.size
  have hr1 := own_below h.row hb
  have hb1 := h.below.trans (hb.mono hsz)
  refine ⟨by rw [ptrsP_snoc]; exact hrow, ?_, below_append hb1 hb1.size hr1 (Nat.le_refl _) hg⟩
  have h2 := PsL.appended h1 (hr1.alloc ob) hV hg
  rw [List.append_assoc] at h2
  have e : copL l (upN Q k p) (k + 1) = copL l Q k ++ [(p, (atL l k).2.1, (atL l k).2.2)] := by
    rw [copL, upN_same, copL_congr l (Q' := Q) k (fun i hi => upN_other _ _ (by omega))]
  rw [e]
  exact h2
theorem CpI.row_at {base : Nat} {w wr : World} {l : List PB} {g c : Nat} {Q : Nat → Nat} (h : CpI base w l 3 (.slice (some ⟨g, 0, none⟩) 3 c) Q wr) {j : Nat} (hj : j < 3) : wr.cell? ⟨g, j, none⟩ = some (.pointer (some ⟨Q j, 0, none⟩)) := by
  have := h.row.cellAt j (by omega)
  rw [this, ptrsP_at Q hj]
end Go.Proofs.YtdfkaijeppdhaaaGreatDoor

/- The law PostCopies. -/
namespace Go.Proofs.YtdfkaijeppdhaaaGreatDoor
open Go.RowKit Go.Shelf
theorem PsL.ok {base : Nat} {w : World} {l : List PB} (h : PsL base w l) {i : Nat} (hi : i < l.length) : BookOk (atL l i).2.2 := PsAt.ok h hi
end Go.Proofs.YtdfkaijeppdhaaaGreatDoor

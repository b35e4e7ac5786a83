/- Plain: books that are beginnings of common lists; joins; what is written last; texts (Post). -/
import Derived.Test.YtdfkaijeppdhaaaGreatDoorBk
namespace Go.Proofs.YtdfkaijeppdhaaaGreatDoor
open Go

/-! ### One more entry -/
theorem restB_zero (b : Book) (i : Nat) : restB b (fun _ => 0) i = b i := by
  unfold restB
  rw [show (min (max 0 (0 : Int)) ((b i).length : Int)).toNat = 0 by omega, List.drop_zero]
theorem catB_zero (b : Book) : catB b (fun _ => 0) = b 0 ++ (b 1 ++ (b 2 ++ b 3)) := by unfold catB; simp only [restB_zero]
theorem allB_perm (b : Book) : (allB b).Perm (b 0 ++ (b 1 ++ (b 2 ++ b 3))) := by
  have := srtE_perm (catB b fun _ => 0)
  rw [catB_zero] at this
  unfold allB sinceB
  rw [catB_zero]
  exact this
theorem allB_mem {b : Book} {e : Ent} (h : e ∈ allB b) : ∃ i, i < 4 ∧ e ∈ b i := by
  have := (allB_perm b).mem_iff.1 h
  simp only [List.mem_append] at this
  rcases this with h | h | h | h
  · exact ⟨0, by omega, h⟩
  · exact ⟨1, by omega, h⟩
  · exact ⟨2, by omega, h⟩
  · exact ⟨3, by omega, h⟩
def lenB (b : Book) : Nat := (b 0).length + (b 1).length + (b 2).length + (b 3).length
theorem allB_len (b : Book) : (allB b).length = lenB b := by
  rw [(allB_perm b).length_eq]; unfold lenB; simp; omega
theorem lenB_le {b : Book} (hb : BookOk b) : lenB b ≤ 240 := by
  have h0 := (hb 0 (by omega)).len
  have h1 := (hb 1 (by omega)).len
  have h2 := (hb 2 (by omega)).len
  have h3 := (hb 3 (by omega)).len
  unfold lenB; omega
theorem cnt_le_all {b : Book} (hb : BookOk b) {e : Ent} (h : e ∈ allB b) : eCnt e ≤ cntB b := by
  obtain ⟨i, hi, he⟩ := allB_mem h
  have := cnt_le_last (hb i hi) he
  have := last_le_cnt b hi
  omega
theorem addAt_len (b : Book) {n : Nat} (hn : n < 4) (e : Ent) : lenB (addAt b n e) = lenB b + 1 := by
  unfold lenB addAt setB
  rcases (show n = 0 ∨ n = 1 ∨ n = 2 ∨ n = 3 by omega) with rfl | rfl | rfl | rfl <;> simp <;> omega
theorem addAt_perm (b : Book) {n : Nat} (hn : n < 4) (e : Ent) : (allB (addAt b n e)).Perm (allB b ++ [e]) := by
  refine (allB_perm _).trans (List.Perm.trans ?_ ((allB_perm b).symm.append_right _))
  unfold addAt setB
  rcases (show n = 0 ∨ n = 1 ∨ n = 2 ∨ n = 3 by omega) with rfl | rfl | rfl | rfl
  · simp only [if_true, Nat.reduceEqDiff, if_false, List.append_assoc]
    exact List.Perm.append_left _ (List.perm_append_comm (l₁ := [e]) |>.trans (by simp only [List.append_assoc]; exact List.Perm.refl _))
  · simp only [if_true, Nat.reduceEqDiff, if_false, List.append_assoc]
    exact List.Perm.append_left _ (List.Perm.append_left _ (List.perm_append_comm (l₁ := [e]) |>.trans (by simp only [List.append_assoc]; exact List.Perm.refl _)))
  · simp only [if_true, Nat.reduceEqDiff, if_false, List.append_assoc]
    exact List.Perm.append_left _ (List.Perm.append_left _ (List.Perm.append_left _ (List.perm_append_comm (l₁ := [e]))))
  · simp only [if_true, Nat.reduceEqDiff, if_false, List.append_assoc]
    exact List.Perm.refl _
theorem asc_keys {l : List Ent} (h : Asc l) : Keys l := h.imp fun hlt hk => by unfold eLt at hlt; omega
theorem keys_perm {l m : List Ent} (hp : l.Perm m) (h : Keys l) : Keys m := (List.Perm.pairwise_iff (fun {a b} (hk : ¬ (eCnt a = eCnt b ∧ ePost a = ePost b)) h2 => hk ⟨h2.1.symm, h2.2.symm⟩) hp).1 h
theorem allB_unique {b : Book} {m : List Ent} (hm : Asc m) (hp : m.Perm (allB b)) : m = allB b :=
  srtE_unique hm (keys_perm (hp.trans (srtE_perm _)) (asc_keys hm)) (hp.trans (srtE_perm _))
/-- What is written is the last of all. -/
theorem allB_add {b : Book} (hb : BookOk b) {n : Nat} (hn : n < 4) (line : ByteArray) : allB (addAt b n (newE b n line)) = allB b ++ [newE b n line] := by
  refine (allB_unique (List.pairwise_append.2 ⟨sinceB_asc hb _, List.pairwise_singleton _ _, fun a ha c hc => ?_⟩) (addAt_perm b hn _).symm).symm
  have : c = newE b n line := by simpa using hc
  subst this
  have h1 := cnt_le_all hb ha
  exact .inl (by show eCnt a < cntB b + 1; omega)
theorem cntB_add {b : Book} (hb : BookOk b) {n : Nat} (hn : n < 4) (line : ByteArray) : cntB (addAt b n (newE b n line)) = cntB b + 1 := by
  have h0 := last_le_cnt b (i := 0) (by omega)
  have h1 := last_le_cnt b (i := 1) (by omega)
  have h2 := last_le_cnt b (i := 2) (by omega)
  have h3 := last_le_cnt b (i := 3) (by omega)
  have hc := cntB_le hb
  have e : ∀ i, i < 4 → lastC (addAt b n (newE b n line) i) = if i = n then cntB b + 1 else lastC (b i) := fun i hi => by
    unfold addAt setB
    split
    · rename_i h; subst h; rw [lastC_append]; rfl
    · rfl
  unfold cntB at *
  rw [e 0 (by omega), e 1 (by omega), e 2 (by omega), e 3 (by omega)]
  rcases (show n = 0 ∨ n = 1 ∨ n = 2 ∨ n = 3 by omega) with rfl | rfl | rfl | rfl <;> simp <;> omega

/-! ### Two books are the same -/
def BookEq (b c : Book) : Prop := ∀ i, i < 4 → b i = c i
theorem BookEq.refl (b : Book) : BookEq b b := fun _ _ => rfl
theorem BookEq.symm {b c : Book} (h : BookEq b c) : BookEq c b := fun i hi => (h i hi).symm
theorem BookEq.trans {b c d : Book} (h : BookEq b c) (k : BookEq c d) : BookEq b d := fun i hi => (h i hi).trans (k i hi)
theorem BookEq.all {b c : Book} (h : BookEq b c) : allB b = allB c := by
  unfold allB sinceB
  rw [catB_zero, catB_zero, h 0 (by omega), h 1 (by omega), h 2 (by omega), h 3 (by omega)]
theorem BookEq.since {b c : Book} (h : BookEq b c) (s : Nat → Int) : sinceB b s = sinceB c s := by
  unfold sinceB catB restB
  rw [h 0 (by omega), h 1 (by omega), h 2 (by omega), h 3 (by omega)]
theorem BookEq.cnt {b c : Book} (h : BookEq b c) : cntB b = cntB c := by
  unfold cntB
  rw [h 0 (by omega), h 1 (by omega), h 2 (by omega), h 3 (by omega)]
theorem BookEq.len {b c : Book} (h : BookEq b c) : lenB b = lenB c := by
  unfold lenB
  rw [h 0 (by omega), h 1 (by omega), h 2 (by omega), h 3 (by omega)]
theorem BookEq.ok {b c : Book} (h : BookEq b c) (hb : BookOk b) : BookOk c := fun i hi => by rw [← h i hi]; exact hb i hi
theorem BookEq.do_ans {b c : Book} (h : BookEq b c) {n : Nat} (hn : n < 4) (line : ByteArray) : (doB b n line).1 = (doB c n line).1 ∧ (doB b n line).2.1 = (doB c n line).2.1 ∧ BookEq (doB b n line).2.2 (doB c n line).2.2 := by
  unfold doB
  rw [h n hn, h.cnt, h.all]
  cases parseB line with
  | none => exact ⟨rfl, rfl, h⟩
  | some q =>
    simp only
    split
    · exact ⟨rfl, rfl, h⟩
    · split
      · exact ⟨rfl, rfl, h⟩
      · split
        · refine ⟨rfl, rfl, fun i hi => ?_⟩
          unfold addAt setB newE
          rw [h n hn, h.cnt]
          show (if i = n then _ else b i) = (if i = n then _ else c i)
          rw [h i hi]
        · exact ⟨rfl, rfl, h⟩

/-! ### Beginnings of common lists -/
def Under (M : Nat → List Ent) (b : Book) : Prop := ∀ i, i < 4 → b i <+: M i
theorem prefix_len {l m M : List Ent} (hl : l <+: M) (hm : m <+: M) (h : l.length = m.length) : l = m := by
  rw [List.prefix_iff_eq_take.1 hl, List.prefix_iff_eq_take.1 hm, h]
theorem under_eq {M : Nat → List Ent} {b c : Book} (hb : Under M b) (hc : Under M c) (h : ∀ i, i < 4 → (b i).length = (c i).length) : BookEq b c := fun i hi => prefix_len (hb i hi) (hc i hi) (h i hi)
theorem fit_of {l m M : List Ent} (hl : l <+: M) (hm : m <+: M) : fitL l m = true := by
  unfold fitL
  rw [Bool.or_eq_true, decide_eq_true_eq, decide_eq_true_eq]
  rcases Nat.le_total l.length m.length with h | h
  · exact .inl (List.prefix_of_prefix_length_le hl hm h)
  · exact .inr (List.prefix_of_prefix_length_le hm hl h)
theorem longL_len (l m : List Ent) : (longL l m).length = max l.length m.length := by unfold longL; split <;> omega
theorem longL_under {l m M : List Ent} (hl : l <+: M) (hm : m <+: M) : longL l m <+: M := by unfold longL; split <;> assumption
def joinL (b o : Book) : Book := fun i => longL (b i) (o i)
theorem join_under {M : Nat → List Ent} {b o : Book} (hb : Under M b) (ho : Under M o) : joinB b o = some (joinL b o) ∧ Under M (joinL b o) := by
  refine ⟨?_, fun i hi => longL_under (hb i hi) (ho i hi)⟩
  unfold joinB
  rw [fit_of (hb 0 (by omega)) (ho 0 (by omega)), fit_of (hb 1 (by omega)) (ho 1 (by omega)), fit_of (hb 2 (by omega)) (ho 2 (by omega)), fit_of (hb 3 (by omega)) (ho 3 (by omega))]
  rfl
theorem join_len (b o : Book) (i : Nat) : (joinL b o i).length = max (b i).length (o i).length := longL_len _ _
theorem joinL_ok {b o : Book} (hb : BookOk b) (ho : BookOk o) : BookOk (joinL b o) := fun i hi => longL_ok (hb i hi) (ho i hi)
theorem lastC_long (l m : List Ent) : lastC (longL l m) = lastC l ∨ lastC (longL l m) = lastC m := by unfold longL; split <;> simp
theorem lastC_prefix {i : Nat} {l m : List Ent} (hm : ListOk i m) (h : l <+: m) : lastC l ≤ lastC m := by
  cases hl : l.getLast? with
  | none => unfold lastC at *; rw [hl]; exact (lastC_le hm).1
  | some e =>
    have h1 := cnt_le_last hm (h.subset (List.mem_of_getLast? hl))
    have h2 : lastC l = eCnt e := by unfold lastC; rw [hl]
    omega
theorem cnt_join {M : Nat → List Ent} {b o : Book} (hb : Under M b) (ho : Under M o) (kb : BookOk b) (ko : BookOk o) : cntB b ≤ cntB (joinL b o) ∧ cntB o ≤ cntB (joinL b o) := by
  have h : ∀ i, i < 4 → lastC (b i) ≤ lastC (joinL b o i) ∧ lastC (o i) ≤ lastC (joinL b o i) := fun i hi => by
    have hk := joinL_ok kb ko i hi
    have hu := (join_under hb ho).2 i hi
    have hl := join_len b o i
    exact ⟨lastC_prefix hk (List.prefix_of_prefix_length_le (hb i hi) hu (by omega)), lastC_prefix hk (List.prefix_of_prefix_length_le (ho i hi) hu (by omega))⟩
  have h0 := h 0 (by omega)
  have h1 := h 1 (by omega)
  have h2 := h 2 (by omega)
  have h3 := h 3 (by omega)
  unfold cntB
  omega

/-- Three posts that have heard of each other. -/
structure Sys (bs : Nat → Book) : Prop where
  ok : ∀ j, j < 3 → BookOk (bs j)
  own : ∀ j, j < 3 → ∀ i, i < 3 → bs j i <+: bs i i
  none : ∀ j, j < 3 → bs j 3 = []
def masters (bs : Nat → Book) : Nat → List Ent := fun i => if i < 3 then bs i i else []
theorem Sys.under {bs : Nat → Book} (h : Sys bs) {j : Nat} (hj : j < 3) : Under (masters bs) (bs j) := fun i hi => by
  unfold masters
  split
  · exact h.own j hj i (by assumption)
  · obtain rfl : i = 3 := by omega
    rw [h.none j hj]
    exact List.nil_prefix
def setP (bs : Nat → Book) (j : Nat) (b : Book) : Nat → Book := fun k => if k = j then b else bs k
theorem setP_same (bs : Nat → Book) (j : Nat) (b : Book) : setP bs j b j = b := by simp [setP]
theorem setP_other (bs : Nat → Book) {j k : Nat} (b : Book) (h : k ≠ j) : setP bs j b k = bs k := by simp [setP, h]
theorem sys_new : Sys fun _ => empB := ⟨fun _ _ => empB_ok, fun _ _ _ _ => List.prefix_refl _, fun _ _ => rfl⟩
theorem longL_self {l m : List Ent} (h : m <+: l) : longL l m = l := by
  unfold longL
  split
  · rfl
  · exact (h.eq_of_length (by have := h.length_le; omega))
theorem Sys.join {bs : Nat → Book} (h : Sys bs) {j k : Nat} (hj : j < 3) (hk : k < 3) : Sys (setP bs j (joinL (bs j) (bs k))) := by
  have hown : ∀ i, i < 3 → setP bs j (joinL (bs j) (bs k)) i i = bs i i := fun i hi => by
    by_cases e : i = j
    · subst e
      rw [setP_same]
      exact longL_self (h.own k hk i hi)
    · rw [setP_other _ _ e]
  refine ⟨fun x hx => ?_, fun x hx i hi => ?_, fun x hx => ?_⟩
  · by_cases e : x = j
    · subst e; rw [setP_same]; exact joinL_ok (h.ok x hx) (h.ok k hk)
    · rw [setP_other _ _ e]; exact h.ok x hx
  · rw [hown i hi]
    by_cases e : x = j
    · subst e; rw [setP_same]; exact longL_under (h.own x hx i hi) (h.own k hk i hi)
    · rw [setP_other _ _ e]; exact h.own x hx i hi
  · by_cases e : x = j
    · subst e
      rw [setP_same]
      unfold joinL
      rw [h.none x hx, h.none k hk]; rfl
    · rw [setP_other _ _ e]; exact h.none x hx
theorem doB_cases (b : Book) (n : Nat) (line : ByteArray) : (doB b n line).2.2 = b ∨ (doB b n line).2.2 = addAt b n (newE b n line) := by
  unfold doB
  split
  · exact .inl rfl
  · split
    · exact .inl rfl
    · split
      · exact .inl rfl
      · split
        · exact .inr rfl
        · exact .inl rfl
theorem Sys.add {bs : Nat → Book} (h : Sys bs) {j : Nat} (hj : j < 3) (line : ByteArray) : Sys (setP bs j (doB (bs j) j line).2.2) := by
  have hok := doB_ok (h.ok j hj) (show j < 4 by omega) line
  rcases doB_cases (bs j) j line with e | e
  · rw [e]
    have : setP bs j (bs j) = bs := by
      funext x
      by_cases ex : x = j
      · subst ex; rw [setP_same]
      · rw [setP_other _ _ ex]
    rw [this]; exact h
  · rw [e] at hok ⊢
    have hoth : ∀ i, i ≠ j → addAt (bs j) j (newE (bs j) j line) i = bs j i := fun i hi => setB_other _ _ hi
    have hown : ∀ i, i < 3 → bs i i <+: setP bs j (addAt (bs j) j (newE (bs j) j line)) i i := fun i hi => by
      by_cases e : i = j
      · subst e
        rw [setP_same]
        unfold addAt
        rw [setB_same]
        exact List.prefix_append _ _
      · rw [setP_other _ _ e]; exact List.prefix_refl _
    refine ⟨fun x hx => ?_, fun x hx i hi => ?_, fun x hx => ?_⟩
    · by_cases ex : x = j
      · subst ex; rw [setP_same]; exact hok
      · rw [setP_other _ _ ex]; exact h.ok x hx
    · by_cases ex : x = j
      · subst ex
        by_cases ei : i = x
        · subst ei; exact List.prefix_refl _
        · rw [setP_same, hoth i ei, setP_other _ _ ei]; exact h.own x hx i hi
      · rw [setP_other _ _ ex]; exact (h.own x hx i hi).trans (hown i hi)
    · by_cases ex : x = j
      · subst ex; rw [setP_same, hoth 3 (by omega)]; exact h.none x hx
      · rw [setP_other _ _ ex]; exact h.none x hx

/-! ### Texts -/
def lineT (e : Ent) : List UInt8 := Lib.itoa (ePost e) ++ 32 :: (Lib.itoa (eNum e) ++ 32 :: (Lib.itoa (eCnt e) ++ 32 :: ((eLine e).data.toList ++ [10])))
def textL (l : List Ent) : List UInt8 := l.flatMap lineT
def textB (b : Book) : ByteArray := bsB (textL (allB b))
theorem BookEq.text {b c : Book} (h : BookEq b c) : textB b = textB c := by unfold textB; rw [h.all]
theorem itoa_no10 (n : Int) : (10 : UInt8) ∉ Lib.itoa n := fun h => by have := itoa_byte n _ h; simp at this
theorem line_no10 {s : ByteArray} (h : lineB s = true) : (10 : UInt8) ∉ s.data.toList := fun hm => by
  rw [lineB_is, isLineB_iff] at h
  have := h.2 _ hm
  simp at this
theorem lineT_count {e : Ent} (h : lineB (eLine e) = true) : (lineT e).count 10 = 1 := by
  unfold lineT
  simp only [List.count_append, List.count_cons, List.count_eq_zero.2 (itoa_no10 _), List.count_eq_zero.2 (line_no10 h)]
  decide
theorem textL_count : ∀ (l : List Ent), (∀ e ∈ l, lineB (eLine e) = true) → (textL l).count 10 = l.length
  | [], _ => rfl
  | e :: l, h => by
    show (lineT e ++ textL l).count 10 = _
    rw [List.count_append, lineT_count (h e (by simp)), textL_count l (fun x hx => h x (by simp [hx])), List.length_cons]
    omega
theorem textB_count {b : Book} (hb : BookOk b) : (textB b).data.toList.count 10 = lenB b := by
  rw [show (textB b).data.toList = textL (allB b) from rfl, textL_count _ (fun e he => ?_), allB_len]
  obtain ⟨i, hi, hm⟩ := allB_mem he
  exact ((hb i hi).mem hm).2.2.2
theorem text_ne {b c : Book} (hb : BookOk b) (hc : BookOk c) (h : lenB b ≠ lenB c) : textB b ≠ textB c := fun e => h (by rw [← textB_count hb, ← textB_count hc, e])
theorem textB_emp : textB empB = emp := rfl
end Go.Proofs.YtdfkaijeppdhaaaGreatDoor

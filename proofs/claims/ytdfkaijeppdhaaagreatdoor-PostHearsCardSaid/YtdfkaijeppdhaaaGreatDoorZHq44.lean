/- Texts of this claim, laid together: Lh0, Re. -/
import Derived.Test.YtdfkaijeppdhaaaGreatDoorZHq16
import Derived.Test.YtdfkaijeppdhaaaGreatDoorZHq42
import Derived.Test.YtdfkaijeppdhaaaGreatDoorZHq43

/- Plain: to hear the text of a post is to join it (Post). -/
namespace Go.Proofs.YtdfkaijeppdhaaaGreatDoor
open Go.RowKit Go.Shelf
/-- To hear a text is to join its book. -/
theorem hear_under {M : Nat → List Ent} {b o : Book} (hb : Under M b) (ho : Under M o) (hok : BookOk o) : ∃ c, hearV b (textB o) = (0, c) ∧ BookEq c (joinL b o) := by
  obtain ⟨d, hd, he⟩ := read_text hok
  have hu : Under M d := fun i hi => by rw [he i hi]; exact ho i hi
  refine ⟨joinL b d, ?_, fun i hi => ?_⟩
  · unfold hearV
    rw [hd]
    exact joinV_under hb hu
  · unfold joinL
    rw [he i hi]
/-- What is new is as much as a join brings. -/
theorem since_join (b c : Book) : lenB (joinL b c) = lenB b + (sinceB c fun i => ((b i).length : Int)).length := by
  have hr : ∀ i, (restB c (fun i => ((b i).length : Int)) i).length + (b i).length = (joinL b c i).length := fun i => by
    unfold restB
    rw [join_len, List.length_drop]
    simp only
    omega
  unfold sinceB
  rw [srtE_len]
  unfold catB lenB
  simp only [List.length_append]
  have h0 := hr 0
  have h1 := hr 1
  have h2 := hr 2
  have h3 := hr 3
  omega
theorem join_emp (b : Book) : joinL empB b = b := by
  funext i
  unfold joinL longL empB
  rw [if_neg (by simp)]
theorem joinV_emp (b : Book) : joinV empB b = (0, b) := by
  unfold joinV joinB
  rw [if_pos (by simp [fitL, empB])]
  simp only [Prod.mk.injEq, true_and]
  exact join_emp b

section
variable {base : Nat} {w : World} {l : List PB}
theorem hear_ok (h : PsL base w l) {i : Nat} (hi : i < l.length) (s : ByteArray) (hs : s.size ≤ 4000000000) {c : Book} (hc : hearV (atL l i).2.2 s = (0, c)) :
    Calls Tryz.prog 44 #[.pointer (some ⟨(atL l i).1, 0, none⟩), .string s] w fun e w' => e = .returned (.int .i64 0) ∧ PsL base w' (setL l i ((atL l i).1, (atL l i).2.1, c)) ∧ Kin base w w' := by
  obtain ⟨F, h1, h2, h3, h4⟩ := id h
  refine (hear_post _ _ (F i) _ s hs w (h1.post i hi) (h3 i hi).1 h1.vars).mono ?_
  rw [hc]
  rintro e w' ⟨rfl, F', k1, k2, k3⟩
  have hok := hearV_ok (h3 i hi).1 s
  rw [hc] at hok
  have ht := PsAt.turn h1 h2 h3 h4 hi hok k1 k2 k3
  exact ⟨rfl, PsL.of_set hi ht.1, ht.2⟩
theorem ask_b (h : PsL base w l) {i : Nat} (hi : i < l.length) (line : ByteArray) (hs : line.size ≤ 1000000) :
    Calls Tryz.prog 36 #[.pointer (some ⟨(atL l i).1, 0, none⟩), .string line] w (AnsPost (askB (atL l i).2.2 line) w) := by
  obtain ⟨F, h1, _, _⟩ := PsAt.post h hi
  exact ask_any _ _ F _ line hs w h1 (PsAt.ok h hi) h.vars
theorem text_b (h : PsL base w l) {i : Nat} (hi : i < l.length) : Calls Tryz.prog 29 #[.pointer (some ⟨(atL l i).1, 0, none⟩)] w fun e w' => e = .returned (.string (textB (atL l i).2.2)) ∧ Below w.heap.size w w' := by
  obtain ⟨F, h1, _, _⟩ := PsAt.post h hi
  exact text_post _ _ F _ w h1 (PsAt.ok h hi) h.vars
theorem book_b (h : PsL base w l) {i : Nat} (hi : i < l.length) : Calls Tryz.prog 25 #[.pointer (some ⟨(atL l i).1, 0, none⟩)] w (SincePost (allB (atL l i).2.2) w) := by
  obtain ⟨F, h1, _, _⟩ := PsAt.post h hi
  exact book_post _ _ F _ w h1 (PsAt.ok h hi)
theorem since_b (h : PsL base w l) {i : Nat} (hi : i < l.length) (s0 s1 s2 s3 : Int) (seen : Nat → Int) (hs : seen 0 = s0 ∧ seen 1 = s1 ∧ seen 2 = s2 ∧ seen 3 = s3) :
    Calls Tryz.prog 32 #[.pointer (some ⟨(atL l i).1, 0, none⟩), .agg #[.int .i64 s0, .int .i64 s1, .int .i64 s2, .int .i64 s3]] w (SincePost (sinceB (atL l i).2.2 seen) w) := by
  obtain ⟨F, h1, _, _⟩ := PsAt.post h hi
  exact since_post _ _ F _ s0 s1 s2 s3 seen hs w h1 (PsAt.ok h hi)
end
end Go.Proofs.YtdfkaijeppdhaaaGreatDoor

/- Contract: Read of the program. -/
namespace Go.Proofs.YtdfkaijeppdhaaaGreatDoor
open Go.RowKit Go.Shelf
/-- What Read hands back. -/
def ReadsPost (o : Option Book) (w : World) (e : Ending) (w' : World) : Prop :=
  (match o with
    | some b => ∃ v, e = .returned (.tuple #[v, .int .i64 0]) ∧ ListAt w' v (allB b) ∧ BookOk b
    | none => e = .returned (.tuple #[.slice none 0 0, .int .i64 3])) ∧ Below w.heap.size w w'
set_option maxHeartbeats 1000000 in
theorem pread_any (s : ByteArray) (w : World) (hV : Vars w) (hs : s.size ≤ 4000000000) : Calls Tryz.prog 40 #[.string s] w (ReadsPost (readB s) w) := by
  have HR := Lib.hid (read_any s w hV hs)
  unfold ReadPost at HR
  cases h : readB s with
  | none =>
    rw [h] at HR
    clear h
    go_enter Tryz.func40, Tryz.ntmps40
    go_wp2_with fail
    refine HR.out.mono ?_
    rintro e w1 ⟨⟨pv, rfl⟩, hb1⟩
    have HB1 := Lib.hid hb1
    clear hb1
    go_wp2
    go_ret2
    exact ⟨rfl, HB1.out⟩
  | some b =>
    have hok := (readB_some h).1
    rw [h] at HR
    have HOK := Lib.hid hok
    clear h hok
    go_enter Tryz.func40, Tryz.ntmps40
    go_wp2_with fail
    refine HR.out.mono ?_
    rintro e w1 ⟨⟨K, vs, rfl, hK, hbk, hfar⟩, hb1⟩
    have HA := Lib.hid (all_any K _ b w1 hbk.at HOK.out)
    have HB1 := Lib.hid hb1
    clear hb1 hbk hfar
    go_wp2_with fail
    refine HA.out.mono ?_
    rintro e w2 ⟨v, rfl, hl, _, hb2⟩
    have HL := Lib.hid hl
    have HB2 := Lib.hid (HB1.out.trans (hb2.mono HB1.out.size))
    clear hl hb2
    go_wp2
    go_ret2
    exact ⟨⟨_, rfl, HL.out, HOK.out⟩, HB2.out⟩
end Go.Proofs.YtdfkaijeppdhaaaGreatDoor

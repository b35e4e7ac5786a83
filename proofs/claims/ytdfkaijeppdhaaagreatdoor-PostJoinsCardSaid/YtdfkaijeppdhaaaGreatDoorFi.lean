/- Contracts: does. -/
import Derived.Test.YtdfkaijeppdhaaaGreatDoorFh
namespace Go.Proofs.YtdfkaijeppdhaaaGreatDoor
open Go.RowKit Go.Shelf

/-! ### Plain -/
def firstW (line : ByteArray) : ByteArray := ⟨(Lib.cut line.data.toList [32]).1.toArray⟩
def restW (line : ByteArray) : ByteArray := ⟨(Lib.cut line.data.toList [32]).2.1.toArray⟩
def joinW : List UInt8 := [106, 111, 105, 110, 32]
def isJoin (s : ByteArray) : Bool := Lib.hasPrefix s.data.toList joinW
def otherW (s : ByteArray) : ByteArray := ⟨(Lib.trimPrefix s.data.toList joinW).toArray⟩
def setN (bs : Nat → Book) (i : Nat) (c : Book) : Nat → Book := fun j => if j = i then c else bs j
/-- A post of a word. -/
def postV (s : ByteArray) : Option Nat := match numV s with
  | some n => if betw 0 n 3 then some n.toNat else none
  | none => none
/-- A line of a script. -/
def doesB (askB : Book → ByteArray → ByteArray × Int) (bs : Nat → Book) (line : ByteArray) : (ByteArray × Int) × (Nat → Book) := match postV (firstW line) with
  | none => ((emp, 100), bs)
  | some n => if isJoin (restW line) then (match postV (otherW (restW line)) with
      | none => ((emp, 100), bs)
      | some k => ((itoaB (lenB (joinV (bs n) (bs k)).2 : Int), (joinV (bs n) (bs k)).1), setN bs n (joinV (bs n) (bs k)).2))
    else if Cmd.deedO (parseB (restW line)) then (((doB (bs n) n (restW line)).1, (doB (bs n) n (restW line)).2.1), setN bs n (doB (bs n) n (restW line)).2.2)
    else if Cmd.askO (parseB (restW line)) then (askB (bs n) (restW line), bs)
    else ((emp, 100), bs)
theorem postV_some {s : ByteArray} {n : Nat} (h : postV s = some n) : numV s = some (n : Int) ∧ n < 4 := by
  unfold postV at h
  cases hn : numV s with
  | none => rw [hn] at h; cases h
  | some v =>
    rw [hn] at h
    simp only at h
    split at h
    · rename_i hb
      rw [betw_iff] at hb
      injection h with h
      subst h
      exact ⟨by rw [Int.toNat_of_nonneg hb.1], by omega⟩
    · cases h
theorem cut_len (l sep : List UInt8) : (Lib.cut l sep).1.length ≤ l.length ∧ (Lib.cut l sep).2.1.length ≤ l.length := by
  unfold Lib.cut
  split <;> simp
  omega
theorem first_size (s : ByteArray) : (firstW s).size ≤ s.size := by
  have := (cut_len s.data.toList [32]).1
  rw [ba_size, ba_size]; exact this
theorem rest_size (s : ByteArray) : (restW s).size ≤ s.size := by
  have := (cut_len s.data.toList [32]).2
  rw [ba_size, ba_size]; exact this
theorem other_size (s : ByteArray) : (otherW s).size ≤ s.size := by
  rw [ba_size, ba_size]
  unfold otherW Lib.trimPrefix
  split <;> simp

/-! ### Four posts, and the slice of them -/
def U (ps : Nat → Pst) : List Nat := (ps 0).F ++ ((ps 1).F ++ ((ps 2).F ++ (ps 3).F))
theorem mem_U {ps : Nat → Pst} {k : Nat} : k ∈ U ps ↔ ∃ i, i < 4 ∧ k ∈ (ps i).F := by
  unfold U
  simp only [List.mem_append]
  refine ⟨fun h => ?_, fun ⟨i, hi, h⟩ => ?_⟩
  · rcases h with h | h | h | h
    · exact ⟨0, by omega, h⟩
    · exact ⟨1, by omega, h⟩
    · exact ⟨2, by omega, h⟩
    · exact ⟨3, by omega, h⟩
  · rcases (show i = 0 ∨ i = 1 ∨ i = 2 ∨ i = 3 by omega) with rfl | rfl | rfl | rfl
    · exact .inl h
    · exact .inr (.inl h)
    · exact .inr (.inr (.inl h))
    · exact .inr (.inr (.inr h))
structure PostsAt (w : World) (S : Nat) (ps : Nat → Pst) : Prop where
  posts : Posts w 4 ps
  row : ∀ j, j < 4 → w.cell? ⟨S, j, none⟩ = some (.pointer (some ⟨(ps j).P, 0, none⟩))
  own : S ∉ U ps
  ok : ∀ j, j < 4 → BookOk (ps j).b
  num : ∀ j, j < 4 → (ps j).n = j
theorem PostsAt.lt {w : World} {S : Nat} {ps : Nat → Pst} (h : PostsAt w S ps) : S < w.heap.size := World.block_lt_of_cell? _ _ (h.row 0 (by omega))
theorem PostsAt.below {w w' : World} {S : Nat} {ps : Nat → Pst} (h : PostsAt w S ps) (hb : Below w.heap.size w w') : PostsAt w' S ps :=
  ⟨h.posts.below hb, fun j hj => keep_cell hb (h.row j hj), h.own, h.ok, h.num⟩
/-- What one post leaves, of all. -/
structure Turn (w : World) (S : Nat) (ps : Nat → Pst) (bs : Nat → Book) (w' : World) : Prop where
  ex : ∃ ps', PostsAt w' S ps' ∧ (∀ j, j < 4 → (ps' j).b = bs j) ∧ NewOr w (U ps) (U ps') ∧ Off (U ps) w w'
theorem Turn.refl {w : World} {S : Nat} {ps : Nat → Pst} (h : PostsAt w S ps) {w' : World} (hb : Below w.heap.size w w') : Turn w S ps (fun j => (ps j).b) w' :=
  ⟨ps, h.below hb, fun _ _ => rfl, newOr_refl _ _, Off.of_below hb⟩
theorem PostsAt.turn {w w' : World} {S : Nat} {ps : Nat → Pst} (h : PostsAt w S ps) {i : Nat} (hi : i < 4) {F' : List Nat} {c : Book} (hp : PostAt w' (ps i).P F' i c) (hF : NewOr w (ps i).F F') (ho : Off (ps i).F w w') (hc : BookOk c) :
    PostsAt w' S (setS ps i ⟨(ps i).P, F', i, c⟩) ∧ NewOr w (U ps) (U (setS ps i ⟨(ps i).P, F', i, c⟩)) ∧ Off (U ps) w w' := by
  have hin : ∀ k, k ∈ (ps i).F → k ∈ U ps := fun k hk => mem_U.2 ⟨i, hi, hk⟩
  have hU : NewOr w (U ps) (U (setS ps i ⟨(ps i).P, F', i, c⟩)) := fun k hk => by
    obtain ⟨j, hj, hk⟩ := mem_U.1 hk
    by_cases e : j = i
    · subst e
      rw [setS_same] at hk
      exact (hF k hk).imp (hin k) id
    · rw [setS_other _ _ e] at hk
      exact .inl (mem_U.2 ⟨j, hj, hk⟩)
  have hS := h.lt
  refine ⟨⟨h.posts.turn hi (p := ⟨(ps i).P, F', i, c⟩) hp hF ho, fun j hj => ?_, fun hm => ?_, fun j hj => ?_, fun j hj => ?_⟩, hU, ho.mono fun k hk => .inl (hin k hk)⟩
  · rw [World.cell?_of_block (ho.block S hS fun hm => h.own (hin S hm)), h.row j hj]
    by_cases e : j = i
    · subst e; rw [setS_same]
    · rw [setS_other _ _ e]
  · rcases hU S hm with h1 | h1
    · exact h.own h1
    · omega
  · by_cases e : j = i
    · subst e; rw [setS_same]; exact hc
    · rw [setS_other _ _ e]; exact h.ok j hj
  · by_cases e : j = i
    · subst e; rw [setS_same]
    · rw [setS_other _ _ e]; exact h.num j hj
theorem Turn.of {w w' : World} {S : Nat} {ps : Nat → Pst} (h : PostsAt w S ps) {i : Nat} (hi : i < 4) {c : Book} (hx : ∃ F', PostAt w' (ps i).P F' i c ∧ NewOr w (ps i).F F' ∧ Off (ps i).F w w') (hc : BookOk c) {bs : Nat → Book} (hbs : ∀ j, j < 4 → bs j = (ps j).b) : Turn w S ps (setN bs i c) w' := by
  obtain ⟨F', h1, h2, h3⟩ := hx
  obtain ⟨k1, k2, k3⟩ := h.turn hi h1 h2 h3 hc
  refine ⟨_, k1, fun j hj => ?_, k2, k3⟩
  unfold setN
  by_cases e : j = i
  · subst e; rw [setS_same, if_pos rfl]
  · rw [setS_other _ _ e, if_neg e, hbs j hj]
theorem Turn.more {w w' w'' : World} {S : Nat} {ps : Nat → Pst} {bs : Nat → Book} (h : Turn w S ps bs w') (hb : Below w'.heap.size w' w'') : Turn w S ps bs w'' := by
  obtain ⟨ps', h1, h2, h3, h4⟩ := h.ex
  refine ⟨ps', h1.below hb, h2, h3, ⟨hb.os.trans h4.os, hb.tape.trans h4.tape, hb.output.trans h4.output, Nat.le_trans h4.size hb.size, fun k hk hn => (hb.block k (Nat.lt_of_lt_of_le hk h4.size)).trans (h4.block k hk hn)⟩⟩
theorem Turn.ahead {w0 w w' : World} {S : Nat} {ps : Nat → Pst} {bs : Nat → Book} (hb : Below w0.heap.size w0 w) (h : Turn w S ps bs w') : Turn w0 S ps bs w' := by
  obtain ⟨ps', h1, h2, h3, h4⟩ := h.ex
  refine ⟨ps', h1, h2, fun k hk => (h3 k hk).imp id (fun h => Nat.le_trans hb.size h), ⟨h4.os.trans hb.os, h4.tape.trans hb.tape, h4.output.trans hb.output, Nat.le_trans hb.size h4.size, fun k hk hn => (h4.block k (Nat.lt_of_lt_of_le hk hb.size) hn).trans (hb.block k hk)⟩⟩
def DoesPost (w : World) (S : Nat) (ps : Nat → Pst) (r : (ByteArray × Int) × (Nat → Book)) (e : Ending) (w' : World) : Prop :=
  e = .returned (.tuple #[.string r.1.1, .int .i64 r.1.2]) ∧ Turn w S ps r.2 w'
theorem Turn.books {w w' : World} {S : Nat} {ps : Nat → Pst} {bs bs' : Nat → Book} (h : Turn w S ps bs w') (e : ∀ j, j < 4 → bs j = bs' j) : Turn w S ps bs' w' := by
  obtain ⟨ps', h1, h2, h3, h4⟩ := h.ex
  exact ⟨ps', h1, fun j hj => (h2 j hj).trans (e j hj), h3, h4⟩
end Go.Proofs.YtdfkaijeppdhaaaGreatDoor

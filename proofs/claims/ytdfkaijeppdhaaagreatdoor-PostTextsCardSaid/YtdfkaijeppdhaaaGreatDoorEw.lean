/- Contracts: Do. -/
import Derived.Test.YtdfkaijeppdhaaaGreatDoorEv
import Derived.Test.YtdfkaijeppdhaaaGreatDoorEl
import Derived.Test.YtdfkaijeppdhaaaGreatDoorRf
import Derived.Deep.DrawnRows
namespace Go.Proofs.YtdfkaijeppdhaaaGreatDoor
open Go.RowKit Go.Shelf

theorem bookIs_of {w : World} {K : Nat} {G : List Nat} {b : Book} (h : BookAt w K G b) : ∃ vs, BookIs w K vs b ∧ G = blks (vs 0) (vs 1) (vs 2) (vs 3) := by
  obtain ⟨v0, v1, v2, v3, hK, h0, h1, h2, h3, rfl, hn⟩ := h
  refine ⟨fun i => if i = 0 then v0 else if i = 1 then v1 else if i = 2 then v2 else v3, ⟨hK, fun i hi => ?_, fun i j hi hj hij g hg hg2 => ?_⟩, rfl⟩
  · rcases (show i = 0 ∨ i = 1 ∨ i = 2 ∨ i = 3 by omega) with rfl | rfl | rfl | rfl <;> assumption
  · unfold blks at hn
    simp only [List.nodup_append, List.mem_append, Option.mem_toList] at hn
    obtain ⟨_, ⟨_, ⟨_, _, n23⟩, n12⟩, n01⟩ := hn
    rcases (show i = 0 ∨ i = 1 ∨ i = 2 ∨ i = 3 by omega) with rfl | rfl | rfl | rfl <;>
    rcases (show j = 0 ∨ j = 1 ∨ j = 2 ∨ j = 3 by omega) with rfl | rfl | rfl | rfl <;>
    first
    | exact hij rfl
    | exact n01 g hg g (.inl hg2) rfl
    | exact n01 g hg g (.inr (.inl hg2)) rfl
    | exact n01 g hg g (.inr (.inr hg2)) rfl
    | exact n01 g hg2 g (.inl hg) rfl
    | exact n01 g hg2 g (.inr (.inl hg)) rfl
    | exact n01 g hg2 g (.inr (.inr hg)) rfl
    | exact n12 g hg g (.inl hg2) rfl
    | exact n12 g hg g (.inr hg2) rfl
    | exact n12 g hg2 g (.inl hg) rfl
    | exact n12 g hg2 g (.inr hg) rfl
    | exact n23 g hg g hg2 rfl
    | exact n23 g hg2 g hg rfl
theorem opt_nodup (o : Option Nat) : o.toList.Nodup := by cases o <;> simp
theorem BookIs.at {w : World} {K : Nat} {vs : Nat → Value} {b : Book} (h : BookIs w K vs b) : BookAt w K (blks (vs 0) (vs 1) (vs 2) (vs 3)) b := by
  refine ⟨vs 0, vs 1, vs 2, vs 3, h.cells, h.list 0 (by omega), h.list 1 (by omega), h.list 2 (by omega), h.list 3 (by omega), rfl, ?_⟩
  unfold blks
  simp only [List.nodup_append, List.mem_append, Option.mem_toList]
  refine ⟨opt_nodup _, ⟨opt_nodup _, ⟨opt_nodup _, opt_nodup _, fun a ha c hc e => ?_⟩, fun a ha c hc e => ?_⟩, fun a ha c hc e => ?_⟩
  · subst e; exact h.apart 2 3 (by omega) (by omega) (by omega) a ha hc
  · subst e
    rcases hc with hc | hc
    · exact h.apart 1 2 (by omega) (by omega) (by omega) a ha hc
    · exact h.apart 1 3 (by omega) (by omega) (by omega) a ha hc
  · subst e
    rcases hc with hc | hc | hc
    · exact h.apart 0 1 (by omega) (by omega) (by omega) a ha hc
    · exact h.apart 0 2 (by omega) (by omega) (by omega) a ha hc
    · exact h.apart 0 3 (by omega) (by omega) (by omega) a ha hc
theorem mem_blks {vs : Nat → Value} {k : Nat} : k ∈ blks (vs 0) (vs 1) (vs 2) (vs 3) ↔ ∃ i, i < 4 ∧ (vs i).ownBlock = some k := by
  unfold blks
  simp only [List.mem_append, Option.mem_toList]
  refine ⟨fun h => ?_, fun ⟨i, hi, h⟩ => ?_⟩
  · rcases h with h | h | h | h
    · exact ⟨0, by omega, h⟩
    · exact ⟨1, by omega, h⟩
    · exact ⟨2, by omega, h⟩
    · exact ⟨3, by omega, h⟩
  · rcases (show i = 0 ∨ i = 1 ∨ i = 2 ∨ i = 3 by omega) with rfl | rfl | rfl | rfl
    · exact .inl h
    · exact .inr (.inl h)
    · exact .inr (.inr (.inl h))
    · exact .inr (.inr (.inr h))
theorem BookIs.keep {w w' : World} {K : Nat} {vs : Nat → Value} {b : Book} (h : BookIs w K vs b) (hK : w'.heap[K]? = w.heap[K]?) (hv : ∀ i, i < 4 → ∀ k, (vs i).ownBlock = some k → w'.heap[k]? = w.heap[k]?) : BookIs w' K vs b :=
  ⟨hK.trans h.cells, fun i hi => (h.list i hi).keep (hv i hi), h.apart⟩
theorem BookIs.lt {w : World} {K : Nat} {vs : Nat → Value} {b : Book} (h : BookIs w K vs b) : K < w.heap.size := (Array.getElem?_eq_some_iff.1 h.cells).1
theorem BookIs.below {w w' : World} {K : Nat} {vs : Nat → Value} {b : Book} (h : BookIs w K vs b) (hb : Below w.heap.size w w') : BookIs w' K vs b :=
  h.keep (hb.block _ h.lt) fun i hi k hk => hb.block k ((h.list i hi).lt hk)
theorem BookIs.ne {w : World} {K : Nat} {vs : Nat → Value} {b : Book} (h : BookIs w K vs b) {i : Nat} (hi : i < 4) {g : Nat} (hg : (vs i).ownBlock = some g) : g ≠ K := fun e => by
  subst e
  rcases (h.list i hi).2 with ⟨h1, _⟩ | ⟨g', cap', cur, h1, _, h2, _⟩
  · rw [h1] at hg; cases hg
  · rw [h1] at hg
    have : g' = g := by simpa [Value.ownBlock] using hg
    subst this
    rw [h.cells] at h2
    simp at h2
/-- An entry is added, or not. -/
theorem addB_any (K : Nat) (vs : Nat → Value) (b : Book) (e : Ent) (w : World) (h : BookIs w K vs b) (hok : BookOk b) :
    Calls Tryz.prog 55 #[.pointer (some ⟨K, 0, none⟩), entV e] w (if follows b e then AddPost K vs b e w else NoAdd w) := by
  by_cases h1 : betw 0 (ePost e) 3 = true
  · by_cases h2 : betw 1 (eCnt e) 1000000 = true
    · by_cases h3 : isLineB (eLine e) = true
      · have hp := (betw_iff _ _ _).1 h1
        have hc := (betw_iff _ _ _).1 h2
        obtain ⟨ep, num, cnt, line⟩ := e
        obtain ⟨p, rfl⟩ : ∃ p : Nat, ep = (p : Int) := ⟨ep.toNat, (Int.toNat_of_nonneg hp.1).symm⟩
        have hp4 : p < 4 := by have := hp.2; simp only [ePost] at this; omega
        have hlen := (hok p hp4).len
        have hf := follows_iff b ((p : Int), num, cnt, line)
        simp only [ePost, eNum, eCnt, eLine, Int.toNat_natCast] at hf hc h3
        by_cases h4 : num = ((b p).length : Int) + 1
        · by_cases h5 : (b p).length = 60
          · rw [if_neg (by rw [hf]; exact fun h => h.2.2.2.2.2.2.1 h5)]
            exact add_number K vs b p hp4 num cnt line hc h3 w h hlen (.inr h5)
          · by_cases h6 : (b p).length = 0
            · rw [if_pos (by rw [hf]; exact ⟨by omega, by omega, hc.1, hc.2, h3, h4, h5, .inl h6⟩), h4]
              exact add_first K vs b p hp4 cnt line hc h3 w h (by omega) h6
            · by_cases h7 : lastC (b p) < cnt
              · rw [if_pos (by rw [hf]; exact ⟨by omega, by omega, hc.1, hc.2, h3, h4, h5, .inr h7⟩), h4]
                exact add_more K vs b p hp4 cnt line hc h3 w h (by omega) (by omega) h7
              · rw [if_neg (by rw [hf]; exact fun h => h.2.2.2.2.2.2.2.elim h6 h7), h4]
                exact add_count K vs b p hp4 cnt line hc h3 w h (by omega) (by omega) (by omega)
        · rw [if_neg (by rw [hf]; exact fun h => h4 h.2.2.2.2.2.1)]
          exact add_number K vs b p hp4 num cnt line hc h3 w h hlen (.inl h4)
      · rw [if_neg (by rw [follows_iff]; exact fun h => h3 h.2.2.2.2.1)]
        exact add_none K e (.inr (.inr (by simpa using h3))) w
    · rw [if_neg (by rw [follows_iff]; exact fun h => h2 ((betw_iff _ _ _).2 ⟨h.2.2.1, h.2.2.2.1⟩))]
      exact add_none K e (.inr (.inl (by simpa using h2))) w
  · rw [if_neg (by rw [follows_iff]; exact fun h => h1 ((betw_iff _ _ _).2 ⟨h.1, h.2.1⟩))]
    exact add_none K e (.inl (by simpa using h1)) w

theorem follows_new {b : Book} (hok : BookOk b) {n : Nat} (hn : n < 4) {line : ByteArray} (hl : isLineB line = true) : follows b (newE b n line) = true ↔ ((b n).length < 60 ∧ cntB b < 1000000) := by
  have hlen := (hok n hn).len
  have hc := cntB_le hok
  have hlast := last_le_cnt b hn
  have e1 : ePost (newE b n line) = (n : Int) := rfl
  have e2 : eNum (newE b n line) = ((b n).length : Int) + 1 := rfl
  have e3 : eCnt (newE b n line) = cntB b + 1 := rfl
  have e4 : eLine (newE b n line) = line := rfl
  rw [follows_iff, e1, e2, e3, e4, Int.toNat_natCast]
  constructor
  · rintro ⟨_, _, _, h4, _, _, h7, _⟩; omega
  · rintro ⟨h1, h2⟩; exact ⟨by omega, by omega, by omega, by omega, hl, rfl, by omega, .inr (by omega)⟩
/-- What Do hands back, and what becomes of the post. -/
def DoPost (P n : Nat) (F : List Nat) (r : ByteArray × Int × Book) (w : World) (e : Ending) (w' : World) : Prop :=
  e = .returned (.tuple #[.string r.1, .int .i64 r.2.1]) ∧ ∃ F', PostAt w' P F' n r.2.2 ∧ NewOr w F F' ∧ Off F w w'
theorem newOr_refl (w : World) (F : List Nat) : NewOr w F F := fun _ h => .inl h
set_option maxRecDepth 100000 in
set_option maxHeartbeats 4000000 in
/-- Do of what is no deed. -/
theorem do_no (P n : Nat) (F : List Nat) (b : Book) (line : ByteArray) (hs : line.size ≤ 1000000) (w : World) (h : PostAt w P F n b) (hV : Vars w) (hd : Cmd.deedO (parseB line) = false) :
    Calls Tryz.prog 24 #[.pointer (some ⟨P, 0, none⟩), .string line] w (DoPost P n F (emp, 100, b) w) := by
  have HP := Lib.hid h
  obtain ⟨K, G, hP, hB, hF⟩ := id h
  have HN := Lib.hid (none_any P K n _ w hP)
  have HA := Lib.hid (parse_any line hs w hV)
  have HD := Lib.hid hd
  clear h hP hB hF hV hd
  unfold emp
  go_enter Tryz.func24, Tryz.ntmps24
  go_wp2_with fail
  refine HN.out.mono ?_
  rintro e w1 ⟨rfl, rfl⟩
  go_wp2_with fail
  refine HA.out.mono ?_
  rintro e w1 ⟨⟨pv, rfl, hpv⟩, hb1⟩
  have hta := assert_deed hpv w1
  rw [HD.out] at hta
  unfold ifV at hta
  simp only [Bool.false_eq_true, if_false] at hta
  have HB1 := Lib.hid hb1
  clear hpv hb1
  go_wp2
  go_ret2
  exact ⟨rfl, F, HP.out.below HB1.out, newOr_refl _ _, Off.of_below HB1.out⟩

/-! ### What Do leaves -/
theorem do_off {w W3 w4 w7 : World} {N n : Nat} {vs : Nat → Value} {b : Book} {e : Ent} {v' : Value} {F : List Nat} (hb : Below w.heap.size w W3) (ha : Added N n vs b e W3 v' w4) (hown : ∀ k, (vs n).ownBlock = some k → k ∈ F) (hN : w.heap.size ≤ N) (h47 : Below w4.heap.size w4 w7) : Off F w w7 := by
  have h1 := hb.size
  have h2 := ha.size
  have h3 := h47.size
  refine ⟨h47.os.trans (ha.os.trans hb.os), h47.tape.trans (ha.tape.trans hb.tape), h47.output.trans (ha.output.trans hb.output), by omega, fun k hk hF => ?_⟩
  exact (h47.block k (by omega)).trans ((ha.block k (by omega) (by omega) (fun e2 => hF (hown k e2))).trans (hb.block k hk))
theorem do_new {w W3 w4 w7 : World} {N n P K : Nat} {vs : Nat → Value} {b : Book} {e : Ent} {v' : Value} {F : List Nat} (hn : n < 4) (hb : Below w.heap.size w W3) (ha : Added N n vs b e W3 v' w4) (hF : F = P :: K :: blks (vs 0) (vs 1) (vs 2) (vs 3)) (hN : w.heap.size ≤ N) (hN3 : N < W3.heap.size) (h47 : Below w4.heap.size w4 w7)
    (hS : BookIs w K vs b) (hP : w.heap[P]? = some (.cells #[.pointer (some ⟨K, 0, none⟩), .int .i64 n] 81 (0, 0))) :
    ∃ F', PostAt (w7.setCell ⟨P, 0, none⟩ (.pointer (some ⟨N, 0, none⟩))) P F' n (addAt b n e) ∧ NewOr w F F' ∧ Off F w (w7.setCell ⟨P, 0, none⟩ (.pointer (some ⟨N, 0, none⟩))) := by
  have h1 := hb.size
  have h2 := ha.size
  have h3 := h47.size
  have hPlt : P < w.heap.size := (Array.getElem?_eq_some_iff.1 hP).1
  have hown : ∀ k, (vs n).ownBlock = some k → k ∈ F := fun k hk => by
    rw [hF]; simp only [List.mem_cons]; exact .inr (.inr (mem_blks.2 ⟨n, hn, hk⟩))
  have hoff := do_off hb ha hown hN h47
  have hnP : ∀ i, i < 4 → ∀ k, (vs i).ownBlock = some k → k ≠ P := fun i hi k hk e2 => by
    subst e2
    rcases (hS.list i hi).2 with ⟨h5, _⟩ | ⟨g', cap', cur, h5, _, h6, _⟩
    · rw [h5] at hk; cases hk
    · rw [h5] at hk
      have : g' = k := by simpa [Value.ownBlock] using hk
      subst this
      rw [hP] at h6
      simp at h6
  have hP7 : w7.heap[P]? = some (.cells #[.pointer (some ⟨K, 0, none⟩), .int .i64 n] 81 (0, 0)) :=
    (h47.block P (by omega)).trans ((ha.block P (by omega) (by omega) (fun e2 => hnP n hn P e2 rfl)).trans ((hb.block P hPlt).trans hP))
  have hset : ∀ k, k ≠ P → (w7.setCell ⟨P, 0, none⟩ (.pointer (some ⟨N, 0, none⟩))).heap[k]? = w7.heap[k]? := fun k hk => Below.heap_setCell _ _ _ k hk
  have hPx : (w7.setCell ⟨P, 0, none⟩ (.pointer (some ⟨N, 0, none⟩))).heap[P]? = some (.cells #[.pointer (some ⟨N, 0, none⟩), .int .i64 n] 81 (0, 0)) := by
    obtain ⟨hlt, hk⟩ := Array.getElem?_eq_some_iff.1 hP7
    show (w7.heap.modify P _)[P]? = _
    rw [Array.getElem?_eq_getElem (by rw [Array.size_modify]; exact hlt), Array.getElem_modify_self, hk]
    simp
  have hvlt : ∀ i, i < 4 → ∀ k, (vs i).ownBlock = some k → k < w.heap.size := fun i hi k hk => (hS.list i hi).lt hk
  have hown' : ∀ k, v'.ownBlock = some k → (vs n).ownBlock = some k ∨ W3.heap.size ≤ k := fun k hk => by
    rcases ha.own with h5 | ⟨g, h5, h6⟩
    · exact .inl (by rw [← h5]; exact hk)
    · rw [h5] at hk; injection hk with hk; exact .inr (by omega)
  have hSV : BookIs (w7.setCell ⟨P, 0, none⟩ (.pointer (some ⟨N, 0, none⟩))) N (setVs vs n v') (addAt b n e) := by
    have hv4 : ∀ k, v'.ownBlock = some k → k < w4.heap.size := fun k hk => ha.new.lt hk
    have hvP : ∀ k, v'.ownBlock = some k → k ≠ P := fun k hk => by
      rcases hown' k hk with h5 | h5
      · exact hnP n hn k h5
      · omega
    refine ⟨(hset N (by omega)).trans ((h47.block N (by omega)).trans ha.cells), fun i hi => ?_, fun i j hi hj hij g hg hg2 => ?_⟩
    · by_cases e2 : i = n
      · subst e2
        rw [setVs_same]
        unfold addAt
        rw [setB_same]
        exact ha.new.keep fun k hk => (hset k (hvP k hk)).trans (h47.block k (hv4 k hk))
      · rw [setVs_other _ _ e2]
        unfold addAt
        rw [setB_other _ _ e2]
        exact (ha.old i hi).keep fun k hk => (hset k (hnP i hi k hk)).trans (h47.block k (by have := hvlt i hi k hk; omega))
    · by_cases ei : i = n
      · subst ei
        rw [setVs_same] at hg
        rw [setVs_other _ _ (Ne.symm hij)] at hg2
        rcases hown' g hg with h5 | h5
        · exact hS.apart i j hi hj hij g h5 hg2
        · have := hvlt j hj g hg2; omega
      · rw [setVs_other _ _ ei] at hg
        by_cases ej : j = n
        · subst ej
          rw [setVs_same] at hg2
          rcases hown' g hg2 with h5 | h5
          · exact hS.apart i j hi hj hij g hg h5
          · have := hvlt i hi g hg; omega
        · rw [setVs_other _ _ ej] at hg2
          exact hS.apart i j hi hj hij g hg hg2
  refine ⟨P :: N :: blks (setVs vs n v' 0) (setVs vs n v' 1) (setVs vs n v' 2) (setVs vs n v' 3), ⟨N, _, hPx, hSV.at, rfl⟩, fun k hk => ?_, ⟨hoff.os, hoff.tape, hoff.output, by rw [World.size_setCell]; exact hoff.size, fun k hk hF2 => ?_⟩⟩
  · rcases List.mem_cons.1 hk with rfl | hk
    · exact .inl (by rw [hF]; simp)
    · rcases List.mem_cons.1 hk with rfl | hk
      · exact .inr hN
      · obtain ⟨i, hi, h5⟩ := mem_blks.1 hk
        by_cases ei : i = n
        · subst ei
          rw [setVs_same] at h5
          rcases hown' k h5 with h6 | h6
          · exact .inl (hown k h6)
          · exact .inr (by omega)
        · rw [setVs_other _ _ ei] at h5
          exact .inl (by rw [hF]; simp only [List.mem_cons]; exact .inr (.inr (mem_blks.2 ⟨i, hi, h5⟩)))
  · exact (hset k (fun e2 => hF2 (by rw [hF, e2]; simp))).trans (hoff.block k hk hF2)
theorem do_keep {w4 w7 : World} {P K n : Nat} {vs : Nat → Value} {b : Book} {F : List Nat} (hF : F = P :: K :: blks (vs 0) (vs 1) (vs 2) (vs 3)) (hS : BookIs w4 K vs b) (hP : w4.heap[P]? = some (.cells #[.pointer (some ⟨K, 0, none⟩), .int .i64 n] 81 (0, 0))) (h47 : Below w4.heap.size w4 w7) : PostAt w7 P F n b := by
  have : PostAt w4 P F n b := ⟨K, _, hP, hS.at, hF⟩
  exact this.below h47
end Go.Proofs.YtdfkaijeppdhaaaGreatDoor

/- Contracts: Play. -/
import Derived.Test.YtdfkaijeppdhaaaGreatDoorFk
namespace Go.Proofs.YtdfkaijeppdhaaaGreatDoor
open Go.RowKit Go.Shelf

/-- What Play hands back. -/
def PlayPost (outs : List ByteArray) (w : World) (e : Ending) (w' : World) : Prop :=
  ∃ v, e = .returned (.tuple #[v, .int .i64 0]) ∧ w'.ownsRow w.heap.size 9 1 v outs.length (outs.map Value.string) ∧ Below w.heap.size w w'
theorem str_types : (9 : Nat) ≠ 81 ∧ (9 : Nat) ≠ 96 ∧ (9 : Nat) ≠ 43 := by decide
theorem ptr_types : (33 : Nat) ≠ 81 ∧ (33 : Nat) ≠ 96 ∧ (33 : Nat) ≠ 43 := by decide
structure Made (w : World) (k : Nat) (o : Value) (ps : Nat → Pst) (wr : World) : Prop where
  row : wr.ownsRow w.heap.size 33 1 o k (ptrs ps k)
  posts : Posts wr k ps
  news : ∀ j, j < k → (ps j).n = j ∧ (ps j).b = empB
  below : Below w.heap.size w wr
  fresh : ∀ j, j < k → ∀ g ∈ (ps j).F, w.heap.size ≤ g
structure Played (askB : Book → ByteArray → ByteArray × Int) (lines : List ByteArray) (w : World) (S k : Nat) (cur : Array Value) (o : Value) (ps : Nat → Pst) (wr : World) : Prop where
  row : wr.ownsRow w.heap.size 9 1 o k ((playN askB lines k).1.map Value.string)
  posts : PostsAt wr S ps
  books : ∀ j, j < 4 → (ps j).b = (playN askB lines k).2 j
  below : Below w.heap.size w wr
  slice : wr.heap[S]? = some (.cells cur 33 (0, 0))
  fresh : ∀ g ∈ U ps, w.heap.size ≤ g
theorem Made.next {w : World} {k : Nat} {o : Value} {ps : Nat → Pst} {wr : World} (h : Made w k o ps wr) (hV : ∀ j, isVar j → j < w.heap.size) {w1 w2 : World} {p : Pst} {v' : Value} {ob : Obj} (hp : PostAt w1 p.P p.F p.n p.b) (hF : NewOr wr [] p.F) (hb : Below wr.heap.size wr w1) (hn : p.n = k ∧ p.b = empB)
    (hrow : w2.ownsRow w.heap.size 33 1 v' (k + 1) (ptrs ps k ++ [.pointer (some ⟨p.P, 0, none⟩)])) (hg : (w1.alloc ob).grownBy w2 o.ownBlock) : Made w (k + 1) v' (setS ps k p) w2 := by
  have hr1 : (w1.alloc ob).ownsRow w.heap.size 33 1 o k (ptrs ps k) := own_below h.row (hb.alloc hb.size _)
  have hP1 := h.posts.grow hp hF hb
  have hP2 := hP1.below ((Below.refl _ w1).alloc (Nat.le_refl _) ob)
  have hsz := h.below.size
  have hsz2 := hb.size
  refine ⟨by rw [ptrs_snoc]; exact hrow, hP2.grown hr1 ptr_types hV hg, fun j hj => ?_, ?_, fun j hj g hg2 => ?_⟩
  · by_cases e : j = k
    · subst e; rw [setS_same]; exact hn
    · rw [setS_other _ _ e]; exact h.news j (by omega)
  · exact below_append (h.below.trans (hb.mono hsz)) (by omega) (own_below h.row hb) (Nat.le_refl _) hg
  · by_cases e : j = k
    · subst e
      rw [setS_same] at hg2
      have := (hF g hg2).resolve_left (by simp)
      omega
    · rw [setS_other _ _ e] at hg2
      exact h.fresh j (by omega) g hg2
theorem Played.next {askB : Book → ByteArray → ByteArray × Int} {lines : List ByteArray} {w : World} {S k : Nat} {cur : Array Value} {o : Value} {ps : Nat → Pst} {wr : World} (h : Played askB lines w S k cur o ps wr) (hV : ∀ j, isVar j → j < w.heap.size) {w1 w1' w2 : World} {v' : Value} {ob : Obj}
    (hT : Turn wr S ps (doesB askB (fun j => (ps j).b) (lines.getD k emp)).2 w1) (hb1 : Below w1.heap.size w1 w1')
    (hrow : w2.ownsRow w.heap.size 9 1 v' (k + 1) ((playN askB lines k).1.map Value.string ++ [.string (playA (doesB askB (fun j => (ps j).b) (lines.getD k emp)).1)])) (hg : (w1'.alloc ob).grownBy w2 o.ownBlock) : ∃ ps', Played askB lines w S (k + 1) cur v' ps' w2 := by
  obtain ⟨ps', h1, h2, h3, h4⟩ := (hT.more (hb1.alloc hb1.size ob)).ex
  have hsz := h.below.size
  have hrx : (w1'.alloc ob).ownsRow w.heap.size 9 1 o k ((playN askB lines k).1.map Value.string) := own_keep h.row fun g hg0 => h4.block g (by have := h.row.lt g hg0; exact this.2) fun hm => by
    obtain ⟨i, hi, hm⟩ := mem_U.1 hm
    exact (h.posts.posts.post i hi).not_own h.row str_types hm hg0
  have hfr : ∀ g ∈ U ps', w.heap.size ≤ g := fun g hm => (h3 g hm).elim (h.fresh g) (fun h9 => Nat.le_trans hsz h9)
  have hbx : Below w.heap.size w (w1'.alloc ob) := h.below.trans (h4.below hsz h.fresh)
  have hcg := doesB_congr askB h.books (lines.getD k emp)
  have hS : (w1'.alloc ob).heap[S]? = some (.cells cur 33 (0, 0)) := (h4.block S h.posts.lt h.posts.own).trans h.slice
  have hoS : some S ≠ o.ownBlock := fun e => by
    obtain ⟨c2, h9⟩ := own_type hrx e.symm
    rw [hS] at h9
    simp at h9
  have hSg : w2.heap[S]? = (w1'.alloc ob).heap[S]? := hg.block S (Array.getElem?_eq_some_iff.1 hS).1 hoS
  refine ⟨ps', ⟨by
    have : (playN askB lines (k + 1)).1 = (playN askB lines k).1 ++ [playA (doesB askB (fun j => (ps j).b) (lines.getD k emp)).1] := by rw [hcg.1]; rfl
    rw [this, List.map_append]; exact hrow, ⟨h1.posts.grown hrx str_types hV hg, fun j hj => ?_, h1.own, h1.ok, h1.num⟩, fun j hj => ?_, ?_, hSg.trans hS, hfr⟩⟩
  · rw [World.cell?_of_block hSg]; exact h1.row j hj
  · rw [h2 j hj, hcg.2 j hj]; rfl
  · exact hbx.grown hg (by have := hbx.size; omega) (fun g e => (hrx.lt g e).1)
set_option maxRecDepth 100000 in
set_option maxHeartbeats 8000000 in
theorem play_any (askB : Book → ByteArray → ByteArray × Int) (hsm : ∀ b l, 0 ≤ (askB b l).2 ∧ (askB b l).2 ≤ 1000) (lv : Value) (lines : List ByteArray) (w : World) (hL : StrsAt w lv lines) (hl : lines.length ≤ 100) (hsz : ∀ x ∈ lines, x.size ≤ 1000000) (hV : Vars w)
    (hask : ∀ k, k < lines.length → ∀ P n F b W, n < 4 → PostAt W P F n b → BookOk b → Vars W → Cmd.askO (parseB (restW (lines.getD k emp))) = true → Calls Tryz.prog 36 #[.pointer (some ⟨P, 0, none⟩), .string (restW (lines.getD k emp))] W (AnsPost (askB b (restW (lines.getD k emp))) W)) :
    Calls Tryz.prog 17 #[lv] w (PlayPost (playN askB lines lines.length).1 w) := by
  obtain ⟨i0, hi0, hz0, hz1, hz2⟩ := info_parts Tryz.infoPtr
  obtain ⟨i1, hi1, hy0, hy1, hy2⟩ := info_parts Tryz.infoStr
  have HV := Lib.hid hV
  have HVL := Lib.hid (fun j hj => hV.lt (k := j) hj)
  have HASK := Lib.hid hask
  have HSZ := Lib.hid hsz
  obtain ⟨la, lcap, rfl, hcap, hcc, hq⟩ := hL
  have HQ := Lib.hid hq
  obtain ⟨nl, hnl⟩ : ∃ nl, nl = lines.length := ⟨_, rfl⟩
  have HN := Lib.hid hnl
  rw [← hnl] at hcap hl ⊢
  have HLI : Hid (∀ k, k < nl → ∃ b off, la = some ⟨b, off, none⟩ ∧ w.cell? ⟨b, off + k, none⟩ = some (.string (lines.getD k emp))) := Lib.hid (fun k hk => by
    obtain ⟨b, off, h1, h2⟩ := hq (by omega)
    exact ⟨b, off, h1, h2 k (by omega)⟩)
  clear hnl hV hask hsz hq
  go_enter Tryz.func17, Tryz.ntmps17
  go_wp2
  go_loopw [4, 16] (fun o i wr => ∃ (k : Nat) (ps : Nat → Pst), k ≤ 4 ∧ i = .int .i64 k ∧ Hid (Made w k o ps wr)) (fun _ i _ => 4 - (intOf i).toNat)
  case atStart => exact ⟨0, fun _ => ⟨0, [], 0, empB⟩, by omega, rfl, Lib.hid ⟨World.ownsRow_nil _ _ _ _, Posts.nil HV.out _, fun j hj => by omega, Below.refl _ _, fun j hj => by omega⟩⟩
  case round =>
    obtain ⟨k, ps, hk, rfl, hm⟩ := hrel
    by_cases hlt : k < 4
    · have hlt2 : (k : Int) < 4 := by omega
      have hrow := hm.out.row
      obtain ⟨oa, oc, rfl⟩ := own_shape hrow
      have hb1 : Below wr.heap.size wr ((wr.alloc (.cells #[.slice none 0 0, .slice none 0 0, .slice none 0 0, .slice none 0 0] 96)).alloc (.cells #[.pointer (some ⟨wr.heap.size, 0, none⟩), .int .i64 k] 81)) := ((Below.refl _ _).alloc (Nat.le_refl _) _).alloc (by simp) _
      have HNP := Lib.hid (new_post k wr)
      have HNW := Lib.hid (new_any k hlt wr)
      have hszr := hm.out.below.size
      clear hrow
      go_wp2_with fail
      refine HNW.out.mono ?_
      rintro e w1 ⟨rfl, hw1⟩
      rw [← hw1] at hb1 HNP
      have HO1 := Lib.hid (own_below hm.out.row hb1)
      have HB1 := Lib.hid hb1
      have hsz2 : w.heap.size ≤ w1.heap.size := Nat.le_trans hszr hb1.size
      clear hw1 hb1
      go_wp2_with (at_builtin; refine wpList_append_own _ rfl _ _ 31 rfl w.heap.size 33 i0 (.pointer none) 1 8 Tryz.underlying31 hi0 hz0 hz1 hz2 rfl (by decide) _ _ _ rfl (HO1.out.alloc _) ⟨w1.heap.size, 0, none⟩ 1 1 [.pointer (some ⟨wr.heap.size + 1, 0, none⟩)] rfl rfl ?c1 ?c2 ?c3 ?c4 ?c5 ?_)
      case c1 => exact (cell_one_new _ _ _)
      case c2 => intro u hu; simp at hu; subst hu; rfl
      case c3 => unfold maxLen; omega
      case c4 => omega
      case c5 => simp; omega
      · intro v' w2 hown' hgrow _
        have HM := Lib.hid (hm.out.next HVL.out (p := ⟨wr.heap.size + 1, [wr.heap.size + 1, wr.heap.size], k, empB⟩) HNP.out (fun g hg => .inr (by simp at hg; omega)) HB1.out ⟨rfl, rfl⟩ hown' hgrow)
        clear hown' hgrow
        go_wp2
        go_roundw
        case rel => exact ⟨k + 1, _, by omega, by go_num, HM⟩
        case measure => simp [intOf]; omega
    · have e : k = 4 := by omega
      subst e
      rw [show ((4 : Nat) : Int) = 4 from rfl]
      have hrow := hm.out.row
      obtain ⟨S, cap, cur, hos, _, hScur, _⟩ := hrow.2.resolve_left (fun h => by simp at h)
      subst hos
      have HP0 : Hid (Played askB lines w S 0 cur (.slice none 0 0) ps wr) := Lib.hid (by
        refine ⟨World.ownsRow_nil _ _ _ _, ⟨hm.out.posts, fun j hj => ?_, fun hmm => ?_, fun j hj => ?_, fun j hj => (hm.out.news j hj).1⟩, fun j hj => (hm.out.news j hj).2, hm.out.below, hScur, fun g hg => ?_⟩
        · have h9 := hrow.cellAt j (by omega)
          rw [h9, ptrs_at ps hj]
        · obtain ⟨i, hi, hmm⟩ := mem_U.1 hmm
          exact (hm.out.posts.post i hi).not_own hrow ptr_types hmm rfl
        · rw [(hm.out.news j hj).2]; exact empB_ok
        · obtain ⟨i, hi, hg⟩ := mem_U.1 hg
          exact hm.out.fresh i hi g hg)
      clear hrow hScur
      go_wp2
      obtain ⟨wo, hwo⟩ : ∃ wo, wo = wr := ⟨_, rfl⟩
      subst hwo
      go_loopw [8, 31] (fun o i wr => ∃ (k : Nat) (ps : Nat → Pst), k ≤ nl ∧ i = .int .i64 k ∧ Hid (Played askB lines w S k cur o ps wr)) (fun _ i _ => nl - (intOf i).toNat)
      case atStart => exact ⟨0, _, Nat.zero_le _, rfl, HP0⟩
      case round =>
        obtain ⟨k, ps, hk, rfl, hp⟩ := hrel
        have hrow := hp.out.row
        obtain ⟨oa, oc, rfl⟩ := own_shape hrow
        clear hrow
        by_cases hlt : k < nl
        · obtain ⟨lb, loff, rfl, hc0⟩ := HLI.out k hlt
          have hc := keep_cell hp.out.below hc0
          have hxs := HSZ.out (lines.getD k emp) (by rw [List.getD_eq_getElem?_getD, List.getElem?_eq_getElem (by rw [← HN.out]; exact hlt)]; exact List.getElem_mem _)
          have hszr := hp.out.below.size
          have HD := Lib.hid (does_any askB (lines.getD k emp) hxs wr S cap ps hp.out.posts (fun i W hi _ hq hb => HASK.out k (by rw [← HN.out]; exact hlt) _ i _ _ W hi (by have h9 := (hp.out.posts.below hb).posts.post i hi; rw [hp.out.posts.num i hi] at h9; exact h9) (hp.out.posts.ok i hi) (hp.out.posts.posts.vars.below hb) hq))
          have HER := Lib.hid (doesB_err askB hsm (fun j => (ps j).b) (lines.getD k emp))
          have HNXT := Lib.hid (fun w1 w1' w2 v' ob (hT : Turn wr S ps (doesB askB (fun j => (ps j).b) (lines.getD k emp)).2 w1) (hb1 : Below w1.heap.size w1 w1') hrow hg => hp.out.next HVL.out (w1 := w1) (w1' := w1') (w2 := w2) (v' := v') (ob := ob) hT hb1 hrow hg)
          have hpl := play_len askB lines k
          unfold DoesPost at HD
          generalize lines.getD k emp = x at *
          generalize doesB askB (fun j => (ps j).b) x = r at *
          obtain ⟨⟨ra, re⟩, rb⟩ := r
          simp only at HER
          clear hc0
          by_cases hz : re = 0
          · subst hz
            go_wp2_with fail
            refine HD.out.mono ?_
            rintro e w1 ⟨rfl, hT⟩
            have HT := Lib.hid hT
            have HO1 : Hid (w1.ownsRow w.heap.size 9 1 (.slice oa k oc) k ((playN askB lines k).1.map Value.string)) := Lib.hid (by
              obtain ⟨ps', h1, h2, h3, h4⟩ := hT.ex
              exact own_keep hp.out.row fun g hg0 => h4.block g (hp.out.row.lt g hg0).2 fun hm => by
                obtain ⟨i, hi, hm⟩ := mem_U.1 hm
                exact (hp.out.posts.posts.post i hi).not_own hp.out.row str_types hm hg0)
            have hsz2 : w.heap.size ≤ w1.heap.size := by obtain ⟨ps', h1, h2, h3, h4⟩ := hT.ex; have := h4.size; omega
            clear hT
            go_wp2_with (at_builtin; refine wpList_append_own _ rfl _ _ 22 rfl w.heap.size 9 i1 (.string ⟨#[]⟩) 1 16 Tryz.underlying22 hi1 hy0 hy1 hy2 rfl (by decide) _ _ _ rfl (HO1.out.alloc _) ⟨w1.heap.size, 0, none⟩ 1 1 [.string ra] rfl rfl ?c1 ?c2 ?c3 ?c4 ?c5 ?_)
            case c1 => exact (cell_one_new _ _ _)
            case c2 => intro u hu; simp at hu; subst hu; rfl
            case c3 => unfold maxLen; omega
            case c4 => omega
            case c5 => simp; omega
            · intro v' w2 hown' hgrow _
              have HM := Lib.hid (HNXT.out _ _ w2 v' _ HT.out (Below.refl _ _) hown' hgrow)
              obtain ⟨psn, h9⟩ := HM.out
              have HMN := Lib.hid h9
              clear hown' hgrow HM h9
              go_wp2
              go_roundw
              case rel => exact ⟨k + 1, psn, by omega, by go_num, HMN⟩
              case measure => simp [intOf]; omega
          · have z0 : (re != 0) = true := by simpa using hz
            go_wp2_with fail
            refine HD.out.mono ?_
            rintro e w1 ⟨rfl, hT⟩
            have HV1 : Hid (Vars w1) := Lib.hid (by obtain ⟨ps', h1, _⟩ := hT.ex; exact h1.posts.vars)
            have HT := Lib.hid hT
            have HO1 : Hid (w1.ownsRow w.heap.size 9 1 (.slice oa k oc) k ((playN askB lines k).1.map Value.string)) := Lib.hid (by
              obtain ⟨ps', h1, h2, h3, h4⟩ := hT.ex
              exact own_keep hp.out.row fun g hg0 => h4.block g (hp.out.row.lt g hg0).2 fun hm => by
                obtain ⟨i, hi, hm⟩ := mem_U.1 hm
                exact (hp.out.posts.posts.post i hi).not_own hp.out.row str_types hm hg0)
            have hsz2 : w.heap.size ≤ w1.heap.size := by obtain ⟨ps', h1, h2, h3, h4⟩ := hT.ex; have := h4.size; omega
            have HI := Lib.hid (itoa_any re (by have := HER.out; omega) (by have := HER.out; omega) w1 HV1.out)
            have HPA : Hid (playA (ra, re) = (⟨#[101, 114, 114, 111, 114, 32]⟩ : ByteArray) ++ itoaB re) := Lib.hid (by unfold playA errW; rw [if_neg hz])
            have hadd : ¬ 9223372036854775807 < 6 + (itoaB re).size := by
              have h9 := itoa_short (n := re) HER.out.1 (by have := HER.out; omega)
              rw [ba_size, show (itoaB re).data.toList = Lib.itoa re from rfl]; omega
            rw [HPA.out] at HNXT
            clear hT
            go_wp2_with fail
            refine HI.out.mono ?_
            rintro e w3 ⟨rfl, hb3⟩
            have HO3 := Lib.hid (own_below HO1.out hb3)
            have hsz3 : w.heap.size ≤ w3.heap.size := Nat.le_trans hsz2 hb3.size
            have HB3 := Lib.hid hb3
            clear hb3
            go_wp2_with (at_builtin; refine wpList_append_own _ rfl _ _ 22 rfl w.heap.size 9 i1 (.string ⟨#[]⟩) 1 16 Tryz.underlying22 hi1 hy0 hy1 hy2 rfl (by decide) _ _ _ rfl (HO3.out.alloc _) ⟨w3.heap.size, 0, none⟩ 1 1 [.string ((⟨#[101, 114, 114, 111, 114, 32]⟩ : ByteArray) ++ itoaB re)] rfl rfl ?c1 ?c2 ?c3 ?c4 ?c5 ?_)
            case c1 => exact (cell_one_new _ _ _)
            case c2 => intro u hu; simp at hu; subst hu; rfl
            case c3 => unfold maxLen; omega
            case c4 => omega
            case c5 => simp; omega
            · intro v' w2 hown' hgrow _
              have HM := Lib.hid (HNXT.out _ _ w2 v' _ HT.out HB3.out hown' hgrow)
              obtain ⟨psn, h9⟩ := HM.out
              have HMN := Lib.hid h9
              clear hown' hgrow HM h9
              go_wp2
              go_roundw
              case rel => exact ⟨k + 1, psn, by omega, by go_num, HMN⟩
              case measure => simp [intOf]; omega
        · have e : k = nl := by omega
          subst e
          have HR := Lib.hid hp.out.row
          have HBE := Lib.hid hp.out.below
          have hpl := play_len askB lines k
          go_wp2
          go_ret2
          exact ⟨_, rfl, by rw [hpl]; exact HR.out, HBE.out⟩
end Go.Proofs.YtdfkaijeppdhaaaGreatDoor

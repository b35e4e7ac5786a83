/- Contracts: what is read off the tree of the reference: the way to levels, and the first levels with an amount. -/
import Derived.Test.YtikcpfpeoofppaaGr
import Derived.Test.YtikcpfpeoofppaaNu
import Derived.Test.YtikcpfpeoofppaaLawG
import Derived.Deep.RegionHeld3
import Derived.Deep.AppendLies
namespace Go.Proofs.Ytikcpfpeoofppaa
open Go.RowKit

/-- The entry with a number: what the tables say of it. -/
theorem tree_at {t l : List Int} {n0 Bx go cap gf gb : Nat} {es : List Ent} {W : World} (hg : Good t l es) (h : TreeM n0 Bx go cap gf gb (sizeR t) (ordL t es) (fromL t es) (byL t es) W) {e : Ent} (he : e ∈ es) :
    W.cell? ⟨gf, numR t e.1, none⟩ = some (.int .i64 (frontN t e)) ∧ W.cell? ⟨gb, numR t e.1 * 3, none⟩ = some (.int .i64 (lastD e).1) ∧ W.cell? ⟨gb, numR t e.1 * 3 + 1, none⟩ = some (.int .i64 (lastD e).2.1) ∧ W.cell? ⟨gb, numR t e.1 * 3 + 2, none⟩ = some (.int .i64 (lastD e).2.2) := by
  have hn := numR_lt (hg.lev e he)
  have h1 := (h.frm (fromL_len t es) hn).1
  obtain ⟨⟨h2, h3, h4⟩, _⟩ := h.deed (byL_len t es) hn
  rw [fromL_at hg he] at h1
  rw [byL_at hg he] at h2 h3 h4
  exact ⟨h1, h2, h3, h4⟩

theorem KB.call {w W w2 : World} (h : KB w W) (hb : Below W.heap.size W w2) : KB w w2 := Below.trans h (hb.mono h.size)
theorem KB.tree {w W : World} (h : KB w W) {n0 Bx go cap gf gb N : Nat} {o f : List Int} {b : List Deed} (ht : TreeM n0 Bx go cap gf gb N o f b w) : TreeM n0 Bx go cap gf gb N o f b W := ht.below h

theorem own_lower {B B' n : Nat} {W : World} {v : Value} {e : TypeId} {sz : Nat} {xs : List Value} (h : W.ownsRow B e sz v n xs) (hB : B' ≤ B) : W.ownsRow B' e sz v n xs := by
  refine ⟨h.1, ?_⟩
  rcases h.2 with h1 | ⟨g, cap, cur, rfl, hb, hg, hr⟩
  · exact .inl h1
  · exact .inr ⟨g, cap, cur, rfl, by omega, hg, hr⟩

/-- A deed that lies in the block behind w. -/
def KBN (w W : World) (d : Deed) : Prop := ∀ j u, (deedC d)[j]? = some u → W.cell? ((⟨w.heap.size, 0, none⟩ : Addr).add j) = some u
theorem KBN.new (w : World) (d1 d2 d3 : Int) : KBN w (w.drew.alloc (.cells #[.int .i64 d1, .int .i64 d2, .int .i64 d3] 43)) (d1, d2, d3) := fun j u hu => cell3_new _ _ _ _ _ rfl j u hu

/-- The deeds of an entry: the way to its levels. -/
def WayAt (t : List Int) (n0 Bx go cap gf gb : Nat) (es : List Ent) (k : Nat) : Prop := ∀ (e : Ent), e ∈ es → e.2.1.length = k → k ≤ 28561 → ∀ w : World, TreeM n0 Bx go cap gf gb (sizeR t) (ordL t es) (fromL t es) (byL t es) w →
    Calls Try.prog 66 #[.pointer (some ⟨Bx, 0, none⟩), .int .i64 (numR t e.1 : Nat)] w fun e' w' => ∃ v, e' = .returned v ∧ w'.ownsRow w.heap.size 43 3 v k (flatD e.2.1) ∧ Below w.heap.size w w'

set_option maxRecDepth 100000 in
set_option maxHeartbeats 1000000 in
theorem rWay_zero {t l : List Int} {n0 Bx go cap gf gb : Nat} {es : List Ent} (ht : Tvl t) (hg : Good t l es) : WayAt t n0 Bx go cap gf gb es 0 := by
  intro e he hk _ w h
  obtain ⟨h1, _, _, _⟩ := tree_at hg h he
  have hn := numR_lt (hg.lev e he)
  have c1 := h.cells.2.1
  have hnil : e.2.1 = [] := List.eq_nil_of_length_eq_zero hk
  rw [show frontN t e = -1 by unfold frontN; rw [if_pos hnil]] at h1
  have HN := Lib.hid hnil
  generalize numR t e.1 = n at *
  generalize sizeR t = N at *
  clear hk hnil h
  go_enter Try.func66, Try.ntmps66
  go_wp2
  go_ret
  exact ⟨_, rfl, by rw [HN.out]; exact World.ownsRow_nil _ _ _ _, Below.refl _ _⟩

set_option maxRecDepth 100000 in
set_option maxHeartbeats 4000000 in
theorem rWay_succ {t l : List Int} {n0 Bx go cap gf gb : Nat} {es : List Ent} (ht : Tvl t) (hg : Good t l es) (k : Nat) (IH0 : WayAt t n0 Bx go cap gf gb es k) : WayAt t n0 Bx go cap gf gb es (k + 1) := by
  intro e he hk hkb w h
  rcases hg.par e he with rfl | ⟨p, hp, d, hd, rfl⟩
  · simp at hk
  obtain ⟨h1, h2, h3, h4⟩ := tree_at hg h he
  have hpk : p.2.1.length = k := by simpa using hk
  have IH := Lib.hid (fun W (hb : KB w W) => (IH0 p hp hpk (by omega) W (KB.tree hb h)).mono (R' := fun e' w' => ∃ v, e' = .returned v ∧ w'.ownsRow w.heap.size 43 3 v k (flatD p.2.1) ∧ (KBN w W d → ∀ j u, (deedC d)[j]? = some u → w'.cell? ((⟨w.heap.size, 0, none⟩ : Addr).add j) = some u) ∧ KB w w') (fun e' w' ⟨v, h1, h2, h3⟩ => ⟨v, h1, own_lower h2 hb.size, fun hn j u hu => keep_cell h3 (hn j u hu), hb.call h3⟩))
  have hn := numR_lt (hg.lev _ he)
  have hnp := numR_lt (hg.lev p hp)
  rw [front_new] at h1
  rw [lastD_snoc] at h2 h3 h4
  simp only at h1 h2 h3 h4 hn ⊢
  have b1 := h.cells.2.1
  have b2 := h.cells.2.2.1
  have HF := Lib.hid (show flatD (p.2.1 ++ [d]) = flatD p.2.1 ++ deedC d by rw [flatD_append]; simp [flatD])
  have s2 := sizeR_le ht
  obtain ⟨d1, d2, d3⟩ := d
  simp only at h2 h3 h4
  unfold deedC at HF
  simp only at HF
  generalize numR t (doneL t p.1 (d1, d2, d3)) = n at *
  generalize numR t p.1 = m at *
  generalize sizeR t = N at *
  have r1 : ∀ W, KB w W → W.cell? ⟨Bx, 1, none⟩ = some (.slice (some ⟨gf, 0, none⟩) N N) := fun W hW => keep_cell hW b1
  have r2 : ∀ W, KB w W → W.cell? ⟨Bx, 2, none⟩ = some (.slice (some ⟨gb, 0, none⟩) N N) := fun W hW => keep_cell hW b2
  have r3 : ∀ W, KB w W → W.cell? ⟨gf, n, none⟩ = some (.int .i64 m) := fun W hW => keep_cell hW h1
  have r4 : ∀ W, KB w W → W.cell? ⟨gb, n * 3, none⟩ = some (.int .i64 d1) := fun W hW => keep_cell hW h2
  have r5 : ∀ W, KB w W → W.cell? ⟨gb, n * 3 + 1, none⟩ = some (.int .i64 d2) := fun W hW => keep_cell hW h3
  have r6 : ∀ W, KB w W → W.cell? ⟨gb, n * 3 + 2, none⟩ = some (.int .i64 d3) := fun W hW => keep_cell hW h4
  have hni : (n : Int) < (N : Int) := by omega
  have hmi : ¬ ((m : Int) < 0) := by omega
  obtain ⟨i0, hi0, hz0, hz1, hz2⟩ := info_parts Try.infoDeed
  have HV1 := Lib.hid (show ∀ u ∈ [Value.int .i64 d1, .int .i64 d2, .int .i64 d3], u.oneCell' = true by simp [Value.oneCell'])
  have HM1 := Lib.hid (show k + 1 ≤ maxLen by unfold maxLen; omega)
  have HM2 := Lib.hid (show (k + 1) * 24 ≤ 140737488355328 by omega)
  clear hk hpk h hp hd he
  go_enter Try.func66, Try.ntmps66
  go_wp2
  go_region_held3 (fun W => KB w W) (repeat (first | assumption | exact KB.refl _ | apply KB.alloc | apply KB.drew))
    (first
      | (go_at_call 66; refine (IH.out _ ?_).mono ?_; (first | exact KB.drew (KB.refl _) | exact KB.drew (KB.alloc (KB.refl _) _) | exact KB.alloc (KB.drew (KB.refl _)) _ | exact KB.alloc (KB.refl _) _ | exact KB.refl _); rintro e w2 ⟨v2, rfl, hrow2, hnw, hbW⟩)
      | (refine step_append_lies _ (by rfl) _ _ _ (by rfl) w.heap.size 43 i0 _ 3 24 Try.underlying22 hi0 hz0 hz1 hz2 rfl (by decide) _ _ _ (by rfl) (hrow2.alloc _) ⟨w2.heap.size, 0, none⟩ 1 1 [.int .i64 d1, .int .i64 d2, .int .i64 d3] (by rfl) (by rfl) (cell3_new _ _ _ _ _ rfl) HV1.out (by decide) HM1.out HM2.out (KB.alloc hbW _).size (w2.heap.size + 1) (World.size_alloc _ _) ?_; intro gg cp w3 hown' hgrow hat hlt3; have hB3 : KB w w3 := below_append hbW hbW.size hrow2 hgrow)
      | (refine step_append_lies _ (by rfl) _ _ _ (by rfl) w.heap.size 43 i0 _ 3 24 Try.underlying22 hi0 hz0 hz1 hz2 rfl (by decide) _ _ _ (by rfl) hrow2 ⟨w.heap.size, 0, none⟩ 1 1 [.int .i64 d1, .int .i64 d2, .int .i64 d3] (by rfl) (by rfl) (hnw (KBN.new w _ _ _)) HV1.out (by decide) HM1.out HM2.out hbW.size w2.heap.size rfl ?_; intro gg cp w3 hown' hgrow hat hlt3; have hB3 : KB w w3 := hbW.grown hgrow hbW.size (fun i e => (hrow2.lt i e).1))
      | fail)
  all_goals (
    have HR := Lib.hid hown'
    have HB := Lib.hid hB3
    clear hown' hB3 hrow2 hgrow hat hlt3 hnw hbW
    go_wp2
    go_ret
    refine ⟨_, rfl, ?_, HB.out⟩
    rw [HF.out]
    exact HR.out)

theorem rWay_all {t l : List Int} {n0 Bx go cap gf gb : Nat} {es : List Ent} (ht : Tvl t) (hg : Good t l es) : ∀ k, WayAt t n0 Bx go cap gf gb es k
  | 0 => rWay_zero ht hg
  | k + 1 => rWay_succ ht hg k (rWay_all ht hg k)

theorem ent_len {t l : List Int} {es : List Ent} (hg : Good t l es) {e : Ent} (he : e ∈ es) : e.2.1.length < es.length := by
  obtain ⟨j, hj, rfl⟩ := List.getElem_of_mem he
  have := hg.len_le (j + 1) j (by omega) hj
  rw [List.getD_eq_getElem?_getD, List.getElem?_eq_getElem hj] at this
  simp only [Option.getD_some] at this
  omega

theorem rWay_any {t l : List Int} {n0 Bx go cap gf gb : Nat} {es : List Ent} (ht : Tvl t) (hg : Good t l es) {e : Ent} (he : e ∈ es) (w : World) (h : TreeM n0 Bx go cap gf gb (sizeR t) (ordL t es) (fromL t es) (byL t es) w) :
    Calls Try.prog 66 #[.pointer (some ⟨Bx, 0, none⟩), .int .i64 (numR t e.1 : Nat)] w fun e' w' => ∃ v, e' = .returned v ∧ DeedsAt w' v e.2.1 ∧ Below w.heap.size w w' := by
  have h1 := ent_len hg he
  have h2 := good_len hg
  have h3 := sizeR_le ht
  refine (rWay_all ht hg _ e he rfl (by omega) w h).mono ?_
  rintro e' w' ⟨v, rfl, hr, hb⟩
  exact ⟨v, rfl, own_deeds hr (by omega), hb⟩

/-- The number of the first entry with an amount; -1: there is none. -/
def hadN (t : List Int) (es : List Ent) (g : List Int → Bool) : Int := match hit es g with | some e => (numR t e.1 : Nat) | none => -1

set_option maxRecDepth 100000 in
set_option maxHeartbeats 2000000 in
theorem rHad_any {t l : List Int} {n0 Bx go cap gf gb : Nat} {es : List Ent} (v : Value) (i a : Int) (ht : Tvl t) (hg : Good t l es) (hi : 0 ≤ i ∧ i < t.length) (w : World) (hv : IntsAt w v t) (h : TreeM n0 Bx go cap gf gb (sizeR t) (ordL t es) (fromL t es) (byL t es) w) :
    Calls Try.prog 65 #[.pointer (some ⟨Bx, 0, none⟩), v, .int .i64 i, .int .i64 a] w fun e' w' => e' = .returned (.int .i64 (hadN t es (amtG i a))) ∧ Below w.heap.size w w' := by
  have V := Lib.hid hv
  have H := Lib.hid h
  have HG := Lib.hid hg
  obtain ⟨j, rfl⟩ := Int.eq_ofNat_of_zero_le hi.1
  have hjt : j < t.length := by omega
  have hel : es.length ≤ 28561 := by have h1 := good_len hg; have h2 := sizeR_le ht; omega
  have hlo := ht.lo
  have hhi := ht.hi
  clear hv h hi
  obtain ⟨a0, c0, rfl, hl0, _⟩ := V.out
  go_enter Try.func65, Try.ntmps65
  go_wp2
  go_loopw [9] (fun o wr => ∃ k : Nat, k ≤ es.length ∧ o = .int .i64 k ∧ Hid (∀ m, m < k → amtG j a (es.getD m noE).1 = false) ∧ Below w.heap.size w wr) (fun o _ => es.length - (intOf o).toNat)
  case atStart => exact ⟨0, Nat.zero_le _, rfl, Lib.hid (fun m hm => by omega), Below.refl _ _⟩
  case round =>
    obtain ⟨k, hk, rfl, NH, hbel⟩ := hrel
    have HT := H.out.below hbel
    have b0 := HT.cells.1
    rw [ordL_len] at b0
    by_cases hlt : k < es.length
    · have oi := HT.ord (i := k) (by rw [ordL_len]; exact hlt)
      rw [ordL_at hlt] at oi
      have hxl := hg.lev _ (getD_mem hlt noE)
      have RL := Lib.hid (rLevels_own _ t (es.getD k noE).1 wr (V.out.below hbel) ht hxl)
      have NS := Lib.hid (fun (h : (es.getD k noE).1.getD j 0 ≠ a) => show ∀ m, m < k + 1 → amtG j a (es.getD m noE).1 = false from fun m hm => by
        rcases Nat.lt_succ_iff_lt_or_eq.1 hm with h' | rfl
        · exact NH.out m h'
        · unfold amtG; rw [Int.toNat_natCast]; exact beq_eq_false_iff_ne.2 h)
      have YS := Lib.hid (fun (h : (es.getD k noE).1.getD j 0 = a) => show hadN t es (amtG j a) = (numR t (es.getD k noE).1 : Nat) by
        unfold hadN hit
        rw [find_at (fun e : Ent => amtG j a e.1) es k noE hlt NH.out (by unfold amtG; rw [Int.toNat_natCast]; exact beq_iff_eq.2 h)])
      have HXL := Lib.hid hxl
      have hlt' : (k : Int) < (es.length : Int) := by omega
      generalize es.getD k noE = x at *
      generalize hnx : numR t x.1 = nx at *
      have HT' := Lib.hid HT
      clear hnx hxl HT
      go_wp2_with fail
      refine RL.out.mono ?_
      rintro e w7 ⟨rfl, hO7, hb7⟩
      have x7 := hO7.cell j (by rw [HXL.out.1]; exact hjt)
      have oi7 := keep_cell hb7 oi
      have b07 := keep_cell hb7 b0
      have hjt' : (j : Int) < (t.length : Int) := by omega
      have HB7 := Lib.hid (hbel.trans (hb7.mono hbel.size))
      clear hO7 hb7 RL
      by_cases hx : x.1.getD j 0 = a
      · rw [hx] at x7
        have Y := Lib.hid (YS.out hx)
        clear YS NS hx oi b0
        go_wp2
        go_ret
        exact ⟨ret_i Y.out.symm, HB7.out⟩
      · have Y := Lib.hid (NS.out hx)
        have hxf := beq_eq_false_iff_ne.2 hx
        generalize x.1.getD j 0 = z at *
        clear YS NS hx oi b0
        go_wp2
        go_roundw
        case rel => exact ⟨k + 1, by omega, by go_num, Y, HB7.out⟩
        case measure => simp [intOf]; omega
    · have Y := Lib.hid (show hadN t es (amtG j a) = -1 by
        unfold hadN hit
        rw [find_no (fun e : Ent => amtG j a e.1) es noE (fun m hm => NH.out m (by omega))])
      obtain rfl : k = es.length := by omega
      clear HT
      go_wp2
      go_ret
      exact ⟨ret_i Y.out.symm, hbel⟩

end Go.Proofs.Ytikcpfpeoofppaa

/- Contracts: since, all. -/
import Derived.Test.YtdfkaijeppdhaaaGreatDoorEs
import Derived.Laws.AppendOwnNone
import Derived.Shelf.SlSortCmp.NoneTotal
namespace Go.Proofs.YtdfkaijeppdhaaaGreatDoor
open Go.RowKit Go.Shelf

theorem Tryz.infoEnt : (Tryz.prog.info? 43).map (fun i => (i.zero, i.size, i.bytes)) = some (some (.agg #[.int .i64 0, .int .i64 0, .int .i64 0, .string ⟨#[]⟩]), 4, 40) := by kernel_rfl
theorem ListAt.forms {w : World} {v : Value} {l : List Ent} (h : ListAt w v l) : (v = .slice none 0 0 ∧ l = []) ∨ ∃ g cap, v = .slice (some ⟨g, 0, none⟩) l.length cap ∧ l.length ≤ cap := by
  rcases h.2 with ⟨rfl, h0⟩ | ⟨g, cap, cur, rfl, _, _, hc, _⟩
  · exact .inl ⟨rfl, List.length_eq_zero_iff.1 h0⟩
  · exact .inr ⟨g, cap, rfl, hc⟩
theorem belowD {n : Nat} {w w' : World} (h : Below n w w') (k : Nat) : Below n w (w'.drewN k) := ⟨h.os, h.tape.trans rfl, h.output, h.size, h.block⟩
theorem own_base {w : World} {base base' : Nat} {e : TypeId} {size : Nat} {v : Value} {n : Nat} {xs : List Value} (h : w.ownsRow base e size v n xs) (hb : base' ≤ base) : w.ownsRow base' e size v n xs := by
  refine ⟨h.1, ?_⟩
  rcases h.2 with hn | ⟨g, cap, cur, hv, hbg, hrest⟩
  · exact .inl hn
  · exact .inr ⟨g, cap, cur, hv, Nat.le_trans hb hbg, hrest⟩
theorem own_shape {base : Nat} {w : World} {e : TypeId} {sz : Nat} {v : Value} {n : Nat} {xs : List Value} (h : w.ownsRow base e sz v n xs) : ∃ a cap, v = .slice a n cap := by
  rcases h.2 with ⟨rfl, h0⟩ | ⟨g, cap, cur, rfl, _⟩
  · exact ⟨none, 0, by rw [h0]⟩
  · exact ⟨_, _, rfl⟩
theorem own_shape2 {base : Nat} {w : World} {e : TypeId} {sz : Nat} {v : Value} {n : Nat} {xs : List Value} (h : w.ownsRow base e sz v n xs) : ∃ a cap, v = .slice a n cap := own_shape h
/-- What is a permutation and sorted is the sorted list. -/
theorem sorted_is {b : Book} (hb : BookOk b) (seen : Nat → Int) {l' : List Ent} (hp : l'.Perm (catB b seen)) (hs : l'.Pairwise fun a b => ¬ eLt b a) : l' = sinceB b seen := by
  refine srtE_unique ?_ (catB_keys hb seen) hp
  have hk := keys_perm hp.symm (catB_keys hb seen)
  exact (hs.and hk).imp fun {a c} h12 => by
    obtain ⟨h1, h2⟩ := h12
    rcases eLt_or a c with h | h | h
    · exact h
    · exact absurd h h1
    · exact absurd h h2
def catTo (b : Book) (seen : Nat → Int) : Nat → List Ent
  | 0 => []
  | k + 1 => catTo b seen k ++ restB b seen k
theorem catTo_four (b : Book) (seen : Nat → Int) : catTo b seen 4 = catB b seen := by simp [catTo, catB]
theorem restB_len (b : Book) (seen : Nat → Int) (i : Nat) : (restB b seen i).length ≤ (b i).length := by unfold restB; rw [List.length_drop]; omega
theorem catTo_len (b : Book) (seen : Nat → Int) (h : ∀ i, i < 4 → (b i).length ≤ 60) : ∀ k, k ≤ 4 → (catTo b seen k).length ≤ 60 * k
  | 0, _ => by simp [catTo]
  | k + 1, hk => by
    have h1 := catTo_len b seen h k (by omega)
    have h2 := restB_len b seen k
    have h3 := h k (by omega)
    show (catTo b seen k ++ restB b seen k).length ≤ _
    rw [List.length_append]; omega
/-- The cells of a row. -/
theorem row_news {w : World} {base g cap n : Nat} {l : List Ent} (h : w.ownsRow base 43 4 (.slice (some ⟨g, 0, none⟩) n cap) n (rowE l)) (hl : l.length = n) (lo : Nat) : ∀ j u, (rowE (l.drop lo))[j]? = some u → w.cell? ((⟨g, lo * 4, none⟩ : Addr).add j) = some u := by
  intro j u hj
  have hsp : rowE l = rowE (l.take lo) ++ rowE (l.drop lo) := by rw [← rowE_append, List.take_append_drop]
  rw [Addr.add_lit]
  have hjl := (List.getElem?_eq_some_iff.1 hj).1
  rw [rowE_len, List.length_drop] at hjl
  rw [h.cellAt (lo * 4 + j) (by omega), hsp, List.getElem?_append_right (by rw [rowE_len, List.length_take]; omega), ← hj]
  congr 1
  rw [rowE_len, List.length_take]; omega
theorem rowE_one (l : List Ent) : ∀ u ∈ rowE l, u.oneCell' = true := by
  intro u hu
  unfold rowE at hu
  obtain ⟨e, _, he⟩ := List.mem_flatMap.1 hu
  simp [entC] at he
  rcases he with rfl | rfl | rfl | rfl <;> rfl
/-- What since hands back. -/
def SincePost (l : List Ent) (w : World) (e : Ending) (w' : World) : Prop := ∃ v, e = .returned v ∧ ListAt w' v l ∧ (∀ k, v.ownBlock = some k → w.heap.size ≤ k) ∧ Below w.heap.size w w'

set_option maxRecDepth 100000 in
set_option maxHeartbeats 4000000 in
theorem since_any (K : Nat) (F : List Nat) (b : Book) (s0 s1 s2 s3 : Int) (seen : Nat → Int) (hs : seen 0 = s0 ∧ seen 1 = s1 ∧ seen 2 = s2 ∧ seen 3 = s3) (w : World) (h : BookAt w K F b) (hl : ∀ i, i < 4 → (b i).length ≤ 60) (hok : BookOk b) :
    Calls Tryz.prog 63 #[.pointer (some ⟨K, 0, none⟩), .agg #[.int .i64 s0, .int .i64 s1, .int .i64 s2, .int .i64 s3]] w (SincePost (sinceB b seen) w) := by
  obtain ⟨i0, hi0, hz0, hz1, hz2⟩ := info_parts Tryz.infoEnt
  have HH := Lib.hid h
  have HL := Lib.hid hl
  have HOK := Lib.hid hok
  obtain ⟨w2, hw2⟩ : ∃ w2, w2 = w.alloc (.cells #[.int .i64 s0, .int .i64 s1, .int .i64 s2, .int .i64 s3] 34) := ⟨_, rfl⟩
  have hz : w.heap.size + 1 ≤ w2.heap.size := by rw [hw2]; simp
  have HB2 : Hid (Below w.heap.size w w2) := Lib.hid (by rw [hw2]; exact (Below.refl _ w).alloc (Nat.le_refl _) _)
  have HX2 : Hid (w2.heap[w.heap.size]? = some (.cells #[.int .i64 s0, .int .i64 s1, .int .i64 s2, .int .i64 s3] 34 (0, 0))) := Lib.hid (by rw [hw2]; exact World.alloc_heap_new w _)
  have HXC : Hid (∀ k : Nat, k < 4 → w2.cell? ⟨w.heap.size, k, none⟩ = some (.int .i64 (seen k))) := Lib.hid (fun k hk => by
    obtain ⟨e0, e1, e2, e3⟩ := hs
    rcases (show k = 0 ∨ k = 1 ∨ k = 2 ∨ k = 3 by omega) with rfl | rfl | rfl | rfl
    · rw [e0]; exact heap_cell HX2.out rfl
    · rw [e1]; exact heap_cell HX2.out rfl
    · rw [e2]; exact heap_cell HX2.out rfl
    · rw [e3]; exact heap_cell HX2.out rfl)
  have HW2 := Lib.hid hw2
  clear h hl hok hs hw2
  go_enter Tryz.func63, Tryz.ntmps63
  go_wp2_with fail
  rw [← HW2.out]
  go_loopw [5, 10] (fun o i wr => ∃ k : Nat, k ≤ 4 ∧ i = .int .i64 k ∧ Hid (wr.ownsRow w2.heap.size 43 4 o (catTo b seen k).length (rowE (catTo b seen k))) ∧ Hid (Below w2.heap.size w2 wr)) (fun _ i _ => 4 - (intOf i).toNat)
  case atStart => exact ⟨0, Nat.zero_le _, rfl, Lib.hid (World.ownsRow_nil _ _ _ _), Lib.hid (Below.refl _ _)⟩
  case round =>
    obtain ⟨k, hk, rfl, hown, hbel⟩ := hrel
    by_cases hlt : k < 4
    · have hlt2 : (k : Int) < 4 := by omega
      have hge : (0 : Int) ≤ (k : Int) := by omega
      obtain ⟨v, hv, hlist⟩ := ((HH.out.keep (fun j hj => (HB2.out.block j (by
        rcases hj with rfl | hj
        · obtain ⟨_, _, _, _, hK, _⟩ := HH.out; exact (Array.getElem?_eq_some_iff.1 hK).1
        · exact HH.out.lt hj)))).keep (fun j hj => hbel.out.block j (by
        rcases hj with rfl | hj
        · obtain ⟨_, _, _, _, hK, _⟩ := HH.out; have := (Array.getElem?_eq_some_iff.1 hK).1; omega
        · have := HH.out.lt hj; omega))).cell hlt
      have HLI := Lib.hid hlist
      have hsc := keep_cell hbel.out (HXC.out k hlt)
      have HLK := Lib.hid (HL.out k hlt)
      have HCL := Lib.hid (catTo_len b seen HL.out k hk)
      have hwz := hbel.out.size
      rcases hlist.forms with ⟨rfl, hnil⟩ | ⟨g, cap, rfl, hcap⟩
      · clear hlist
        have HN : Hid (restB b seen k = []) := Lib.hid (by unfold restB; rw [hnil, List.drop_nil])
        clear hnil
        have hlo : min (max 0 (seen k)) 0 = 0 := by omega
        generalize seen k = s at hsc hlo
        go_wp2
        go_quiet (fail)
        have HO2 : Hid ((wr.drewN nq).ownsRow w2.heap.size 43 4 u5 (catTo b seen k).length (rowE (catTo b seen k))) := Lib.hid (own_below hown.out (belowD (Below.refl wr.heap.size wr) nq))
        go_wp2_with (at_builtin; refine wpList_append_own_none rfl _ _ 40 rfl w2.heap.size 43 i0 4 Tryz.underlying40 hi0 _ _ _ rfl HO2.out rfl ?_)
        have HE : Hid (catTo b seen (k + 1) = catTo b seen k) := Lib.hid (by show catTo b seen k ++ restB b seen k = _; rw [HN.out, List.append_nil])
        have HO3 : Hid ((wr.drewN nq).ownsRow w2.heap.size 43 4 u5 (catTo b seen (k + 1)).length (rowE (catTo b seen (k + 1)))) := Lib.hid (by rw [HE.out]; exact HO2.out)
        have HB3 := Lib.hid (belowD hbel.out nq)
        go_wp2
        go_roundw
        case rel => exact ⟨k + 1, by omega, by go_num, HO3, HB3⟩
        case measure => simp [intOf]; omega
      · clear hlist
        obtain ⟨n, hn⟩ : ∃ n, n = (b k).length := ⟨_, rfl⟩
        have HNL := Lib.hid hn
        rw [← hn] at hv hcap
        obtain ⟨lo, hlo0⟩ : ∃ lo : Nat, min (max 0 (seen k)) (n : Int) = (lo : Int) := ⟨(min (max 0 (seen k)) (n : Int)).toNat, by omega⟩
        have HLO : Hid (restB b seen k = (b k).drop lo) := Lib.hid (by unfold restB; rw [← hn, hlo0, Int.toNat_natCast])
        have hlon : lo ≤ n := by omega
        have hn60 : n ≤ 60 := by rw [hn]; exact HLK.out
        have hlo := hlo0
        clear hn hlo0
        generalize seen k = s at hsc hlo
        have l1 : (0 : Int) ≤ (lo : Int) := by omega
        have l2 : (lo : Int) ≤ (cap : Int) := by omega
        have l3 : (lo : Int) ≤ (n : Int) := by omega
        by_cases hc1 : lo = cap
        · have hc2 : n = cap := by omega
          subst hc1
          subst hc2
          have HNL2 : Hid ((rowE ((b k).drop n)).length = 0 * 4) := Lib.hid (by rw [rowE_len, List.length_drop, ← HNL.out]; omega)
          go_wp2
          go_quiet (fail)
          have HO2 : Hid ((wr.drewN nq).ownsRow w2.heap.size 43 4 u5 (catTo b seen k).length (rowE (catTo b seen k))) := Lib.hid (own_below hown.out (belowD (Below.refl wr.heap.size wr) nq))
          have HNW := Lib.hid (show ∀ j u, (rowE ((b k).drop n))[j]? = some u → (wr.drewN nq).cell? ((⟨g, 0, none⟩ : Addr).add j) = some u from fun j u hj => by rw [List.eq_nil_of_length_eq_zero (show (rowE ((b k).drop n)).length = 0 by rw [HNL2.out])] at hj; simp at hj)
          go_wp2_with (at_builtin; refine wpList_append_own _ rfl _ _ 40 rfl w2.heap.size 43 i0 (.agg #[.int .i64 0, .int .i64 0, .int .i64 0, .string ⟨#[]⟩]) 4 40 Tryz.underlying40 hi0 hz0 hz1 hz2 rfl (by decide) _ _ _ rfl HO2.out ⟨g, 0, none⟩ (0) (0) (rowE ((b k).drop n)) rfl HNL2.out HNW.out (rowE_one _) (by unfold maxLen; have := HCL.out; omega) (by have := HCL.out; omega) (by show w2.heap.size ≤ wr.heap.size; exact hwz) ?_)
          intro v' w4 hown' hgrow _
          have HE : Hid (catTo b seen (k + 1) = catTo b seen k ++ (b k).drop n) := Lib.hid (by show catTo b seen k ++ restB b seen k = _; rw [HLO.out])
          have HO3 : Hid (w4.ownsRow w2.heap.size 43 4 v' (catTo b seen (k + 1)).length (rowE (catTo b seen (k + 1)))) := Lib.hid (by rw [HE.out, rowE_append, List.length_append, List.length_drop, ← HNL.out, Nat.sub_self]; exact hown')
          have HB3 := Lib.hid ((belowD hbel.out nq).grown hgrow (by show w2.heap.size ≤ wr.heap.size; exact hwz) (fun j e => (HO2.out.lt j e).1))
          clear hown' hgrow
          go_wp2
          go_roundw
          case rel => exact ⟨k + 1, by omega, by go_num, HO3, HB3⟩
          case measure => simp [intOf]; omega
        · have HNL2 : Hid ((rowE ((b k).drop lo)).length = (n - lo) * 4) := Lib.hid (by rw [rowE_len, List.length_drop, ← HNL.out])
          have HLI2 := Lib.hid (show wr.ownsRow 0 43 4 (.slice (some ⟨g, 0, none⟩) n cap) n (rowE (b k)) from by have h9 := HLI.out; unfold ListAt at h9; rw [← HNL.out] at h9; exact h9)
          have hc3 : ¬ cap = lo := fun e => hc1 e.symm
          go_wp2
          go_quiet (fail)
          have HO2 : Hid ((wr.drewN nq).ownsRow w2.heap.size 43 4 u5 (catTo b seen k).length (rowE (catTo b seen k))) := Lib.hid (own_below hown.out (belowD (Below.refl wr.heap.size wr) nq))
          have HNW := Lib.hid (show ∀ j u, (rowE ((b k).drop lo))[j]? = some u → (wr.drewN nq).cell? ((⟨g, lo * 4, none⟩ : Addr).add j) = some u from fun j u hj => by rw [World.cell?_drewN]; exact row_news HLI2.out HNL.out.symm lo j u hj)
          go_wp2_with (at_builtin; (refine wpList_append_own _ rfl _ _ 40 rfl w2.heap.size 43 i0 (.agg #[.int .i64 0, .int .i64 0, .int .i64 0, .string ⟨#[]⟩]) 4 40 Tryz.underlying40 hi0 hz0 hz1 hz2 rfl (by decide) _ _ _ rfl HO2.out ⟨g, lo * 4, none⟩ (n - lo) (cap - lo) (rowE ((b k).drop lo)) rfl HNL2.out HNW.out (rowE_one _) (by unfold maxLen; have := HCL.out; omega) (by have := HCL.out; omega) (by show w2.heap.size ≤ wr.heap.size; exact hwz) ?_))
          intro v' w4 hown' hgrow _
          have HE : Hid (catTo b seen (k + 1) = catTo b seen k ++ (b k).drop lo) := Lib.hid (by show catTo b seen k ++ restB b seen k = _; rw [HLO.out])
          have HO3 : Hid (w4.ownsRow w2.heap.size 43 4 v' (catTo b seen (k + 1)).length (rowE (catTo b seen (k + 1)))) := Lib.hid (by rw [HE.out, rowE_append, List.length_append, List.length_drop, ← HNL.out]; exact hown')
          have HB3 := Lib.hid ((belowD hbel.out nq).grown hgrow (by show w2.heap.size ≤ wr.heap.size; exact hwz) (fun j e => (HO2.out.lt j e).1))
          clear hown' hgrow
          go_wp2
          go_roundw
          case rel => exact ⟨k + 1, by omega, by go_num, HO3, HB3⟩
          case measure => simp [intOf]; omega
    · have e : k = 4 := by omega
      subst e
      have HC4 : Hid (wr.ownsRow w2.heap.size 43 4 u5 (catB b seen).length (rowE (catB b seen))) := Lib.hid (by have h9 := hown.out; rw [catTo_four] at h9; exact h9)
      have HLB : Hid ((catB b seen).length ≤ 240) := Lib.hid (by have h9 := catTo_len b seen HL.out 4 (Nat.le_refl _); rw [catTo_four] at h9; exact h9)
      have hwz := hbel.out.size
      by_cases h0 : 0 < (catB b seen).length
      · obtain ⟨so, sc, rfl⟩ := own_shape2 HC4.out
        obtain ⟨cl, hcl⟩ : ∃ cl, cl = (catB b seen).length := ⟨_, rfl⟩
        have HCLN := Lib.hid hcl
        have SRT := Lib.hid (sort_any w2.heap.size _ (catB b seen) wr h0 (by have := HLB.out; omega) hwz HC4.out)
        rw [← hcl] at SRT h0
        rw [← hcl]
        clear hcl
        go_wp2_with fail
        refine SRT.out.mono ?_
        rintro e w3 ⟨rfl, l', hp, hsrt, ho3, hb3⟩
        have HE : Hid (l' = sinceB b seen) := Lib.hid (sorted_is HOK.out seen hp hsrt)
        have HO3 := Lib.hid ho3
        have HB3 := Lib.hid (HB2.out.trans ((hbel.out.trans hb3).mono HB2.out.size))
        have HPL := Lib.hid hp.length_eq
        clear hp hsrt ho3 hb3
        go_wp2
        go_ret
        refine ⟨_, rfl, ?_, fun j hj => ?_, HB3.out⟩
        · have h9 := HO3.out
          rw [HE.out] at h9
          unfold ListAt
          have h10 := HPL.out
          rw [HE.out] at h10
          rw [h10]
          exact own_base h9 (Nat.zero_le _)
        · have := (HO3.out.lt j hj).1; omega
      · have hz9 : catB b seen = [] := List.length_eq_zero_iff.1 (by omega)
        have HS9 : Hid (sinceB b seen = []) := Lib.hid (by unfold sinceB; rw [hz9]; rfl)
        have HC5 : Hid (wr.ownsRow w2.heap.size 43 4 u5 0 []) := Lib.hid (by have h9 := HC4.out; rw [hz9] at h9; exact h9)
        clear h0 hz9
        obtain ⟨so, sc, rfl⟩ := own_shape HC5.out
        go_wp2_with fail
        refine (AnyF.slices_SortFunc_none { Tryz.sortE with } so sc _ wr).mono ?_
        rintro e w3 ⟨rfl, rfl⟩
        go_wp2
        go_ret
        refine ⟨_, rfl, ?_, fun j hj => ?_, HB2.out.trans (hbel.out.mono HB2.out.size)⟩
        · rw [HS9.out]; exact own_base HC5.out (Nat.zero_le _)
        · have := (HC5.out.lt j hj).1; omega
end Go.Proofs.YtdfkaijeppdhaaaGreatDoor

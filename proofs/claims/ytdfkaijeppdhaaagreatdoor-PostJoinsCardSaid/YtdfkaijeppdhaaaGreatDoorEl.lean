/- Contracts: says. -/
import Derived.Test.YtdfkaijeppdhaaaGreatDoorEj
namespace Go.Proofs.YtdfkaijeppdhaaaGreatDoor
open Go.RowKit Go.Shelf

theorem stk_bound : ∀ (l : List Ent) (k : Kn) (B : Int), (∀ s, -B ≤ k.stk s ∧ k.stk s ≤ B) → ∀ s, -(B + 9999 * l.length) ≤ (saysFrom k l).stk s ∧ (saysFrom k l).stk s ≤ B + 9999 * l.length
  | [], k, B, h, s => by have := h s; simpa [saysFrom] using this
  | e :: l, k, B, h, s => by
    have h2 : ∀ s, -(B + 9999) ≤ (lineSay k (eLine e)).stk s ∧ (lineSay k (eLine e)).stk s ≤ B + 9999 := fun s => by
      have h3 := h s
      unfold lineSay
      cases hp : parseB (eLine e) with
      | none => simp only; omega
      | some c =>
        simp only
        cases c with
        | put n t => simp only [Cmd.deed, if_true, sayB]; omega
        | drop n =>
          simp only [Cmd.deed, if_true, sayB]
          cases k.txt n <;> simp only <;> omega
        | add n m =>
          simp only [Cmd.deed, if_true, sayB]
          have hm : -9999 ≤ m ∧ m ≤ 9999 := by
            unfold parseB at hp
            split at hp
            · rename_i w r0 rs _
              unfold lineB1 at hp
              split at hp
              · split at hp <;> cases hp
              · split at hp
                · split at hp <;> cases hp
                · split at hp
                  · split at hp <;> cases hp
                  · split at hp
                    · split at hp
                      · rename_i n2 hn2
                        split at hp
                        · cases hp
                          obtain ⟨r, _, hr⟩ := allS_one hn2
                          exact (numV_some hr).2
                        · cases hp
                      · cases hp
                    · split at hp
                      · split at hp
                        · split at hp <;> cases hp
                        · cases hp
                      · have := about_no hp; cases this
            · cases hp
          unfold upd
          split
          · rename_i e2; subst e2; omega
          · omega
        | stock n => simp only [Cmd.deed, Bool.false_eq_true, if_false]; omega
        | share n l => simp only [Cmd.deed, Bool.false_eq_true, if_false]; omega
        | asked k l ns => simp only [Cmd.deed, Bool.false_eq_true, if_false]; omega
    have := stk_bound l (lineSay k (eLine e)) (B + 9999) h2 s
    show -(B + 9999 * ((l.length + 1 : Nat) : Int)) ≤ (saysFrom (lineSay k (eLine e)) l).stk s ∧ _ ≤ _
    show -(B + 9999 * ((l.length + 1 : Nat) : Int)) ≤ (saysFrom (lineSay k (eLine e)) l).stk s ∧ (saysFrom (lineSay k (eLine e)) l).stk s ≤ B + 9999 * ((l.length + 1 : Nat) : Int)
    omega
theorem stk_says (l : List Ent) (h : l.length ≤ 1000) (s : ByteArray) : -100000000 ≤ (saysB l).stk s ∧ (saysB l).stk s ≤ 100000000 := by
  have := stk_bound l kn0 0 (fun s => by simp [kn0]) s
  unfold saysB
  omega
theorem says_take {l : List Ent} {i : Nat} (h : i < l.length) : saysB (l.take (i + 1)) = lineSay (saysB (l.take i)) (eLine (l.getD i noE)) := by
  rw [List.take_succ_eq_append_getElem h, saysB_snoc, List.getD_eq_getElem?_getD, List.getElem?_eq_getElem h]
  rfl
theorem getD_mem' {l : List Ent} {i : Nat} (h : i < l.length) : l.getD i noE ∈ l := by
  rw [List.getD_eq_getElem?_getD, List.getElem?_eq_getElem h]
  exact List.getElem_mem h
/-- What says hands back. -/
def SaysPost (l : List Ent) (w : World) (e : Ending) (w' : World) : Prop := ∃ a b, e = .returned (knV a b) ∧ KnAt w' a b l.length (saysB l) ∧ w.heap.size ≤ a ∧ w.heap.size ≤ b ∧ Below w.heap.size w w'
theorem off_below {n : Nat} {F : List Nat} {w0 w w' : World} (hb : Below n w0 w) (hs : n ≤ w.heap.size) (h : Off F w w') (hF : ∀ k ∈ F, n ≤ k) : Below n w0 w' := hb.trans (h.below hs hF)

set_option maxRecDepth 100000 in
set_option maxHeartbeats 4000000 in
theorem says_any (v : Value) (l : List Ent) (w : World) (hv : EntsAt w v l) (hl : l.length ≤ 1000) (hok : ∀ e ∈ l, (eLine e).size ≤ 60) (hV : Vars w) :
    Calls Tryz.prog 56 #[v] w (SaysPost l w) := by
  have HVR := Lib.hid hV
  have HOK := Lib.hid hok
  clear hV hok
  by_cases h0 : 0 < l.length
  · obtain ⟨bk, off, cap, rfl, hc⟩ := hv.cells h0
    have HC := Lib.hid hc
    clear hc hv
    obtain ⟨nl, hnl⟩ : ∃ nl, nl = l.length := ⟨_, rfl⟩
    have HN := Lib.hid hnl
    rw [← hnl] at h0 hl ⊢
    clear hnl
    have hmm := @run_makeMap Tryz.prog
    go_enter Tryz.func56, Tryz.ntmps56
    go_wp2
    obtain ⟨w2, hw2⟩ : ∃ w2, w2 = ((((w.alloc (.cells #[.map none, .map none] 102)).alloc (.map #[] 0)).alloc (.map #[] 0)).alloc (.cells #[.map (some (w.heap.size + 1)), .map (some (w.heap.size + 1 + 1))] 102)) := ⟨_, rfl⟩
    rw [← hw2]
    have hz2 : w2.heap.size = w.heap.size + 4 := by rw [hw2]; simp
    have HB2 : Hid (Below w.heap.size w w2) := Lib.hid (by rw [hw2]; exact ((((Below.refl _ w).alloc (Nat.le_refl _) _).alloc (by simp) _).alloc (by simp; omega) _).alloc (by simp; omega) _)
    have HK2 : Hid (KnAt w2 (w.heap.size + 1) (w.heap.size + 2) 0 kn0) := Lib.hid (by
      have h := (KnAt.new (w.alloc (.cells #[.map none, .map none] 102))).below ((Below.refl _ _).alloc (Nat.le_refl _) (.cells #[.map (some (w.heap.size + 1)), .map (some (w.heap.size + 1 + 1))] 102))
      rw [← hw2] at h
      simpa using h)
    have HR2 : Hid (w2.heap[w.heap.size]? = some (.cells #[.map none, .map none] 102 (0, 0))) := Lib.hid (by
      rw [hw2]
      refine (Below.heap_alloc _ _ _ (by simp; omega)).trans ((Below.heap_alloc _ _ _ (by simp; omega)).trans ((Below.heap_alloc _ _ _ (by simp)).trans (World.alloc_heap_new w _))))
    have HX2 : Hid (w2.heap[w.heap.size + 3]? = some (.cells #[.map (some (w.heap.size + 1)), .map (some (w.heap.size + 2))] 102 (0, 0))) := Lib.hid (by
      have h := World.alloc_heap_new (((w.alloc (.cells #[.map none, .map none] 102)).alloc (.map #[] 0)).alloc (.map #[] 0)) (.cells #[.map (some (w.heap.size + 1)), .map (some (w.heap.size + 1 + 1))] 102)
      rw [← hw2] at h
      simpa using h)
    have HV2 := Lib.hid (HVR.out.below HB2.out)
    have HVL := Lib.hid (fun k (hk : isVar k) => HVR.out.lt hk)
    clear hw2 hmm
    go_loopw [13] (fun i wr => ∃ k : Nat, k ≤ nl ∧ i = .int .i64 k ∧ Hid (KnAt wr (w.heap.size + 1) (w.heap.size + 2) k (saysB (l.take k))) ∧ Hid (Off [w.heap.size + 1, w.heap.size + 2] w2 wr)) (fun i _ => nl - (intOf i).toNat)
    case atStart => exact ⟨0, Nat.zero_le _, rfl, HK2, Lib.hid (Off.refl _ _)⟩
    case round =>
      obtain ⟨k, hk, rfl, hkn, hoff⟩ := hrel
      have hsz : w2.heap.size ≤ wr.heap.size := hoff.out.size
      have HBw : Hid (Below w.heap.size w wr) := Lib.hid (off_below HB2.out (by omega) hoff.out (by simp))
      have HXr : Hid (wr.heap[w.heap.size + 3]? = some (.cells #[.map (some (w.heap.size + 1)), .map (some (w.heap.size + 2))] 102 (0, 0))) := Lib.hid ((hoff.out.block _ (by omega) (by simp)).trans HX2.out)
      have HRr : Hid (wr.heap[w.heap.size]? = some (.cells #[.map none, .map none] 102 (0, 0))) := Lib.hid ((hoff.out.block _ (by omega) (by simp)).trans HR2.out)
      by_cases hlt : k < nl
      · have hcs := HC.out k (by rw [← HN.out]; exact hlt)
        have HT := Lib.hid (says_take (l := l) (i := k) (by rw [← HN.out]; exact hlt))
        have HLN := Lib.hid (HOK.out _ (getD_mem' (l := l) (i := k) (by rw [← HN.out]; exact hlt)))
        have HSB := Lib.hid (stk_says (l.take k) (by rw [List.length_take]; omega))
        rw [show ((0, 0, 0, ⟨#[]⟩) : Ent) = noE from rfl] at hcs
        generalize l.getD k noE = en at *
        obtain ⟨q0, q1, q2, q3⟩ := hcs
        have d0 := keep_cell HBw.out q0
        have d1 := keep_cell HBw.out q1
        have d2 := keep_cell HBw.out q2
        have d3 := keep_cell HBw.out q3
        clear q0 q1 q2 q3
        go_wp2_with fail
        obtain ⟨w3, hw3⟩ : ∃ w3, w3 = wr.alloc (.cells #[.int .i64 (ePost en), .int .i64 (eNum en), .int .i64 (eCnt en), .string (eLine en)] 43) := ⟨_, rfl⟩
        rw [← hw3]
        have HB3 : Hid (Below wr.heap.size wr w3) := Lib.hid (by rw [hw3]; exact (Below.refl _ _).alloc (Nat.le_refl _) _)
        have HV3 : Hid (Vars w3) := Lib.hid ((HV2.out.keep (fun j hj => hoff.out.block j (by have := HVL.out j hj; omega) (by have := HVL.out j hj; simp; omega))).below HB3.out)
        clear hw3 d0 d1 d2 d3
        refine (parse_any _ (by have := HLN.out; omega) _ HV3.out).mono ?_
        rintro e w4 ⟨⟨pv, rfl, hpv⟩, hb4⟩
        have HB4 := Lib.hid (below_trans HB3.out hb4)
        have c0 : w4.cell? ⟨w.heap.size + 3, 0, none⟩ = some (.map (some (w.heap.size + 1))) := keep_cell HB4.out (heap_cell HXr.out rfl)
        have c1 : w4.cell? ⟨w.heap.size + 3, 1, none⟩ = some (.map (some (w.heap.size + 2))) := keep_cell HB4.out (heap_cell HXr.out rfl)
        have HK4 := Lib.hid (hkn.out.below HB4.out)
        have HV4 := Lib.hid (HV3.out.below hb4)
        clear hb4
        cases hp : parseB (eLine en) with
        | none =>
          rw [hp] at hpv
          obtain rfl : pv = .nilIface := hpv
          have hta := assert_nil w4
          have HNX : Hid (saysB (l.take (k + 1)) = saysB (l.take k)) := Lib.hid (by rw [HT.out]; unfold lineSay; rw [hp])
          have HKX : Hid (KnAt w4 (w.heap.size + 1) (w.heap.size + 2) (k + 1) (saysB (l.take (k + 1)))) := Lib.hid (by rw [HNX.out]; exact HK4.out.mono)
          have HOX := Lib.hid (hoff.out.trans (Off.of_below HB4.out))
          clear hp
          go_wp2
          go_roundw
          case rel => exact ⟨k + 1, by omega, by go_num, HKX, HOX⟩
          case measure => simp [intOf]; omega
        | some c =>
          cases c with
          | put n t =>
            rw [hp] at hpv
            obtain rfl : pv = _ := hpv
            have hta := assert_put (.agg #[.string n, .string t]) w4
            have hme := method_put (.agg #[.string n, .string t]) w4
            have HDC := Lib.hid (put_say (w.heap.size + 1) (w.heap.size + 2) k (saysB (l.take k)) n t (by have := (Cmd.names_small hp).1 n t rfl; omega) (by omega) w4 HK4.out)
            have HNX : Hid (saysB (l.take (k + 1)) = (sayB (.put n t) (saysB (l.take k))).2) := Lib.hid (by rw [HT.out]; unfold lineSay; rw [hp]; rfl)
            clear hp
            go_wp2_with fail
            refine HDC.out.mono ?_
            rintro e w5 ⟨rfl, hk5, ho5⟩
            have HKX : Hid (KnAt w5 (w.heap.size + 1) (w.heap.size + 2) (k + 1) (saysB (l.take (k + 1)))) := Lib.hid (by rw [HNX.out]; exact hk5)
            have HOX := Lib.hid ((hoff.out.trans (Off.of_below HB4.out)).trans ho5)
            clear hk5 ho5 hta hme
            go_wp2
            go_roundw
            case rel => exact ⟨k + 1, by omega, by go_num, HKX, HOX⟩
            case measure => simp [intOf]; omega
          | drop n =>
            rw [hp] at hpv
            obtain rfl : pv = _ := hpv
            have hta := assert_drop (.agg #[.string n]) w4
            have hme := method_drop (.agg #[.string n]) w4
            have HDC := Lib.hid (drop_say (w.heap.size + 1) (w.heap.size + 2) k (saysB (l.take k)) n (by have := (Cmd.names_small hp).2.1 n rfl; omega) (by omega) w4 HK4.out)
            have HNX : Hid (saysB (l.take (k + 1)) = (sayB (.drop n) (saysB (l.take k))).2) := Lib.hid (by rw [HT.out]; unfold lineSay; rw [hp]; rfl)
            clear hp
            go_wp2_with fail
            refine HDC.out.mono ?_
            rintro e w5 ⟨rfl, hk5, ho5⟩
            have HKX : Hid (KnAt w5 (w.heap.size + 1) (w.heap.size + 2) (k + 1) (saysB (l.take (k + 1)))) := Lib.hid (by rw [HNX.out]; exact hk5)
            have HOX := Lib.hid ((hoff.out.trans (Off.of_below HB4.out)).trans ho5)
            clear hk5 ho5 hta hme
            go_wp2
            go_roundw
            case rel => exact ⟨k + 1, by omega, by go_num, HKX, HOX⟩
            case measure => simp [intOf]; omega
          | add n m =>
            rw [hp] at hpv
            obtain rfl : pv = _ := hpv
            have hta := assert_add (.agg #[.string n, .int .i64 m]) w4
            have hme := method_add (.agg #[.string n, .int .i64 m]) w4
            have HDC := Lib.hid (add_say (w.heap.size + 1) (w.heap.size + 2) k (saysB (l.take k)) n m (by have := ((Cmd.names_small hp).2.2.1 n m rfl).1; omega) (by omega) (HSB.out n) ((Cmd.names_small hp).2.2.1 n m rfl).2 w4 HV4.out HK4.out (fun h => by have := HVL.out _ h; omega) (fun h => by have := HVL.out _ h; omega))
            have HNX : Hid (saysB (l.take (k + 1)) = (sayB (.add n m) (saysB (l.take k))).2) := Lib.hid (by rw [HT.out]; unfold lineSay; rw [hp]; rfl)
            clear hp
            go_wp2_with fail
            refine HDC.out.mono ?_
            rintro e w5 ⟨rfl, hk5, ho5⟩
            have HKX : Hid (KnAt w5 (w.heap.size + 1) (w.heap.size + 2) (k + 1) (saysB (l.take (k + 1)))) := Lib.hid (by rw [HNX.out]; exact hk5)
            have HOX := Lib.hid ((hoff.out.trans (Off.of_below HB4.out)).trans ho5)
            clear hk5 ho5 hta hme
            go_wp2
            go_roundw
            case rel => exact ⟨k + 1, by omega, by go_num, HKX, HOX⟩
            case measure => simp [intOf]; omega
          | stock n =>
            rw [hp] at hpv
            obtain rfl : pv = _ := hpv
            have hta := assert_stock (.agg #[.string n]) w4
            have HNX : Hid (saysB (l.take (k + 1)) = saysB (l.take k)) := Lib.hid (by rw [HT.out]; unfold lineSay; rw [hp]; rfl)
            have HKX : Hid (KnAt w4 (w.heap.size + 1) (w.heap.size + 2) (k + 1) (saysB (l.take (k + 1)))) := Lib.hid (by rw [HNX.out]; exact HK4.out.mono)
            have HOX := Lib.hid (hoff.out.trans (Off.of_below HB4.out))
            clear hp
            go_wp2
            go_roundw
            case rel => exact ⟨k + 1, by omega, by go_num, HKX, HOX⟩
            case measure => simp [intOf]; omega
          | share n ll =>
            rw [hp] at hpv
            obtain ⟨sv, rfl, _⟩ := hpv
            have hta := assert_share (.agg #[.int .i64 n, sv]) w4
            have HNX : Hid (saysB (l.take (k + 1)) = saysB (l.take k)) := Lib.hid (by rw [HT.out]; unfold lineSay; rw [hp]; rfl)
            have HKX : Hid (KnAt w4 (w.heap.size + 1) (w.heap.size + 2) (k + 1) (saysB (l.take (k + 1)))) := Lib.hid (by rw [HNX.out]; exact HK4.out.mono)
            have HOX := Lib.hid (hoff.out.trans (Off.of_below HB4.out))
            clear hp
            go_wp2
            go_roundw
            case rel => exact ⟨k + 1, by omega, by go_num, HKX, HOX⟩
            case measure => simp [intOf]; omega
          | asked kk ll ns =>
            rw [hp] at hpv
            obtain ⟨av, bv, rfl, _⟩ := hpv
            have hta := assert_asked (.agg #[av, bv, .func (.func (kindF kk)) #[] #[]]) w4
            have HNX : Hid (saysB (l.take (k + 1)) = saysB (l.take k)) := Lib.hid (by rw [HT.out]; unfold lineSay; rw [hp]; rfl)
            have HKX : Hid (KnAt w4 (w.heap.size + 1) (w.heap.size + 2) (k + 1) (saysB (l.take (k + 1)))) := Lib.hid (by rw [HNX.out]; exact HK4.out.mono)
            have HOX := Lib.hid (hoff.out.trans (Off.of_below HB4.out))
            clear hp
            go_wp2
            go_roundw
            case rel => exact ⟨k + 1, by omega, by go_num, HKX, HOX⟩
            case measure => simp [intOf]; omega
      · have e : k = nl := by omega
        subst e
        have HKE : Hid (KnAt wr (w.heap.size + 1) (w.heap.size + 2) l.length (saysB l)) := Lib.hid (by
          have h := hkn.out
          rw [HN.out, List.take_length] at h
          exact h)
        have c0 := heap_cell (j := 0) HXr.out rfl
        have c1 := heap_cell (j := 1) HXr.out rfl
        have r0 := heap_cell (j := 0) HRr.out rfl
        have f0 : wr.frozen? ⟨w.heap.size, 0, none⟩ = false := by have := HRr.out; simp [World.frozen?, this]
        have f1 : wr.frozen? ⟨w.heap.size, 1, none⟩ = false := by have := HRr.out; simp [World.frozen?, this]
        have r1 := heap_cell (j := 1) HRr.out rfl
        go_wp2
        refine bodyPost_ret (v := knV (w.heap.size + 1) (w.heap.size + 2)) (by simp [results, Tryz.results56, go_sem, knV, r0, r1]) rfl ⟨_, _, rfl, (HKE.out.keep ?_ ?_), by omega, by omega, ?_⟩
        · exact (Below.heap_setCell _ _ _ _ (by show w.heap.size + 1 ≠ w.heap.size; omega)).trans (Below.heap_setCell _ _ _ _ (by show w.heap.size + 1 ≠ w.heap.size; omega))
        · exact (Below.heap_setCell _ _ _ _ (by show w.heap.size + 2 ≠ w.heap.size; omega)).trans (Below.heap_setCell _ _ _ _ (by show w.heap.size + 2 ≠ w.heap.size; omega))
        · exact (HBw.out.setCell (p := ⟨w.heap.size, 0, none⟩) (Nat.le_refl _) _).setCell (p := ⟨w.heap.size, 1, none⟩) (Nat.le_refl _) _
  · have hz : l = [] := List.length_eq_zero_iff.1 (by omega)
    subst hz
    obtain ⟨a0, cap, rfl, _⟩ := hv
    clear h0
    have hmm := @run_makeMap Tryz.prog
    go_enter Tryz.func56, Tryz.ntmps56
    go_wp2
    obtain ⟨w2, hw2⟩ : ∃ w2, w2 = ((((w.alloc (.cells #[.map none, .map none] 102)).alloc (.map #[] 0)).alloc (.map #[] 0)).alloc (.cells #[.map (some (w.heap.size + 1)), .map (some (w.heap.size + 1 + 1))] 102)) := ⟨_, rfl⟩
    rw [← hw2]
    have hz2 : w2.heap.size = w.heap.size + 4 := by rw [hw2]; simp
    have HB2 : Hid (Below w.heap.size w w2) := Lib.hid (by rw [hw2]; exact ((((Below.refl _ w).alloc (Nat.le_refl _) _).alloc (by simp) _).alloc (by simp; omega) _).alloc (by simp; omega) _)
    have HK2 : Hid (KnAt w2 (w.heap.size + 1) (w.heap.size + 2) 0 kn0) := Lib.hid (by
      have h := (KnAt.new (w.alloc (.cells #[.map none, .map none] 102))).below ((Below.refl _ _).alloc (Nat.le_refl _) (.cells #[.map (some (w.heap.size + 1)), .map (some (w.heap.size + 1 + 1))] 102))
      rw [← hw2] at h
      simpa using h)
    have HRr : Hid (w2.heap[w.heap.size]? = some (.cells #[.map none, .map none] 102 (0, 0))) := Lib.hid (by
      rw [hw2]
      refine (Below.heap_alloc _ _ _ (by simp; omega)).trans ((Below.heap_alloc _ _ _ (by simp; omega)).trans ((Below.heap_alloc _ _ _ (by simp)).trans (World.alloc_heap_new w _))))
    have HXr : Hid (w2.heap[w.heap.size + 3]? = some (.cells #[.map (some (w.heap.size + 1)), .map (some (w.heap.size + 2))] 102 (0, 0))) := Lib.hid (by
      have h := World.alloc_heap_new (((w.alloc (.cells #[.map none, .map none] 102)).alloc (.map #[] 0)).alloc (.map #[] 0)) (.cells #[.map (some (w.heap.size + 1)), .map (some (w.heap.size + 1 + 1))] 102)
      rw [← hw2] at h
      simpa using h)
    clear hw2 hmm
    go_loopw [13] (fun i wr => i = .int .i64 0 ∧ w2 = wr) (fun _ _ => 0)
    case atStart => exact ⟨rfl, rfl⟩
    case round =>
      obtain ⟨rfl, rfl⟩ := hrel
      have c0 := heap_cell (j := 0) HXr.out rfl
      have c1 := heap_cell (j := 1) HXr.out rfl
      have r0 := heap_cell (j := 0) HRr.out rfl
      have f0 : w2.frozen? ⟨w.heap.size, 0, none⟩ = false := by have := HRr.out; simp [World.frozen?, this]
      have f1 : w2.frozen? ⟨w.heap.size, 1, none⟩ = false := by have := HRr.out; simp [World.frozen?, this]
      have r1 := heap_cell (j := 1) HRr.out rfl
      go_wp2
      refine bodyPost_ret (v := knV (w.heap.size + 1) (w.heap.size + 2)) (by simp [results, Tryz.results56, go_sem, knV, r0, r1]) rfl ⟨_, _, rfl, (HK2.out.keep ?_ ?_), by omega, by omega, ?_⟩
      · exact (Below.heap_setCell _ _ _ _ (by show w.heap.size + 1 ≠ w.heap.size; omega)).trans (Below.heap_setCell _ _ _ _ (by show w.heap.size + 1 ≠ w.heap.size; omega))
      · exact (Below.heap_setCell _ _ _ _ (by show w.heap.size + 2 ≠ w.heap.size; omega)).trans (Below.heap_setCell _ _ _ _ (by show w.heap.size + 2 ≠ w.heap.size; omega))
      · exact (HB2.out.setCell (p := ⟨w.heap.size, 0, none⟩) (Nat.le_refl _) _).setCell (p := ⟨w.heap.size, 1, none⟩) (Nat.le_refl _) _
end Go.Proofs.YtdfkaijeppdhaaaGreatDoor

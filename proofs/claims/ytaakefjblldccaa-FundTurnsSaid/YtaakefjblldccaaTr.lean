/- Contract: what claimants get who come in an order (the reference). -/
import Derived.Test.YtaakefjblldccaaTt
namespace Go.Proofs.Ytaakefjblldccaa
open Go.RowKit

theorem Try.infoBool : (Try.prog.info? 4).map (fun i => (i.zero, i.size, i.bytes)) = some (some (.bool false), 1, 1) := by kernel_rfl
theorem falses_vals (N : Nat) : (madeCells (Value.bool false).cells (N * 1)).toList = (List.replicate N false).map Value.bool := by
  unfold madeCells
  apply List.ext_getElem
  · simp
  · intro i h1 h2
    simp [Value.cells, Nat.mod_one]

/-- Who has come. -/
def cmB (n : Nat) (P : List Nat) : List Bool := (List.range n).map fun i => decide (i ∈ P)
theorem cmB_len (n : Nat) (P : List Nat) : (cmB n P).length = n := by simp [cmB]
theorem cmB_nil (n : Nat) : cmB n [] = List.replicate n false := by
  apply List.ext_getElem
  · simp [cmB]
  · intro i h1 h2; simp [cmB]
theorem cmB_at {n i : Nat} (P : List Nat) (h : i < n) : (cmB n P).getD i false = decide (i ∈ P) := by simp [cmB, List.getD_eq_getElem?_getD, h]
theorem cmB_set {n i : Nat} (P : List Nat) : (cmB n P).set i true = cmB n (P ++ [i]) := by
  apply List.ext_getElem
  · simp [cmB]
  · intro j h1 h2
    rw [List.getElem_set]
    by_cases hj : i = j
    · subst hj; simp [cmB]
    · simp [cmB, hj, Ne.symm hj]

structure OwnB (B : Nat) (w : World) (g cap : Nat) (l : List Bool) : Prop where
  row : w.ownsRow B 4 1 (.slice (some ⟨g, 0, none⟩) l.length cap) l.length (l.map Value.bool)
  base : B ≤ g
theorem OwnB.cell {B : Nat} {w : World} {g cap : Nat} {l : List Bool} (h : OwnB B w g cap l) (j : Nat) (hj : j < l.length) : w.cell? ⟨g, j, none⟩ = some (.bool (l.getD j false)) := by
  rw [h.row.cellAt j (by omega)]
  simp [List.getD_eq_getElem?_getD, hj]
theorem OwnB.frozen {B : Nat} {w : World} {g cap : Nat} {l : List Bool} (h : OwnB B w g cap l) (j : Nat) : w.frozen? ⟨g, j, none⟩ = false := h.row.frozenAt j
theorem OwnB.set {B : Nat} {w : World} {g cap : Nat} {l : List Bool} (h : OwnB B w g cap l) (j : Nat) (x : Bool) : OwnB B (w.setCell ⟨g, j, none⟩ (.bool x)) g cap (l.set j x) := by
  refine ⟨?_, h.base⟩
  rw [List.length_set, List.map_set]
  exact (h.row.stored j (.bool x)).1
theorem OwnB.keep {B : Nat} {w W : World} {g cap : Nat} {l : List Bool} (h : OwnB B w g cap l) (hk : W.heap[g]? = w.heap[g]?) : OwnB B W g cap l := ⟨row_keep h.row hk, h.base⟩

theorem bad_range {c ord : List Int} {k : Nat} (hk : k < ord.length) (h : betw 0 (ord.getD k 0) ((c.length : Int) - 1) = false) : ¬ okO c.length ord := fun ⟨L, hL, hl, hn, hb⟩ => by
  have h1 : (betw 0 (ord.getD k 0) ((c.length : Int) - 1)) = true := by
    have hkL : k < L.length := by rw [hL, List.length_map] at hk; exact hk
    have h2 := hb L[k] (List.getElem_mem hkL)
    rw [betw_iff, show ord.getD k 0 = (L[k] : Int) by rw [hL]; simp [List.getD_eq_getElem?_getD, hkL]]
    omega
  rw [h] at h1
  cases h1
theorem bad_twice {c ord : List Int} {P : List Nat} {k i : Nat} (hk : k < ord.length) (hP : ord.take k = asI P) (hi : ord.getD k 0 = i) (h : i ∈ P) : ¬ okO c.length ord := fun ⟨L, hL, hl, hn, hb⟩ => by
  have hkL : k < L.length := by rw [hL, List.length_map] at hk; exact hk
  have h1 : asI (L.take k) = asI P := by rw [← hP, hL]; simp [asI, List.map_take]
  have h2 := asI_inj h1
  have h3 : (L[k] : Int) = i := by rw [← hi, hL]; simp [List.getD_eq_getElem?_getD, hkL]
  have h4 : L[k] = i := by omega
  rw [← h2] at h
  obtain ⟨j, hj, he⟩ := List.getElem_of_mem h
  rw [List.getElem_take] at he
  have hjk : j < k := by rw [List.length_take] at hj; omega
  exact List.pairwise_iff_getElem.1 (List.nodup_iff_pairwise_ne.1 hn) j k (by omega) hkL hjk (by rw [he, h4])

set_option maxRecDepth 100000 in
set_option maxHeartbeats 2000000 in
theorem rTurn_any (v x : Value) (c ord : List Int) (n : Int) (w : World) (hv : IntsAt w v c) (hx : IntsAt w x ord) (h40 : ord.length ≤ 40) :
    Calls Try.prog 30 #[v, x, .int .i64 n] w (GivesU c ord n w) := by
  have HV := Lib.hid hv
  have HX := Lib.hid hx
  by_cases h0 : askE c n = 0
  · obtain ⟨hc, h1, h2⟩ := askE_ok2 h0
    have A := Lib.hid h0
    have HH := Lib.hid hc
    have hlo := hc.lo
    have hhi := hc.hi
    have ht := hc.tot
    obtain ⟨xa, xc, hxe, hxl, hxx⟩ := hx
    subst hxe
    obtain ⟨b, off, cap, rfl, hcc⟩ := ints_cell hv (by omega)
    have HCC := Lib.hid hcc
    have HXX := Lib.hid hxx
    clear hc hv h0 hcc hxx
    by_cases hlen : ord.length = c.length
    · have hd : ((ord.length : Int) != (c.length : Int)) = false := by rw [bne_eq_false_iff_eq]; omega
      have HLEN := Lib.hid hlen
      have e1 : IntKind.i64.wrap ((c.length : Int) - 1) = (c.length : Int) - 1 := IntWalk.i64_in _ (by omega)
      have hle : ord.length ≤ c.length := by omega
      obtain ⟨j0, hj0, hy0, hy1, hy2⟩ := info_parts Try.infoInt
      obtain ⟨k0, hk0, hz0, hz1, hz2⟩ := info_parts Try.infoBool
      clear hlen
      go_enter Try.func30, Try.ntmps30
      go_wp2_with fail
      refine (rasked_any _ _ _ _ HV.out).mono ?_
      rintro e w' ⟨rfl, rfl⟩
      rw [A.out]
      go_upto_region 7 with (at_make; refine wpList_make_full _ rfl _ _ 78 rfl w.heap.size 4 k0 (.bool false) 1 Try.underlying78 hk0 hz0 hz1 .i64 .i64 _ _ c.length rfl rfl rfl rfl (by rw [hz2]; omega) (by unfold maxLen; omega) (Nat.le_refl _) ?_; intro w1 hown1 hgrow1)
      have hb1 : Below w.heap.size w w1 := (Below.refl _ _).grown hgrow1 (Nat.le_refl _) (fun k e => by cases e)
      rw [falses_vals, ← cmB_nil] at hown1
      have HB1 := Lib.hid hb1
      have HO1 := Lib.hid (show OwnB w.heap.size w1 w.heap.size c.length (cmB c.length []) from ⟨by rw [cmB_len]; exact hown1, Nat.le_refl _⟩)
      clear hown1 hgrow1 hb1
      go_upto_region 8 with (at_make; refine wpList_make_full _ rfl _ _ 29 rfl w.heap.size 3 j0 (.int .i64 0) 1 Try.underlying29 hj0 hy0 hy1 .i64 .i64 _ _ c.length rfl rfl rfl rfl (by rw [hy2]; omega) (by unfold maxLen; omega) HB1.out.size ?_; intro w2 hown2 hgrow2)
      have hb2 : Below w1.heap.size w1 w2 := (Below.refl _ _).grown hgrow2 (Nat.le_refl _) (fun k e => by cases e)
      rw [zeros_vals] at hown2
      have HB2 := Lib.hid (below_trans HB1.out hb2)
      have HO2 := Lib.hid (HO1.out.keep (W := w2) (hb2.block _ (by
        obtain ⟨_, _, h⟩ := row_block HO1.out.row
        exact (Array.getElem?_eq_some_iff.1 h).1)))
      have hg12 : w.heap.size < w1.heap.size := by
        obtain ⟨_, _, h⟩ := row_block HO1.out.row
        exact (Array.getElem?_eq_some_iff.1 h).1
      have HI2 := Lib.hid (show OwnI w.heap.size w2 w1.heap.size c.length (List.replicate c.length 0) from ⟨by simpa using hown2, HB1.out.size⟩)
      have HG := Lib.hid hg12
      clear hown2 hgrow2 hb2 HO1 hg12
      obtain ⟨gi, hgi⟩ : ∃ gi, gi = w1.heap.size := ⟨_, rfl⟩
      rw [← hgi] at HI2 HG ⊢
      clear hgi
      have ZL := Lib.hid (show (zst c n).1.length = c.length by simp [zst])
      go_wp2
      go_loopw [11, 12] (fun lv iv wr => ∃ (k : Nat) (P : List Nat), k ≤ ord.length ∧ iv = .int .i64 k ∧ Hid (ord.take k = asI P ∧ P.Nodup ∧ ∀ i ∈ P, i < c.length) ∧ lv = .int .i64 (turnS c P (zst c n)).2 ∧ OwnB w.heap.size wr w.heap.size c.length (cmB c.length P) ∧ OwnI w.heap.size wr gi c.length (turnS c P (zst c n)).1 ∧ Below w.heap.size w wr) (fun _ iv _ => ord.length - (intOf iv).toNat)
      case atStart => exact ⟨0, [], Nat.zero_le _, rfl, Lib.hid ⟨by simp [asI], List.nodup_nil, fun i hi => by simp at hi⟩, rfl, HO2.out, HI2.out, HB2.out⟩
      case round =>
        clear HO2 HI2 HB2 HB1
        obtain ⟨k, P, hk, rfl, HP, rfl, hO, hI, hbel⟩ := hrel
        by_cases hlt : k < ord.length
        · have hlt' : (k : Int) < (ord.length : Int) := by omega
          obtain ⟨bx, ox, rfl, hxc⟩ := HXX.out (by omega)
          have x1 := keep_cell hbel (hxc k hlt)
          have BR := Lib.hid (fun h => bad_range (c := c) (ord := ord) (k := k) hlt h)
          have BT := Lib.hid (fun (i : Nat) (hi : ord.getD k 0 = i) (h : i ∈ P) => bad_twice (c := c) hlt HP.out.1 hi h)
          have NX := Lib.hid (fun (i : Nat) (hi : ord.getD k 0 = i) => show ord.take (k + 1) = asI (P ++ [i]) by
            rw [List.take_succ_eq_append_getElem hlt, HP.out.1]
            have : ord[k] = (i : Int) := by rw [← hi]; simp [List.getD_eq_getElem?_getD, hlt]
            rw [this]; simp [asI])
          have HO := Lib.hid hO
          have HI := Lib.hid hI
          have HBE := Lib.hid hbel
          clear hO hI hbel hxc
          generalize ord.getD k 0 = o at *
          by_cases hw : betw 0 o ((c.length : Int) - 1) = true
          · have hw' := (betw_iff _ _ _).1 hw
            obtain ⟨i, rfl⟩ : ∃ i : Nat, o = i := ⟨o.toNat, by omega⟩
            have hin : i < c.length := by omega
            have hin' : (i : Int) < (c.length : Int) := by omega
            have b1 := HO.out.cell i (by rw [cmB_len]; exact hin)
            rw [cmB_at P hin] at b1
            by_cases hiP : i ∈ P
            · have BAD := Lib.hid (BT.out i rfl hiP)
              rw [show decide (i ∈ P) = true by simpa using hiP] at b1
              go_wp2_with fail
              refine (within_any _ _ _ _).mono ?_
              rintro e w' ⟨rfl, rfl⟩
              rw [hw]
              go_wp2
              go_ret2
              exact GivesU.bad A.out HBE.out BAD.out
            · rw [show decide (i ∈ P) = false by simpa using hiP] at b1
              have c1 := keep_cell HBE.out (HCC.out i hin)
              have hcb := HH.out.holds _ (mem_getD hin)
              have hbd := turnS_bd (c := c) HH.out.pos P (zst c n) HP.out.2.2 (by simp only [zst]; omega)
              have hz2 : (zst c n).2 ≤ 8000 := by simp only [zst]; omega
              have NI := Lib.hid (NX.out i rfl)
              have HP2 := Lib.hid (show (P ++ [i]).Nodup ∧ ∀ j ∈ P ++ [i], j < c.length from ⟨List.nodup_append.2 ⟨HP.out.2.1, by simp, fun a ha b hb => by simp at hb; subst hb; exact fun h => hiP (h ▸ ha)⟩, fun j hj => by
                rw [List.mem_append] at hj
                rcases hj with hj | hj
                · exact HP.out.2.2 j hj
                · simp at hj; omega⟩)
              have TS := Lib.hid (turnS_snoc c P i (zst c n))
              have hln : (turnS c P (zst c n)).1.length = c.length := by rw [turnS_len, ZL.out]
              have HLN := Lib.hid hln
              have HOS := Lib.hid (HO.out.set i true)
              have HI1 := Lib.hid (HI.out.keep (W := wr.setCell ⟨w.heap.size, i, none⟩ (.bool true)) (Below.heap_setCell _ _ _ _ (Nat.ne_of_gt HG.out)))
              have HB1 := Lib.hid (HBE.out.setCell (p := ⟨w.heap.size, i, none⟩) (Nat.le_refl _) (.bool true))
              have HT := Lib.hid (HI1.out.set i (min (c.getD i 0) (turnS c P (zst c n)).2))
              have HBT := Lib.hid (HB1.out.setCell (p := ⟨gi, i, none⟩) (Nat.le_of_lt HG.out) (.int .i64 (min (c.getD i 0) (turnS c P (zst c n)).2)))
              have HO3 := Lib.hid (HOS.out.keep (W := (wr.setCell ⟨w.heap.size, i, none⟩ (.bool true)).setCell ⟨gi, i, none⟩ (.int .i64 (min (c.getD i 0) (turnS c P (zst c n)).2))) (Below.heap_setCell _ _ _ _ (Nat.ne_of_lt HG.out)))
              rw [cmB_set] at HO3
              have fb := HO.out.frozen i
              have o1 := HI1.out.cell i (by rw [hln]; exact hin)
              have f1 := HI1.out.frozen i
              have c2 := keep_cell HB1.out (HCC.out i hin)
              clear hln HI HOS
              generalize turnS c P (zst c n) = st at *
              obtain ⟨out, left⟩ := st
              simp only at hbd o1
              generalize out.getD i 0 = oo at *
              generalize c.getD i 0 = cl at *
              obtain ⟨mm, hmm⟩ : ∃ mm, mm = min cl left := ⟨_, rfl⟩
              have HMM := Lib.hid hmm
              have hmb : 0 ≤ mm ∧ mm ≤ left := by omega
              simp only at HT HBT HO3 TS HLN
              rw [← hmm] at HT HBT HO3 TS
              clear hmm
              go_wp2_with fail
              refine (within_any _ _ _ _).mono ?_
              rintro e w' ⟨rfl, rfl⟩
              rw [hw]
              go_upto_region 16 with fail
              generalize wr.setCell ⟨w.heap.size, i, none⟩ (.bool true) = w4 at *
              go_upto_region 17 with fail
              rw [← HMM.out]
              have m1 := HT.out.cell i (by rw [List.length_set, HLN.out]; exact hin)
              rw [show (out.set i mm).getD i 0 = mm by simp [List.getD_eq_getElem?_getD, show i < out.length by rw [HLN.out]; exact hin]] at m1
              generalize w4.setCell ⟨gi, i, none⟩ (.int .i64 mm) = w5 at *
              clear o1 f1 c1 c2 x1 b1 fb
              go_wp2
              go_roundw
              case rel => exact ⟨k + 1, P ++ [i], by omega, by go_num, Lib.hid ⟨NI.out, HP2.out⟩, by rw [TS.out], HO3.out, by rw [TS.out]; exact HT.out, HBT.out⟩
              case measure => simp [intOf]; omega
          · have hw2 : betw 0 o ((c.length : Int) - 1) = false := by simpa using hw
            have BAD := Lib.hid (BR.out hw2)
            go_wp2_with fail
            refine (within_any _ _ _ _).mono ?_
            rintro e w' ⟨rfl, rfl⟩
            rw [hw2]
            go_wp2
            go_ret2
            exact GivesU.bad A.out HBE.out BAD.out
        · have e : k = ord.length := by omega
          subst e
          have HL := Lib.hid (show okL c.length ord P from by
            have h1 := HP.out.1
            rw [List.take_length] at h1
            refine ⟨h1, ?_, HP.out.2.1, HP.out.2.2⟩
            have := congrArg List.length h1
            rw [asI_len] at this
            rw [← this, HLEN.out])
          have HIV := Lib.hid (own_ints hI.row (by rw [turnS_len, ZL.out]; omega))
          have HBE := Lib.hid hbel
          clear hO hI hbel
          go_wp2
          go_ret2
          exact GivesU.good A.out HBE.out HL.out (by simpa [turnS_len, ZL.out] using HIV.out)
    · have hd : ((ord.length : Int) != (c.length : Int)) = true := bne_iff_ne.2 (by omega)
      have HBAD := Lib.hid (show ¬ okO c.length ord from fun ⟨L, hL, hl, _⟩ => hlen (by rw [hL, List.length_map, hl]))
      clear hlen
      go_enter Try.func30, Try.ntmps30
      go_wp2_with fail
      refine (rasked_any _ _ _ _ HV.out).mono ?_
      rintro e w' ⟨rfl, rfl⟩
      rw [A.out]
      go_wp2
      go_ret2
      exact GivesU.bad A.out (Below.refl _ _) HBAD.out
  · have hb : (askE c n != 0) = true := by rw [bne_iff_ne]; exact h0
    have H0 := Lib.hid h0
    clear h0 hv hx
    go_enter Try.func30, Try.ntmps30
    go_wp2_with fail
    refine (rasked_any _ _ _ _ HV.out).mono ?_
    rintro e w' ⟨rfl, rfl⟩
    go_wp2
    go_ret2
    exact ⟨_, [], _, rfl, nil_ints _, Below.refl _ _, fun _ => ⟨rfl, rfl⟩, fun h => absurd h H0.out⟩

end Go.Proofs.Ytaakefjblldccaa

/- The law PostTexts. -/
import Derived.Test.YtdfkaijeppdhaaaGreatDoorDp
import Derived.Test.YtdfkaijeppdhaaaGreatDoorRs
import Derived.Test.YtdfkaijeppdhaaaGreatDoorLb
import Derived.Deep.RegionHeld3
import Derived.Deep.RegionWith
namespace Go.Proofs.YtdfkaijeppdhaaaGreatDoor
open Go.RowKit Go.Shelf

def KD (base : Nat) (w W : World) : Prop := Kid base w W
theorem KD.refl (base : Nat) (w : World) : KD base w w := Kid.refl _ _
theorem KD.drew {base : Nat} {w W : World} (h : KD base w W) : KD base w W.drew := Kid.trans h (Kid.of_below (Below.refl _ _).drew)
theorem KD.call {base : Nat} {w W w2 : World} (h : KD base w W) (k : Kid base W w2) : KD base w w2 := Kid.trans h k
theorem KD.out {base : Nat} {w W : World} (h : KD base w W) : Kid base w W := h
theorem ArrAt.hold {base : Nat} {w W : World} {g : Nat} {t : TypeId} {P : Nat → Nat} (h : ArrAt w g t P) (ht : ¬ isDuoT t) (hk : KD base w W) {i : Nat} (hi : i < 4) : W.cell? ⟨g, i, none⟩ = some (.pointer (some ⟨P i, 0, none⟩)) := (h.kid hk ht).cell hi
theorem kd_cell {base : Nat} {w W : World} (hk : KD base w W) (hs : base ≤ w.heap.size) {a : Addr} {v : Value} (ha : a.block < base) (h : w.cell? a = some v) : W.cell? a = some v := ((Kid.below hk hs).cell ha).trans h
/-- What holds between two rounds: the arrays, and posts with the same books. -/
structure TxI (base : Nat) (ga gb : Nat) (P R : Nat → Nat) (Bs : Nat → Book) (ws wr : World) : Prop where
  duo : DuoL base wr (X4 base) 4 P idN Bs 4 R idN Bs
  arrP : ArrAt wr ga 45 P
  arrR : ArrAt wr gb 47 R
  kid : Kid base ws wr
theorem up_up {α : Type} (f : Nat → α) (i : Nat) (u v : α) : upN (upN f i u) i v = upN f i v := by funext j; unfold upN; split <;> rfl
def quadF (a b c d : Int) : Nat → Int := fun i => if i = 0 then a else if i = 1 then b else if i = 2 then c else d
theorem since_len {b : Book} (hb : BookOk b) (seen : Nat → Int) : (sinceB b seen).length ≤ 240 := by
  rw [← since_same hb seen]
  unfold sinceR
  exact Nat.le_trans (List.length_filter_le _ _) (by rw [allB_len]; exact lenB_le hb)
set_option maxRecDepth 100000 in
set_option maxHeartbeats 8000000 in
theorem PostTexts_walk (v : Value) (lines : List ByteArray) (a b c d : Int) (n : Int) (w : World) (hL : StrsIn w v lines) (_hn : (Lit.int .u32 n).wf = true) (hV : Vars w) :
    Calls Tryz.prog 5 #[v, .agg #[.int .i64 a, .int .i64 b, .int .i64 c, .int .i64 d], .int .u32 n] w (BoolPost true w) := by
  obtain ⟨w1, hw1⟩ : ∃ w1, w1 = w.alloc (.cells #[.int .i64 a, .int .i64 b, .int .i64 c, .int .i64 d] 34) := ⟨_, rfl⟩
  have HB1 : Hid (Below w.heap.size w w1) := Lib.hid (by rw [hw1]; exact (Below.refl _ w).alloc (Nat.le_refl _) _)
  have HQ1 : Hid (w1.heap[w.heap.size]? = some (.cells #[.int .i64 a, .int .i64 b, .int .i64 c, .int .i64 d] 34 (0, 0))) := Lib.hid (by rw [hw1]; exact World.alloc_heap_new w _)
  have HV1 := Lib.hid (hV.below HB1.out)
  have HLG := Lib.hid (long_any v lines 30 w1 (hL.below HB1.out))
  have HIN := Lib.hid (hL.below HB1.out)
  obtain ⟨la, lc, rfl, hc⟩ := (hL.below HB1.out).at_
  have HLC := Lib.hid hc
  have HW1 := Lib.hid hw1
  clear hw1 hL hV
  cases hlong : longB lines 30 with
  | true =>
    rw [hlong] at HLG
    clear hlong hc
    go_enter Tryz.func5, Tryz.ntmps5
    go_wp2_with fail
    rw [← HW1.out]
    refine HLG.out.mono ?_
    rintro e w2 ⟨rfl, hb2⟩
    have HB2 := Lib.hid (below_trans HB1.out hb2)
    go_wp2_with fail
    refine (sane_any w2 (HV1.out.below hb2)).mono ?_
    rintro e w3 ⟨rfl, hb3⟩
    have HB3 := Lib.hid (below_trans HB2.out hb3)
    clear hb2 hb3
    go_wp2
    go_ret
    exact ⟨rfl, HB3.out⟩
  | false =>
    rw [hlong] at HLG
    obtain ⟨hsz, hlen⟩ := longB_no hlong
    have HSZ := Lib.hid (fun k (hk : k < lines.length) => show (lines.getD k emp).size ≤ 200 by
      rw [List.getD_eq_getElem?_getD, List.getElem?_eq_getElem hk]; exact hsz _ (List.getElem_mem hk))
    obtain ⟨ln, hln⟩ : ∃ ln, ln = lines.length := ⟨_, rfl⟩
    have HN := Lib.hid hln
    rw [← hln] at hlen HLG ⊢
    clear hlong hc hsz hln
    go_enter Tryz.func5, Tryz.ntmps5
    go_wp2_with fail
    rw [← HW1.out]
    refine HLG.out.mono ?_
    rintro e w2 ⟨rfl, hb2⟩
    have HB2 := Lib.hid (below_trans HB1.out hb2)
    have HB12 := Lib.hid hb2
    have HV2 := Lib.hid (HV1.out.below hb2)
    clear hb2
    go_wp2_with fail
    refine (posts_any w2 HV2.out).mono ?_
    rintro e w3 ⟨P, R, rfl, hd3, hb3⟩
    obtain ⟨w5, hw5⟩ : ∃ w5, w5 = (w3.alloc (.cells #[.pointer (some ⟨P 0, 0, none⟩), .pointer (some ⟨P 1, 0, none⟩), .pointer (some ⟨P 2, 0, none⟩), .pointer (some ⟨P 3, 0, none⟩)] 45)).alloc (.cells #[.pointer (some ⟨R 0, 0, none⟩), .pointer (some ⟨R 1, 0, none⟩), .pointer (some ⟨R 2, 0, none⟩), .pointer (some ⟨R 3, 0, none⟩)] 47) := ⟨_, rfl⟩
    obtain ⟨base, hbase⟩ : ∃ base, base = w2.heap.size := ⟨_, rfl⟩
    have HB35 : Hid (Below w3.heap.size w3 w5) := Lib.hid (by rw [hw5]; exact ((Below.refl _ _).alloc (Nat.le_refl _) _).alloc (by simp) _)
    have HB25 : Hid (Below base w2 w5) := Lib.hid (by rw [hbase]; exact below_trans hb3 HB35.out)
    have HA5 : Hid (ArrAt w5 w3.heap.size 45 P) := Lib.hid (by rw [hw5]; exact (Below.heap_alloc _ _ _ (by simp)).trans (World.alloc_heap_new w3 _))
    have HR5 : Hid (ArrAt w5 (w3.heap.size + 1) 47 R) := Lib.hid (by
      have := World.alloc_heap_new (w3.alloc (.cells #[.pointer (some ⟨P 0, 0, none⟩), .pointer (some ⟨P 1, 0, none⟩), .pointer (some ⟨P 2, 0, none⟩), .pointer (some ⟨P 3, 0, none⟩)] 45)) (.cells #[.pointer (some ⟨R 0, 0, none⟩), .pointer (some ⟨R 1, 0, none⟩), .pointer (some ⟨R 2, 0, none⟩), .pointer (some ⟨R 3, 0, none⟩)] 47)
      rw [World.size_alloc] at this
      rw [hw5]; exact this)
    have HD5 : Hid (DuoL base w5 (X4 base) 4 P idN empN 4 R idN empN) := Lib.hid (by rw [hbase]; exact hd3.below HB35.out)
    have HLO : Hid (w.heap.size < base) := Lib.hid (by
      have h1 := (Array.getElem?_eq_some_iff.1 HQ1.out).1
      have h2 := HB12.out.size
      omega)
    have HLX : Hid (w1.heap.size ≤ base) := Lib.hid (by rw [hbase]; exact HB12.out.size)
    have HW5 := Lib.hid hw5
    have HBX : Hid (Below w.heap.size w w5) := Lib.hid (HB2.out.trans (HB25.out.mono (by have := HLO.out; omega)))
    have HI0 : Hid (TxI base w3.heap.size (w3.heap.size + 1) P R empN w5 w5) := Lib.hid ⟨HD5.out, HA5.out, HR5.out, Kid.refl _ _⟩
    clear hw5 hd3 hb3
    obtain ⟨ga, hga⟩ : ∃ ga, ga = w3.heap.size := ⟨_, rfl⟩
    have HGA := Lib.hid hga
    clear hga
    go_wp2_with fail
    rw [← HW5.out]
    go_loopw [10] (fun i wr => ∃ (k : Nat) (Bs : Nat → Book), k ≤ ln ∧ i = .int .i64 k ∧ Hid (TxI base w3.heap.size (w3.heap.size + 1) P R Bs w5 wr)) (fun i _ => ln - (intOf i).toNat)
    case atStart => exact ⟨0, _, Nat.zero_le _, rfl, HI0⟩
    case round =>
      obtain ⟨k, Bs, hk, rfl, HI⟩ := hrel
      by_cases hlt : k < ln
      · have hlt2 : (k : Int) < (ln : Int) := by omega
        obtain ⟨bl, ol, rfl, hcc⟩ := HLC.out (by rw [← HN.out]; omega)
        have HC0 := Lib.hid (hcc k (by rw [← HN.out]; exact hlt))
        have hxs := HSZ.out k (by rw [← HN.out]; exact hlt)
        generalize lines.getD k emp = x at *
        have HBLB : Hid (bl < base) := Lib.hid (by
          have h1 := World.block_lt_of_cell? _ _ HC0.out
          have h2 := HLX.out
          exact Nat.lt_of_lt_of_le h1 h2)
        have HCW : Hid (wr.cell? ⟨bl, ol + k, none⟩ = some (.string x)) := Lib.hid (by
          have h1 := keep_cell HB12.out HC0.out
          have h2 : w5.cell? ⟨bl, ol + k, none⟩ = some (.string x) := (HB25.out.cell HBLB.out).trans h1
          exact kd_cell HI.out.kid HD5.out.size HBLB.out h2)
        have HAR : Hid (ArrAt wr w3.heap.size 45 P ∧ ArrAt wr (w3.heap.size + 1) 47 R ∧ wr.cell? ⟨bl, ol + k, none⟩ = some (.string x)) := Lib.hid ⟨HI.out.arrP, HI.out.arrR, HCW.out⟩
        have HDR := Lib.hid HI.out.duo
        have hq2 : k % 2 < 2 := Nat.mod_lt _ (by omega)
        obtain ⟨q, hq⟩ : ∃ q, q = k % 2 := ⟨_, rfl⟩
        obtain ⟨q2, hqq⟩ : ∃ q2, q2 = 1 - q := ⟨_, rfl⟩
        have hq4 : q < 4 := by omega
        have hqq4 : q2 < 4 := by omega
        have m1 : (k : Int).tmod 2 = (q : Int) := by rw [Int.tmod_eq_emod_of_nonneg (by omega)]; omega
        have m2 : IntKind.i64.wrap (1 - (q : Int)) = (q2 : Int) := by rw [IntWalk.i64_in _ (by omega)]; omega
        have i0 : (0 : Int) ≤ (q : Int) := by omega
        have i1 : (q : Int) < 4 := by omega
        have i2 : (0 : Int) ≤ (q2 : Int) := by omega
        have i3 : (q2 : Int) < 4 := by omega
        have HNE : Hid (q ≠ q2) := Lib.hid (by omega)
        have hk32 : (k : Int) < 32 := by omega
        clear hcc hq hqq hq2
        cases hbit : (Go.bits BinOp.and IntKind.u32 (n / 2 ^ k) 1 == 1) with
        | true =>
          have da1 : ∀ W, KD base wr W → W.cell? ⟨w3.heap.size, q, none⟩ = some (.pointer (some ⟨P q, 0, none⟩)) := fun W hW => HAR.out.1.hold arrP_not hW hq4
          have db1 : ∀ W, KD base wr W → W.cell? ⟨w3.heap.size, q2, none⟩ = some (.pointer (some ⟨P q2, 0, none⟩)) := fun W hW => HAR.out.1.hold arrP_not hW hqq4
          have HJO := Lib.hid (join_d HDR.out.drewn hq4 hqq4)
          obtain ⟨J, hJ⟩ : ∃ J, J = joinV (Bs q) (Bs q2) := ⟨_, rfl⟩
          rw [← hJ] at HJO
          go_wp2
          refine wp_region_held_drew (S := KD base wr) (by kernel_rfl) (KD.drew (KD.refl _ _)) (fun hHeld => ?_)
          refine takeY (i := 0) rfl (by kernel_rfl) (by kernel_rfl) (by kernel_rfl) (fun _ _ _ _ h => h) (by rfl) hHeld ?_
          apply Exists.intro
          apply And.intro
          · intro W3 hS3
            (try have z1 := da1 W3 hS3)
            (try have z2 := db1 W3 hS3)
            (try have z3 := dc1 W3 hS3)
            go_simp
            try rfl
          try simp only [Act.put, List.getElem_toArray, List.getElem_cons_zero, List.getElem_cons_succ, List.setIfInBounds_toArray, List.set_cons_zero, List.set_cons_succ]
          refine takeY (i := 1) rfl (by kernel_rfl) (by kernel_rfl) (by kernel_rfl) (fun _ _ _ _ h => h) (by rfl) hHeld ?_
          apply Exists.intro
          apply And.intro
          · intro W3 hS3
            (try have z1 := da1 W3 hS3)
            (try have z2 := db1 W3 hS3)
            (try have z3 := dc1 W3 hS3)
            go_simp
            try rfl
          try simp only [Act.put, List.getElem_toArray, List.getElem_cons_zero, List.getElem_cons_succ, List.setIfInBounds_toArray, List.set_cons_zero, List.set_cons_succ]
          refine takeY (i := 2) rfl (by kernel_rfl) (by kernel_rfl) (by kernel_rfl) (fun _ _ _ _ h => h) (by rfl) hHeld ?_
          apply Exists.intro
          apply And.intro
          · intro W3 hS3
            (try have z1 := da1 W3 hS3)
            (try have z2 := db1 W3 hS3)
            (try have z3 := dc1 W3 hS3)
            go_simp
            try rfl
          try simp only [Act.put, List.getElem_toArray, List.getElem_cons_zero, List.getElem_cons_succ, List.setIfInBounds_toArray, List.set_cons_zero, List.set_cons_succ]
          refine takeY (i := 3) rfl (by kernel_rfl) (by kernel_rfl) (by kernel_rfl) (fun _ _ _ _ h => h) (by rfl) hHeld ?_
          apply Exists.intro
          apply And.intro
          · intro W3 hS3
            (try have z1 := da1 W3 hS3)
            (try have z2 := db1 W3 hS3)
            (try have z3 := dc1 W3 hS3)
            go_simp
            try rfl
          try simp only [Act.put, List.getElem_toArray, List.getElem_cons_zero, List.getElem_cons_succ, List.setIfInBounds_toArray, List.set_cons_zero, List.set_cons_succ]
          refine takeY (i := 4) rfl (by kernel_rfl) (by kernel_rfl) (by kernel_rfl) (fun _ _ _ _ h => h) (by rfl) hHeld ?_
          apply Exists.intro
          apply And.intro
          · intro W3 hS3
            (try have z1 := da1 W3 hS3)
            (try have z2 := db1 W3 hS3)
            (try have z3 := dc1 W3 hS3)
            go_simp
            try rfl
          try simp only [Act.put, List.getElem_toArray, List.getElem_cons_zero, List.getElem_cons_succ, List.setIfInBounds_toArray, List.set_cons_zero, List.set_cons_succ]
          refine takeY (i := 5) rfl (by kernel_rfl) (by kernel_rfl) (by kernel_rfl) (fun _ _ _ _ h => h) (by rfl) hHeld ?_
          apply Exists.intro
          apply And.intro
          · intro W3 hS3
            (try have z1 := da1 W3 hS3)
            (try have z2 := db1 W3 hS3)
            (try have z3 := dc1 W3 hS3)
            go_simp
            try rfl
          try simp only [Act.put, List.getElem_toArray, List.getElem_cons_zero, List.getElem_cons_succ, List.setIfInBounds_toArray, List.set_cons_zero, List.set_cons_succ]
          refine takeY (i := 6) rfl (by kernel_rfl) (by kernel_rfl) (by kernel_rfl) (fun _ _ _ _ h => h) (by rfl) hHeld ?_
          apply Exists.intro
          apply And.intro
          · intro W3 hS3
            (try have z1 := da1 W3 hS3)
            (try have z2 := db1 W3 hS3)
            (try have z3 := dc1 W3 hS3)
            go_simp
            try rfl
          try simp only [Act.put, List.getElem_toArray, List.getElem_cons_zero, List.getElem_cons_succ, List.setIfInBounds_toArray, List.set_cons_zero, List.set_cons_succ]
          refine wpAnyH_ready (rs := [7]) (by kernel_rfl) (by simp) ?_
          refine (AllReadyH.cons rfl (fun K hK => ?_) AllReadyH.nil)
          go_simp
          refine (HJO.out).mono ?_
          rintro e w2 ⟨rfl, hd2, hk2⟩
          have hk3 := KD.call hHeld hk2
          have HD2 := Lib.hid hd2
          clear hd2 hk2
          dsimp only
          refine hK.out _ _ hk3 (fun hHeld => ?_)
          clear hK K hk3
          try simp only [Act.put, List.getElem_toArray, List.getElem_cons_zero, List.getElem_cons_succ, List.setIfInBounds_toArray, List.set_cons_zero, List.set_cons_succ]
          refine wpAnyH_done (by kernel_rfl) ?_ _
          try simp only [Exit.then]
          clear da1 db1
          obtain ⟨w6, hw6⟩ : ∃ w6, w6 = w2 := ⟨_, rfl⟩
          subst hw6
          have HAR6 : Hid (ArrAt w6 w3.heap.size 45 P ∧ ArrAt w6 (w3.heap.size + 1) 47 R ∧ w6.cell? ⟨bl, ol + k, none⟩ = some (.string x)) := Lib.hid ⟨HAR.out.1.kid hHeld arrP_not, HAR.out.2.1.kid hHeld arrR_not, kd_cell hHeld HDR.out.size HBLB.out HAR.out.2.2⟩
          have HKW6 : Hid (Kid base w5 w6) := Lib.hid (HI.out.kid.trans hHeld)
          have HD6 := Lib.hid HD2.out
          clear hHeld HD2
          obtain ⟨vs, hvs, hrj⟩ := rjoin_d HD6.out.drewn hq4 hqq4
          rw [← hJ] at hrj
          have HRJ := Lib.hid hrj
          have e1 := HAR6.out.2.1.cell hq4
          have e2 := HAR6.out.2.1.cell hqq4
          have e3 : w6.cell? ⟨R q2, 1, none⟩ = some (vs 0) := heap_cell (X := w6) hvs.1 rfl
          have e4 : w6.cell? ⟨R q2, 2, none⟩ = some (vs 1) := heap_cell (X := w6) hvs.1 rfl
          have e5 : w6.cell? ⟨R q2, 3, none⟩ = some (vs 2) := heap_cell (X := w6) hvs.1 rfl
          have e6 : w6.cell? ⟨R q2, 4, none⟩ = some (vs 3) := heap_cell (X := w6) hvs.1 rfl
          obtain ⟨B2, hB2⟩ : ∃ B2, B2 = upN Bs q J.2 := ⟨_, rfl⟩
          rw [← hB2] at HRJ HD6
          clear hvs hrj hJ hB2 HJO
          generalize vs 0 = u0 at *
          generalize vs 1 = u1 at *
          generalize vs 2 = u2 at *
          generalize vs 3 = u3 at *
          go_wp2
          go_region_with (first
            | (go_at_call 27; (with_reducible refine HRJ.out.mono ?_); rintro e w8 ⟨rfl, hd8, hk8⟩; have HD8 := Lib.hid hd8; have HK8 := Lib.hid ((Kid.of_below (base := base) (Below.refl w6.heap.size w6).drew).trans hk8); clear hd8 hk8)
            | fail)
          all_goals
            have HAR8 : Hid (ArrAt w8 w3.heap.size 45 P ∧ ArrAt w8 (w3.heap.size + 1) 47 R ∧ w8.cell? ⟨bl, ol + k, none⟩ = some (.string x)) := Lib.hid ⟨HAR6.out.1.kid HK8.out arrP_not, HAR6.out.2.1.kid HK8.out arrR_not, kd_cell HK8.out HD6.out.size HBLB.out HAR6.out.2.2⟩
            have HKW : Hid (Kid base w5 w8) := Lib.hid (HKW6.out.trans HK8.out)
            clear e1 e2 e3 e4 e5 e6
            have da1 : ∀ W, KD base w8 W → W.cell? ⟨w3.heap.size, q, none⟩ = some (.pointer (some ⟨P q, 0, none⟩)) := fun W hW => (HAR8).out.1.hold arrP_not hW hq4
            have dc1 : ∀ W, KD base w8 W → W.cell? ⟨bl, ol + k, none⟩ = some (.string x) := fun W hW => kd_cell hW (HD8).out.size HBLB.out (HAR8).out.2.2
            have HDO := Lib.hid (do_d (HD8).out.drewn hq4 x (by omega))
            obtain ⟨r1, hr1⟩ : ∃ r1, r1 = doB (B2 q) q x := ⟨_, rfl⟩
            have HR1 := Lib.hid hr1
            rw [show doB (B2 q) (idN q) x = r1 from hr1.symm] at HDO
            go_wp2
            refine wp_region_held_drew (S := KD base w8) (by kernel_rfl) (KD.drew (KD.refl _ _)) (fun hHeld => ?_)
            refine takeY (i := 0) rfl (by kernel_rfl) (by kernel_rfl) (by kernel_rfl) (fun _ _ _ _ h => h) (by rfl) hHeld ?_
            apply Exists.intro
            apply And.intro
            · intro W3 hS3
              (try have z1 := da1 W3 hS3)
              (try have z2 := db1 W3 hS3)
              (try have z3 := dc1 W3 hS3)
              go_simp
              try rfl
            try simp only [Act.put, List.getElem_toArray, List.getElem_cons_zero, List.getElem_cons_succ, List.setIfInBounds_toArray, List.set_cons_zero, List.set_cons_succ]
            refine takeY (i := 1) rfl (by kernel_rfl) (by kernel_rfl) (by kernel_rfl) (fun _ _ _ _ h => h) (by rfl) hHeld ?_
            apply Exists.intro
            apply And.intro
            · intro W3 hS3
              (try have z1 := da1 W3 hS3)
              (try have z2 := db1 W3 hS3)
              (try have z3 := dc1 W3 hS3)
              go_simp
              try rfl
            try simp only [Act.put, List.getElem_toArray, List.getElem_cons_zero, List.getElem_cons_succ, List.setIfInBounds_toArray, List.set_cons_zero, List.set_cons_succ]
            refine takeY (i := 2) rfl (by kernel_rfl) (by kernel_rfl) (by kernel_rfl) (fun _ _ _ _ h => h) (by rfl) hHeld ?_
            apply Exists.intro
            apply And.intro
            · intro W3 hS3
              (try have z1 := da1 W3 hS3)
              (try have z2 := db1 W3 hS3)
              (try have z3 := dc1 W3 hS3)
              go_simp
              try rfl
            try simp only [Act.put, List.getElem_toArray, List.getElem_cons_zero, List.getElem_cons_succ, List.setIfInBounds_toArray, List.set_cons_zero, List.set_cons_succ]
            refine takeY (i := 3) rfl (by kernel_rfl) (by kernel_rfl) (by kernel_rfl) (fun _ _ _ _ h => h) (by rfl) hHeld ?_
            apply Exists.intro
            apply And.intro
            · intro W3 hS3
              (try have z1 := da1 W3 hS3)
              (try have z2 := db1 W3 hS3)
              (try have z3 := dc1 W3 hS3)
              go_simp
              try rfl
            try simp only [Act.put, List.getElem_toArray, List.getElem_cons_zero, List.getElem_cons_succ, List.setIfInBounds_toArray, List.set_cons_zero, List.set_cons_succ]
            refine takeY (i := 4) rfl (by kernel_rfl) (by kernel_rfl) (by kernel_rfl) (fun _ _ _ _ h => h) (by rfl) hHeld ?_
            apply Exists.intro
            apply And.intro
            · intro W3 hS3
              (try have z1 := da1 W3 hS3)
              (try have z2 := db1 W3 hS3)
              (try have z3 := dc1 W3 hS3)
              go_simp
              try rfl
            try simp only [Act.put, List.getElem_toArray, List.getElem_cons_zero, List.getElem_cons_succ, List.setIfInBounds_toArray, List.set_cons_zero, List.set_cons_succ]
            refine takeY (i := 5) rfl (by kernel_rfl) (by kernel_rfl) (by kernel_rfl) (fun _ _ _ _ h => h) (by rfl) hHeld ?_
            apply Exists.intro
            apply And.intro
            · intro W3 hS3
              (try have z1 := da1 W3 hS3)
              (try have z2 := db1 W3 hS3)
              (try have z3 := dc1 W3 hS3)
              go_simp
              try rfl
            try simp only [Act.put, List.getElem_toArray, List.getElem_cons_zero, List.getElem_cons_succ, List.setIfInBounds_toArray, List.set_cons_zero, List.set_cons_succ]
            refine takeY (i := 6) rfl (by kernel_rfl) (by kernel_rfl) (by kernel_rfl) (fun _ _ _ _ h => h) (by rfl) hHeld ?_
            apply Exists.intro
            apply And.intro
            · intro W3 hS3
              (try have z1 := da1 W3 hS3)
              (try have z2 := db1 W3 hS3)
              (try have z3 := dc1 W3 hS3)
              go_simp
              try rfl
            try simp only [Act.put, List.getElem_toArray, List.getElem_cons_zero, List.getElem_cons_succ, List.setIfInBounds_toArray, List.set_cons_zero, List.set_cons_succ]
            refine wpAnyH_ready (rs := [7]) (by kernel_rfl) (by simp) ?_
            refine (AllReadyH.cons rfl (fun K hK => ?_) AllReadyH.nil)
            go_simp
            refine (HDO.out).mono ?_
            rintro e w2 ⟨rfl, hd2, hk2⟩
            have hk3 := KD.call hHeld hk2
            have HD2 := Lib.hid hd2
            clear hd2 hk2
            dsimp only
            refine hK.out _ _ hk3 (fun hHeld => ?_)
            clear hK K hk3
            try simp only [Act.put, List.getElem_toArray, List.getElem_cons_zero, List.getElem_cons_succ, List.setIfInBounds_toArray, List.set_cons_zero, List.set_cons_succ]
            refine wpAnyH_done (by kernel_rfl) ?_ _
            try simp only [Exit.then]
            clear da1 dc1
            obtain ⟨w7, hw7⟩ : ∃ w7, w7 = w2 := ⟨_, rfl⟩
            subst hw7
            have HAR7 : Hid (ArrAt w7 w3.heap.size 45 P ∧ ArrAt w7 (w3.heap.size + 1) 47 R ∧ w7.cell? ⟨bl, ol + k, none⟩ = some (.string x)) := Lib.hid ⟨(HAR8).out.1.kid hHeld arrP_not, (HAR8).out.2.1.kid hHeld arrR_not, kd_cell hHeld (HD8).out.size HBLB.out (HAR8).out.2.2⟩
            have HK7 := Lib.hid hHeld
            have HD7 := Lib.hid HD2.out
            clear hHeld HD2
            have db1 : ∀ W, KD base w7 W → W.cell? ⟨w3.heap.size + 1, q, none⟩ = some (.pointer (some ⟨R q, 0, none⟩)) := fun W hW => HAR7.out.2.1.hold arrR_not hW hq4
            have dc1 : ∀ W, KD base w7 W → W.cell? ⟨bl, ol + k, none⟩ = some (.string x) := fun W hW => kd_cell hW HD7.out.size HBLB.out HAR7.out.2.2
            have HRO := Lib.hid (rdo_d HD7.out.drewn hq4 x (by omega))
            rw [show doB (B2 q) (idN q) x = r1 from hr1.symm] at HRO
            clear hr1
            go_wp2
            refine wp_region_held_drew (S := KD base w7) (by kernel_rfl) (KD.drew (KD.refl _ _)) (fun hHeld => ?_)
            refine takeY (i := 0) rfl (by kernel_rfl) (by kernel_rfl) (by kernel_rfl) (fun _ _ _ _ h => h) (by rfl) hHeld ?_
            apply Exists.intro
            apply And.intro
            · intro W3 hS3
              (try have z1 := da1 W3 hS3)
              (try have z2 := db1 W3 hS3)
              (try have z3 := dc1 W3 hS3)
              go_simp
              try rfl
            try simp only [Act.put, List.getElem_toArray, List.getElem_cons_zero, List.getElem_cons_succ, List.setIfInBounds_toArray, List.set_cons_zero, List.set_cons_succ]
            refine takeY (i := 1) rfl (by kernel_rfl) (by kernel_rfl) (by kernel_rfl) (fun _ _ _ _ h => h) (by rfl) hHeld ?_
            apply Exists.intro
            apply And.intro
            · intro W3 hS3
              (try have z1 := da1 W3 hS3)
              (try have z2 := db1 W3 hS3)
              (try have z3 := dc1 W3 hS3)
              go_simp
              try rfl
            try simp only [Act.put, List.getElem_toArray, List.getElem_cons_zero, List.getElem_cons_succ, List.setIfInBounds_toArray, List.set_cons_zero, List.set_cons_succ]
            refine takeY (i := 2) rfl (by kernel_rfl) (by kernel_rfl) (by kernel_rfl) (fun _ _ _ _ h => h) (by rfl) hHeld ?_
            apply Exists.intro
            apply And.intro
            · intro W3 hS3
              (try have z1 := da1 W3 hS3)
              (try have z2 := db1 W3 hS3)
              (try have z3 := dc1 W3 hS3)
              go_simp
              try rfl
            try simp only [Act.put, List.getElem_toArray, List.getElem_cons_zero, List.getElem_cons_succ, List.setIfInBounds_toArray, List.set_cons_zero, List.set_cons_succ]
            refine takeY (i := 3) rfl (by kernel_rfl) (by kernel_rfl) (by kernel_rfl) (fun _ _ _ _ h => h) (by rfl) hHeld ?_
            apply Exists.intro
            apply And.intro
            · intro W3 hS3
              (try have z1 := da1 W3 hS3)
              (try have z2 := db1 W3 hS3)
              (try have z3 := dc1 W3 hS3)
              go_simp
              try rfl
            try simp only [Act.put, List.getElem_toArray, List.getElem_cons_zero, List.getElem_cons_succ, List.setIfInBounds_toArray, List.set_cons_zero, List.set_cons_succ]
            refine takeY (i := 4) rfl (by kernel_rfl) (by kernel_rfl) (by kernel_rfl) (fun _ _ _ _ h => h) (by rfl) hHeld ?_
            apply Exists.intro
            apply And.intro
            · intro W3 hS3
              (try have z1 := da1 W3 hS3)
              (try have z2 := db1 W3 hS3)
              (try have z3 := dc1 W3 hS3)
              go_simp
              try rfl
            try simp only [Act.put, List.getElem_toArray, List.getElem_cons_zero, List.getElem_cons_succ, List.setIfInBounds_toArray, List.set_cons_zero, List.set_cons_succ]
            refine takeY (i := 5) rfl (by kernel_rfl) (by kernel_rfl) (by kernel_rfl) (fun _ _ _ _ h => h) (by rfl) hHeld ?_
            apply Exists.intro
            apply And.intro
            · intro W3 hS3
              (try have z1 := da1 W3 hS3)
              (try have z2 := db1 W3 hS3)
              (try have z3 := dc1 W3 hS3)
              go_simp
              try rfl
            try simp only [Act.put, List.getElem_toArray, List.getElem_cons_zero, List.getElem_cons_succ, List.setIfInBounds_toArray, List.set_cons_zero, List.set_cons_succ]
            refine takeY (i := 6) rfl (by kernel_rfl) (by kernel_rfl) (by kernel_rfl) (fun _ _ _ _ h => h) (by rfl) hHeld ?_
            apply Exists.intro
            apply And.intro
            · intro W3 hS3
              (try have z1 := da1 W3 hS3)
              (try have z2 := db1 W3 hS3)
              (try have z3 := dc1 W3 hS3)
              go_simp
              try rfl
            try simp only [Act.put, List.getElem_toArray, List.getElem_cons_zero, List.getElem_cons_succ, List.setIfInBounds_toArray, List.set_cons_zero, List.set_cons_succ]
            refine wpAnyH_ready (rs := [7]) (by kernel_rfl) (by simp) ?_
            refine (AllReadyH.cons rfl (fun K hK => ?_) AllReadyH.nil)
            go_simp
            refine (HRO.out).mono ?_
            rintro e w2 ⟨rfl, hd2, hk2⟩
            have hk3 := KD.call hHeld hk2
            have HD2 := Lib.hid hd2
            clear hd2 hk2
            dsimp only
            refine hK.out _ _ hk3 (fun hHeld => ?_)
            clear hK K hk3
            try simp only [Act.put, List.getElem_toArray, List.getElem_cons_zero, List.getElem_cons_succ, List.setIfInBounds_toArray, List.set_cons_zero, List.set_cons_succ]
            refine wpAnyH_done (by kernel_rfl) ?_ _
            try simp only [Exit.then]
            have HI9 : Hid (TxI base w3.heap.size (w3.heap.size + 1) P R (upN B2 q r1.2.2) w5 w2) := Lib.hid ⟨HD2.out, HAR7.out.1.kid hHeld arrP_not, HAR7.out.2.1.kid hHeld arrR_not, (HKW.out.trans HK7.out).trans hHeld⟩
            clear hHeld
            go_wp2
            go_roundw
            case rel => exact ⟨k + 1, _, by omega, by go_num, HI9⟩
            case measure => simp [intOf]; omega
        | false =>
          have HKW := Lib.hid HI.out.kid
          have da1 : ∀ W, KD base wr W → W.cell? ⟨w3.heap.size, q, none⟩ = some (.pointer (some ⟨P q, 0, none⟩)) := fun W hW => (HAR).out.1.hold arrP_not hW hq4
          have dc1 : ∀ W, KD base wr W → W.cell? ⟨bl, ol + k, none⟩ = some (.string x) := fun W hW => kd_cell hW (HDR).out.size HBLB.out (HAR).out.2.2
          have HDO := Lib.hid (do_d (HDR).out.drewn hq4 x (by omega))
          obtain ⟨r1, hr1⟩ : ∃ r1, r1 = doB (Bs q) q x := ⟨_, rfl⟩
          have HR1 := Lib.hid hr1
          rw [show doB (Bs q) (idN q) x = r1 from hr1.symm] at HDO
          go_wp2
          refine wp_region_held_drew (S := KD base wr) (by kernel_rfl) (KD.drew (KD.refl _ _)) (fun hHeld => ?_)
          refine takeY (i := 0) rfl (by kernel_rfl) (by kernel_rfl) (by kernel_rfl) (fun _ _ _ _ h => h) (by rfl) hHeld ?_
          apply Exists.intro
          apply And.intro
          · intro W3 hS3
            (try have z1 := da1 W3 hS3)
            (try have z2 := db1 W3 hS3)
            (try have z3 := dc1 W3 hS3)
            go_simp
            try rfl
          try simp only [Act.put, List.getElem_toArray, List.getElem_cons_zero, List.getElem_cons_succ, List.setIfInBounds_toArray, List.set_cons_zero, List.set_cons_succ]
          refine takeY (i := 1) rfl (by kernel_rfl) (by kernel_rfl) (by kernel_rfl) (fun _ _ _ _ h => h) (by rfl) hHeld ?_
          apply Exists.intro
          apply And.intro
          · intro W3 hS3
            (try have z1 := da1 W3 hS3)
            (try have z2 := db1 W3 hS3)
            (try have z3 := dc1 W3 hS3)
            go_simp
            try rfl
          try simp only [Act.put, List.getElem_toArray, List.getElem_cons_zero, List.getElem_cons_succ, List.setIfInBounds_toArray, List.set_cons_zero, List.set_cons_succ]
          refine takeY (i := 2) rfl (by kernel_rfl) (by kernel_rfl) (by kernel_rfl) (fun _ _ _ _ h => h) (by rfl) hHeld ?_
          apply Exists.intro
          apply And.intro
          · intro W3 hS3
            (try have z1 := da1 W3 hS3)
            (try have z2 := db1 W3 hS3)
            (try have z3 := dc1 W3 hS3)
            go_simp
            try rfl
          try simp only [Act.put, List.getElem_toArray, List.getElem_cons_zero, List.getElem_cons_succ, List.setIfInBounds_toArray, List.set_cons_zero, List.set_cons_succ]
          refine takeY (i := 3) rfl (by kernel_rfl) (by kernel_rfl) (by kernel_rfl) (fun _ _ _ _ h => h) (by rfl) hHeld ?_
          apply Exists.intro
          apply And.intro
          · intro W3 hS3
            (try have z1 := da1 W3 hS3)
            (try have z2 := db1 W3 hS3)
            (try have z3 := dc1 W3 hS3)
            go_simp
            try rfl
          try simp only [Act.put, List.getElem_toArray, List.getElem_cons_zero, List.getElem_cons_succ, List.setIfInBounds_toArray, List.set_cons_zero, List.set_cons_succ]
          refine takeY (i := 4) rfl (by kernel_rfl) (by kernel_rfl) (by kernel_rfl) (fun _ _ _ _ h => h) (by rfl) hHeld ?_
          apply Exists.intro
          apply And.intro
          · intro W3 hS3
            (try have z1 := da1 W3 hS3)
            (try have z2 := db1 W3 hS3)
            (try have z3 := dc1 W3 hS3)
            go_simp
            try rfl
          try simp only [Act.put, List.getElem_toArray, List.getElem_cons_zero, List.getElem_cons_succ, List.setIfInBounds_toArray, List.set_cons_zero, List.set_cons_succ]
          refine takeY (i := 5) rfl (by kernel_rfl) (by kernel_rfl) (by kernel_rfl) (fun _ _ _ _ h => h) (by rfl) hHeld ?_
          apply Exists.intro
          apply And.intro
          · intro W3 hS3
            (try have z1 := da1 W3 hS3)
            (try have z2 := db1 W3 hS3)
            (try have z3 := dc1 W3 hS3)
            go_simp
            try rfl
          try simp only [Act.put, List.getElem_toArray, List.getElem_cons_zero, List.getElem_cons_succ, List.setIfInBounds_toArray, List.set_cons_zero, List.set_cons_succ]
          refine takeY (i := 6) rfl (by kernel_rfl) (by kernel_rfl) (by kernel_rfl) (fun _ _ _ _ h => h) (by rfl) hHeld ?_
          apply Exists.intro
          apply And.intro
          · intro W3 hS3
            (try have z1 := da1 W3 hS3)
            (try have z2 := db1 W3 hS3)
            (try have z3 := dc1 W3 hS3)
            go_simp
            try rfl
          try simp only [Act.put, List.getElem_toArray, List.getElem_cons_zero, List.getElem_cons_succ, List.setIfInBounds_toArray, List.set_cons_zero, List.set_cons_succ]
          refine wpAnyH_ready (rs := [7]) (by kernel_rfl) (by simp) ?_
          refine (AllReadyH.cons rfl (fun K hK => ?_) AllReadyH.nil)
          go_simp
          refine (HDO.out).mono ?_
          rintro e w2 ⟨rfl, hd2, hk2⟩
          have hk3 := KD.call hHeld hk2
          have HD2 := Lib.hid hd2
          clear hd2 hk2
          dsimp only
          refine hK.out _ _ hk3 (fun hHeld => ?_)
          clear hK K hk3
          try simp only [Act.put, List.getElem_toArray, List.getElem_cons_zero, List.getElem_cons_succ, List.setIfInBounds_toArray, List.set_cons_zero, List.set_cons_succ]
          refine wpAnyH_done (by kernel_rfl) ?_ _
          try simp only [Exit.then]
          clear da1 dc1
          obtain ⟨w7, hw7⟩ : ∃ w7, w7 = w2 := ⟨_, rfl⟩
          subst hw7
          have HAR7 : Hid (ArrAt w7 w3.heap.size 45 P ∧ ArrAt w7 (w3.heap.size + 1) 47 R ∧ w7.cell? ⟨bl, ol + k, none⟩ = some (.string x)) := Lib.hid ⟨(HAR).out.1.kid hHeld arrP_not, (HAR).out.2.1.kid hHeld arrR_not, kd_cell hHeld (HDR).out.size HBLB.out (HAR).out.2.2⟩
          have HK7 := Lib.hid hHeld
          have HD7 := Lib.hid HD2.out
          clear hHeld HD2
          have db1 : ∀ W, KD base w7 W → W.cell? ⟨w3.heap.size + 1, q, none⟩ = some (.pointer (some ⟨R q, 0, none⟩)) := fun W hW => HAR7.out.2.1.hold arrR_not hW hq4
          have dc1 : ∀ W, KD base w7 W → W.cell? ⟨bl, ol + k, none⟩ = some (.string x) := fun W hW => kd_cell hW HD7.out.size HBLB.out HAR7.out.2.2
          have HRO := Lib.hid (rdo_d HD7.out.drewn hq4 x (by omega))
          rw [show doB (Bs q) (idN q) x = r1 from hr1.symm] at HRO
          clear hr1
          go_wp2
          refine wp_region_held_drew (S := KD base w7) (by kernel_rfl) (KD.drew (KD.refl _ _)) (fun hHeld => ?_)
          refine takeY (i := 0) rfl (by kernel_rfl) (by kernel_rfl) (by kernel_rfl) (fun _ _ _ _ h => h) (by rfl) hHeld ?_
          apply Exists.intro
          apply And.intro
          · intro W3 hS3
            (try have z1 := da1 W3 hS3)
            (try have z2 := db1 W3 hS3)
            (try have z3 := dc1 W3 hS3)
            go_simp
            try rfl
          try simp only [Act.put, List.getElem_toArray, List.getElem_cons_zero, List.getElem_cons_succ, List.setIfInBounds_toArray, List.set_cons_zero, List.set_cons_succ]
          refine takeY (i := 1) rfl (by kernel_rfl) (by kernel_rfl) (by kernel_rfl) (fun _ _ _ _ h => h) (by rfl) hHeld ?_
          apply Exists.intro
          apply And.intro
          · intro W3 hS3
            (try have z1 := da1 W3 hS3)
            (try have z2 := db1 W3 hS3)
            (try have z3 := dc1 W3 hS3)
            go_simp
            try rfl
          try simp only [Act.put, List.getElem_toArray, List.getElem_cons_zero, List.getElem_cons_succ, List.setIfInBounds_toArray, List.set_cons_zero, List.set_cons_succ]
          refine takeY (i := 2) rfl (by kernel_rfl) (by kernel_rfl) (by kernel_rfl) (fun _ _ _ _ h => h) (by rfl) hHeld ?_
          apply Exists.intro
          apply And.intro
          · intro W3 hS3
            (try have z1 := da1 W3 hS3)
            (try have z2 := db1 W3 hS3)
            (try have z3 := dc1 W3 hS3)
            go_simp
            try rfl
          try simp only [Act.put, List.getElem_toArray, List.getElem_cons_zero, List.getElem_cons_succ, List.setIfInBounds_toArray, List.set_cons_zero, List.set_cons_succ]
          refine takeY (i := 3) rfl (by kernel_rfl) (by kernel_rfl) (by kernel_rfl) (fun _ _ _ _ h => h) (by rfl) hHeld ?_
          apply Exists.intro
          apply And.intro
          · intro W3 hS3
            (try have z1 := da1 W3 hS3)
            (try have z2 := db1 W3 hS3)
            (try have z3 := dc1 W3 hS3)
            go_simp
            try rfl
          try simp only [Act.put, List.getElem_toArray, List.getElem_cons_zero, List.getElem_cons_succ, List.setIfInBounds_toArray, List.set_cons_zero, List.set_cons_succ]
          refine takeY (i := 4) rfl (by kernel_rfl) (by kernel_rfl) (by kernel_rfl) (fun _ _ _ _ h => h) (by rfl) hHeld ?_
          apply Exists.intro
          apply And.intro
          · intro W3 hS3
            (try have z1 := da1 W3 hS3)
            (try have z2 := db1 W3 hS3)
            (try have z3 := dc1 W3 hS3)
            go_simp
            try rfl
          try simp only [Act.put, List.getElem_toArray, List.getElem_cons_zero, List.getElem_cons_succ, List.setIfInBounds_toArray, List.set_cons_zero, List.set_cons_succ]
          refine takeY (i := 5) rfl (by kernel_rfl) (by kernel_rfl) (by kernel_rfl) (fun _ _ _ _ h => h) (by rfl) hHeld ?_
          apply Exists.intro
          apply And.intro
          · intro W3 hS3
            (try have z1 := da1 W3 hS3)
            (try have z2 := db1 W3 hS3)
            (try have z3 := dc1 W3 hS3)
            go_simp
            try rfl
          try simp only [Act.put, List.getElem_toArray, List.getElem_cons_zero, List.getElem_cons_succ, List.setIfInBounds_toArray, List.set_cons_zero, List.set_cons_succ]
          refine takeY (i := 6) rfl (by kernel_rfl) (by kernel_rfl) (by kernel_rfl) (fun _ _ _ _ h => h) (by rfl) hHeld ?_
          apply Exists.intro
          apply And.intro
          · intro W3 hS3
            (try have z1 := da1 W3 hS3)
            (try have z2 := db1 W3 hS3)
            (try have z3 := dc1 W3 hS3)
            go_simp
            try rfl
          try simp only [Act.put, List.getElem_toArray, List.getElem_cons_zero, List.getElem_cons_succ, List.setIfInBounds_toArray, List.set_cons_zero, List.set_cons_succ]
          refine wpAnyH_ready (rs := [7]) (by kernel_rfl) (by simp) ?_
          refine (AllReadyH.cons rfl (fun K hK => ?_) AllReadyH.nil)
          go_simp
          refine (HRO.out).mono ?_
          rintro e w2 ⟨rfl, hd2, hk2⟩
          have hk3 := KD.call hHeld hk2
          have HD2 := Lib.hid hd2
          clear hd2 hk2
          dsimp only
          refine hK.out _ _ hk3 (fun hHeld => ?_)
          clear hK K hk3
          try simp only [Act.put, List.getElem_toArray, List.getElem_cons_zero, List.getElem_cons_succ, List.setIfInBounds_toArray, List.set_cons_zero, List.set_cons_succ]
          refine wpAnyH_done (by kernel_rfl) ?_ _
          try simp only [Exit.then]
          have HI9 : Hid (TxI base w3.heap.size (w3.heap.size + 1) P R (upN Bs q r1.2.2) w5 w2) := Lib.hid ⟨HD2.out, HAR7.out.1.kid hHeld arrP_not, HAR7.out.2.1.kid hHeld arrR_not, (HKW.out.trans HK7.out).trans hHeld⟩
          clear hHeld
          go_wp2
          go_roundw
          case rel => exact ⟨k + 1, _, by omega, by go_num, HI9⟩
          case measure => simp [intOf]; omega
      · obtain rfl : k = ln := by omega
        have HQE : Hid (wr.heap[w.heap.size]? = some (.cells #[.int .i64 a, .int .i64 b, .int .i64 c, .int .i64 d] 34 (0, 0))) := Lib.hid (by
          have h1 := (HB12.out.block _ (Array.getElem?_eq_some_iff.1 HQ1.out).1).trans HQ1.out
          have h2 := (HB25.out.block _ HLO.out).trans h1
          exact ((HI.out.kid.below HD5.out.size).block _ HLO.out).trans h2)
        have HDE := Lib.hid HI.out.duo
        have HAE := Lib.hid HI.out.arrP
        have HRE := Lib.hid HI.out.arrR
        have HKE := Lib.hid HI.out.kid
        obtain ⟨wE, hwE⟩ : ∃ wE, wE = wr := ⟨_, rfl⟩
        subst hwE
        clear HI hk hlt HI0
        go_wp2
        go_loopw [12] (fun i wr => ∃ j : Nat, j ≤ 2 ∧ i = .int .i64 j ∧ Hid (Below wE.heap.size wE wr)) (fun i _ => 2 - (intOf i).toNat)
        case atStart => exact ⟨0, by omega, rfl, Lib.hid (Below.refl _ _)⟩
        case round =>
          obtain ⟨j, hj, rfl, HBW⟩ := hrel
          by_cases hlt : j < 2
          · have hlt2 : (j : Int) < 2 := by omega
            have hge : (0 : Int) ≤ (j : Int) := by omega
            have hj4 : j < 4 := by omega
            have hj4i : (j : Int) < 4 := by omega
            have HDW := Lib.hid (HDE.out.below HBW.out)
            have HAW := Lib.hid (HAE.out.below HBW.out)
            have HRW := Lib.hid (HRE.out.below HBW.out)
            have HQW := Lib.hid ((HBW.out.block _ (Array.getElem?_eq_some_iff.1 HQE.out).1).trans HQE.out)
            have da1 : ∀ W, KB wr W → W.cell? ⟨w3.heap.size, j, none⟩ = some (.pointer (some ⟨P j, 0, none⟩)) := fun W hW => keep_cell hW (HAW.out.cell hj4)
            have db1 : ∀ W, KB wr W → W.cell? ⟨w3.heap.size + 1, j, none⟩ = some (.pointer (some ⟨R j, 0, none⟩)) := fun W hW => keep_cell hW (HRW.out.cell hj4)
            have dq0 : ∀ W, KB wr W → W.cell? ⟨w.heap.size, 0, none⟩ = some (.int .i64 a) := fun W hW => keep_cell hW (heap_cell HQW.out rfl)
            have dq1 : ∀ W, KB wr W → W.cell? ⟨w.heap.size, 1, none⟩ = some (.int .i64 b) := fun W hW => keep_cell hW (heap_cell HQW.out rfl)
            have dq2 : ∀ W, KB wr W → W.cell? ⟨w.heap.size, 2, none⟩ = some (.int .i64 c) := fun W hW => keep_cell hW (heap_cell HQW.out rfl)
            have dq3 : ∀ W, KB wr W → W.cell? ⟨w.heap.size, 3, none⟩ = some (.int .i64 d) := fun W hW => keep_cell hW (heap_cell HQW.out rfl)
            have HT1 := Lib.hid (fun W (hW : KB wr W) => text_d (HDW.out.below hW) hj4)
            have HT2 := Lib.hid (fun W (hW : KB wr W) => rtext_d (HDW.out.below hW) hj4)
            have HS1 := Lib.hid (fun W (hW : KB wr W) => since_d (HDW.out.below hW) hj4 a b c d (quadF a b c d) ⟨rfl, rfl, rfl, rfl⟩)
            have HS2 := Lib.hid (fun W (hW : KB wr W) => rsince_d (HDW.out.below hW) hj4 a b c d (quadF a b c d) ⟨rfl, rfl, rfl, rfl⟩)
            have HSL := Lib.hid (since_len (HDW.out.ok hj4) (quadF a b c d))
            generalize textB (Bs j) = tb at *
            generalize sinceB (Bs j) (quadF a b c d) = l at *
            have hbb : (tb.toList == tb.toList) = true := by simp
            go_wp2
            refine wp_region_held_drew (S := KB wr) (by kernel_rfl) (KB.drew (KB.refl _)) (fun hHeld => ?_)
            refine takeY (i := 0) rfl (by kernel_rfl) (by kernel_rfl) (by kernel_rfl) (fun _ _ _ _ h => h) (by rfl) hHeld ?_
            apply Exists.intro
            apply And.intro
            · intro W3 hS3
              have z1 := da1 W3 hS3
              have z2 := db1 W3 hS3
              have z4 := dq0 W3 hS3
              have z5 := dq1 W3 hS3
              have z6 := dq2 W3 hS3
              have z7 := dq3 W3 hS3
              go_simp
              try rfl
            try simp only [Act.put, List.getElem_toArray, List.getElem_cons_zero, List.getElem_cons_succ, List.setIfInBounds_toArray, List.set_cons_zero, List.set_cons_succ]
            refine takeY (i := 1) rfl (by kernel_rfl) (by kernel_rfl) (by kernel_rfl) (fun _ _ _ _ h => h) (by rfl) hHeld ?_
            apply Exists.intro
            apply And.intro
            · intro W3 hS3
              have z1 := da1 W3 hS3
              have z2 := db1 W3 hS3
              have z4 := dq0 W3 hS3
              have z5 := dq1 W3 hS3
              have z6 := dq2 W3 hS3
              have z7 := dq3 W3 hS3
              go_simp
              try rfl
            try simp only [Act.put, List.getElem_toArray, List.getElem_cons_zero, List.getElem_cons_succ, List.setIfInBounds_toArray, List.set_cons_zero, List.set_cons_succ]
            refine takeY (i := 2) rfl (by kernel_rfl) (by kernel_rfl) (by kernel_rfl) (fun _ _ _ _ h => h) (by rfl) hHeld ?_
            apply Exists.intro
            apply And.intro
            · intro W3 hS3
              have z1 := da1 W3 hS3
              have z2 := db1 W3 hS3
              have z4 := dq0 W3 hS3
              have z5 := dq1 W3 hS3
              have z6 := dq2 W3 hS3
              have z7 := dq3 W3 hS3
              go_simp
              try rfl
            try simp only [Act.put, List.getElem_toArray, List.getElem_cons_zero, List.getElem_cons_succ, List.setIfInBounds_toArray, List.set_cons_zero, List.set_cons_succ]
            refine takeY (i := 4) rfl (by kernel_rfl) (by kernel_rfl) (by kernel_rfl) (fun _ _ _ _ h => h) (by rfl) hHeld ?_
            apply Exists.intro
            apply And.intro
            · intro W3 hS3
              have z1 := da1 W3 hS3
              have z2 := db1 W3 hS3
              have z4 := dq0 W3 hS3
              have z5 := dq1 W3 hS3
              have z6 := dq2 W3 hS3
              have z7 := dq3 W3 hS3
              go_simp
              try rfl
            try simp only [Act.put, List.getElem_toArray, List.getElem_cons_zero, List.getElem_cons_succ, List.setIfInBounds_toArray, List.set_cons_zero, List.set_cons_succ]
            refine takeY (i := 5) rfl (by kernel_rfl) (by kernel_rfl) (by kernel_rfl) (fun _ _ _ _ h => h) (by rfl) hHeld ?_
            apply Exists.intro
            apply And.intro
            · intro W3 hS3
              have z1 := da1 W3 hS3
              have z2 := db1 W3 hS3
              have z4 := dq0 W3 hS3
              have z5 := dq1 W3 hS3
              have z6 := dq2 W3 hS3
              have z7 := dq3 W3 hS3
              go_simp
              try rfl
            try simp only [Act.put, List.getElem_toArray, List.getElem_cons_zero, List.getElem_cons_succ, List.setIfInBounds_toArray, List.set_cons_zero, List.set_cons_succ]
            refine takeY (i := 6) rfl (by kernel_rfl) (by kernel_rfl) (by kernel_rfl) (fun _ _ _ _ h => h) (by rfl) hHeld ?_
            apply Exists.intro
            apply And.intro
            · intro W3 hS3
              have z1 := da1 W3 hS3
              have z2 := db1 W3 hS3
              have z4 := dq0 W3 hS3
              have z5 := dq1 W3 hS3
              have z6 := dq2 W3 hS3
              have z7 := dq3 W3 hS3
              go_simp
              try rfl
            try simp only [Act.put, List.getElem_toArray, List.getElem_cons_zero, List.getElem_cons_succ, List.setIfInBounds_toArray, List.set_cons_zero, List.set_cons_succ]
            refine wpAnyH_ready (rs := [3]) (by kernel_rfl) (by simp) ?_
            refine (AllReadyH.cons rfl (fun K hK => ?_) AllReadyH.nil)
            go_simp
            refine (HT1.out _ hHeld).mono ?_
            rintro e w2 ⟨rfl, hb2⟩
            have hk2 := KB.call (w := wr) hHeld hb2
            clear hb2
            dsimp only
            refine hK.out _ _ hk2 (fun hHeld => ?_)
            clear hK K hk2
            try simp only [Act.put, List.getElem_toArray, List.getElem_cons_zero, List.getElem_cons_succ, List.setIfInBounds_toArray, List.set_cons_zero, List.set_cons_succ]
            refine wpAnyH_ready (rs := [7]) (by kernel_rfl) (by simp) ?_
            refine (AllReadyH.cons rfl (fun K hK => ?_) AllReadyH.nil)
            go_simp
            refine (HT2.out _ hHeld).mono ?_
            rintro e w2 ⟨rfl, hb2⟩
            have hk2 := KB.call (w := wr) hHeld hb2
            clear hb2
            dsimp only
            refine hK.out _ _ hk2 (fun hHeld => ?_)
            clear hK K hk2
            try simp only [Act.put, List.getElem_toArray, List.getElem_cons_zero, List.getElem_cons_succ, List.setIfInBounds_toArray, List.set_cons_zero, List.set_cons_succ]
            refine takeY (i := 8) rfl (by kernel_rfl) (by kernel_rfl) (by kernel_rfl) (fun _ _ _ _ h => h) (by rfl) hHeld ?_
            apply Exists.intro
            apply And.intro
            · intro W3 hS3
              have z1 := da1 W3 hS3
              have z2 := db1 W3 hS3
              have z4 := dq0 W3 hS3
              have z5 := dq1 W3 hS3
              have z6 := dq2 W3 hS3
              have z7 := dq3 W3 hS3
              go_simp
              try rfl
            try simp only [Act.put, List.getElem_toArray, List.getElem_cons_zero, List.getElem_cons_succ, List.setIfInBounds_toArray, List.set_cons_zero, List.set_cons_succ]
            refine takeY (i := 9) rfl (by kernel_rfl) (by kernel_rfl) (by kernel_rfl) (fun _ _ _ _ h => h) (by rfl) hHeld ?_
            apply Exists.intro
            apply And.intro
            · intro W3 hS3
              have z1 := da1 W3 hS3
              have z2 := db1 W3 hS3
              have z4 := dq0 W3 hS3
              have z5 := dq1 W3 hS3
              have z6 := dq2 W3 hS3
              have z7 := dq3 W3 hS3
              go_simp
              try rfl
            try simp only [Act.put, List.getElem_toArray, List.getElem_cons_zero, List.getElem_cons_succ, List.setIfInBounds_toArray, List.set_cons_zero, List.set_cons_succ]
            refine takeY (i := 10) rfl (by kernel_rfl) (by kernel_rfl) (by kernel_rfl) (fun _ _ _ _ h => h) (by rfl) hHeld ?_
            apply Exists.intro
            apply And.intro
            · intro W3 hS3
              have z1 := da1 W3 hS3
              have z2 := db1 W3 hS3
              have z4 := dq0 W3 hS3
              have z5 := dq1 W3 hS3
              have z6 := dq2 W3 hS3
              have z7 := dq3 W3 hS3
              go_simp
              try rfl
            try simp only [Act.put, List.getElem_toArray, List.getElem_cons_zero, List.getElem_cons_succ, List.setIfInBounds_toArray, List.set_cons_zero, List.set_cons_succ]
            refine takeY (i := 11) rfl (by kernel_rfl) (by kernel_rfl) (by kernel_rfl) (fun _ _ _ _ h => h) (by rfl) hHeld ?_
            apply Exists.intro
            apply And.intro
            · intro W3 hS3
              have z1 := da1 W3 hS3
              have z2 := db1 W3 hS3
              have z4 := dq0 W3 hS3
              have z5 := dq1 W3 hS3
              have z6 := dq2 W3 hS3
              have z7 := dq3 W3 hS3
              go_simp
              try rfl
            try simp only [Act.put, List.getElem_toArray, List.getElem_cons_zero, List.getElem_cons_succ, List.setIfInBounds_toArray, List.set_cons_zero, List.set_cons_succ]
            refine takeY (i := 12) rfl (by kernel_rfl) (by kernel_rfl) (by kernel_rfl) (fun _ _ _ _ h => h) (by rfl) hHeld ?_
            apply Exists.intro
            apply And.intro
            · intro W3 hS3
              have z1 := da1 W3 hS3
              have z2 := db1 W3 hS3
              have z4 := dq0 W3 hS3
              have z5 := dq1 W3 hS3
              have z6 := dq2 W3 hS3
              have z7 := dq3 W3 hS3
              go_simp
              try rfl
            try simp only [Act.put, List.getElem_toArray, List.getElem_cons_zero, List.getElem_cons_succ, List.setIfInBounds_toArray, List.set_cons_zero, List.set_cons_succ]
            refine takeY (i := 13) rfl (by kernel_rfl) (by kernel_rfl) (by kernel_rfl) (fun _ _ _ _ h => h) (by rfl) hHeld ?_
            apply Exists.intro
            apply And.intro
            · intro W3 hS3
              have z1 := da1 W3 hS3
              have z2 := db1 W3 hS3
              have z4 := dq0 W3 hS3
              have z5 := dq1 W3 hS3
              have z6 := dq2 W3 hS3
              have z7 := dq3 W3 hS3
              go_simp
              try rfl
            try simp only [Act.put, List.getElem_toArray, List.getElem_cons_zero, List.getElem_cons_succ, List.setIfInBounds_toArray, List.set_cons_zero, List.set_cons_succ]
            refine takeY (i := 15) rfl (by kernel_rfl) (by kernel_rfl) (by kernel_rfl) (fun _ _ _ _ h => h) (by rfl) hHeld ?_
            apply Exists.intro
            apply And.intro
            · intro W3 hS3
              have z1 := da1 W3 hS3
              have z2 := db1 W3 hS3
              have z4 := dq0 W3 hS3
              have z5 := dq1 W3 hS3
              have z6 := dq2 W3 hS3
              have z7 := dq3 W3 hS3
              go_simp
              try rfl
            try simp only [Act.put, List.getElem_toArray, List.getElem_cons_zero, List.getElem_cons_succ, List.setIfInBounds_toArray, List.set_cons_zero, List.set_cons_succ]
            refine takeY (i := 16) rfl (by kernel_rfl) (by kernel_rfl) (by kernel_rfl) (fun _ _ _ _ h => h) (by rfl) hHeld ?_
            apply Exists.intro
            apply And.intro
            · intro W3 hS3
              have z1 := da1 W3 hS3
              have z2 := db1 W3 hS3
              have z4 := dq0 W3 hS3
              have z5 := dq1 W3 hS3
              have z6 := dq2 W3 hS3
              have z7 := dq3 W3 hS3
              go_simp
              try rfl
            try simp only [Act.put, List.getElem_toArray, List.getElem_cons_zero, List.getElem_cons_succ, List.setIfInBounds_toArray, List.set_cons_zero, List.set_cons_succ]
            refine takeY (i := 17) rfl (by kernel_rfl) (by kernel_rfl) (by kernel_rfl) (fun _ _ _ _ h => h) (by rfl) hHeld ?_
            apply Exists.intro
            apply And.intro
            · intro W3 hS3
              have z1 := da1 W3 hS3
              have z2 := db1 W3 hS3
              have z4 := dq0 W3 hS3
              have z5 := dq1 W3 hS3
              have z6 := dq2 W3 hS3
              have z7 := dq3 W3 hS3
              go_simp
              try rfl
            try simp only [Act.put, List.getElem_toArray, List.getElem_cons_zero, List.getElem_cons_succ, List.setIfInBounds_toArray, List.set_cons_zero, List.set_cons_succ]
            refine takeY (i := 18) rfl (by kernel_rfl) (by kernel_rfl) (by kernel_rfl) (fun _ _ _ _ h => h) (by rfl) hHeld ?_
            apply Exists.intro
            apply And.intro
            · intro W3 hS3
              have z1 := da1 W3 hS3
              have z2 := db1 W3 hS3
              have z4 := dq0 W3 hS3
              have z5 := dq1 W3 hS3
              have z6 := dq2 W3 hS3
              have z7 := dq3 W3 hS3
              go_simp
              try rfl
            try simp only [Act.put, List.getElem_toArray, List.getElem_cons_zero, List.getElem_cons_succ, List.setIfInBounds_toArray, List.set_cons_zero, List.set_cons_succ]
            refine wpAnyH_ready (rs := [14]) (by kernel_rfl) (by simp) ?_
            refine (AllReadyH.cons rfl (fun K hK => ?_) AllReadyH.nil)
            go_simp
            refine (HS1.out _ hHeld).mono ?_
            rintro e w4 ⟨v1, rfl, hl1, _, hb4⟩
            have hk4 := KB.call (w := wr) hHeld hb4
            have HL1 : Hid (EntsAt w4 v1 l) := Lib.hid (hl1.ents (by have := HSL.out; omega))
            clear hb4 hl1
            dsimp only
            refine hK.out _ _ hk4 (fun hHeld => ?_)
            clear hK K hk4
            try simp only [Act.put, List.getElem_toArray, List.getElem_cons_zero, List.getElem_cons_succ, List.setIfInBounds_toArray, List.set_cons_zero, List.set_cons_succ]
            refine wpAnyH_ready (rs := [19]) (by kernel_rfl) (by simp) ?_
            refine (AllReadyH.cons rfl (fun K hK => ?_) AllReadyH.nil)
            go_simp
            refine (HS2.out _ hHeld).mono ?_
            rintro e w6 ⟨v2, rfl, hl2, _, hb6⟩
            have hk6 := KB.call (w := wr) hHeld hb6
            have HSM := Lib.hid (sameE_any v1 v2 l l w6 (HL1.out.below hb6) (hl2.ents (by have := HSL.out; omega)) (by have := HSL.out; omega))
            rw [decide_eq_true (rfl : l = l)] at HSM
            clear hb6 hl2
            dsimp only
            refine hK.out _ _ hk6 (fun hHeld => ?_)
            clear hK K hk6
            try simp only [Act.put, List.getElem_toArray, List.getElem_cons_zero, List.getElem_cons_succ, List.setIfInBounds_toArray, List.set_cons_zero, List.set_cons_succ]
            refine wpAnyH_ready (rs := [20]) (by kernel_rfl) (by simp) ?_
            refine (AllReadyH.cons rfl (fun K hK => ?_) AllReadyH.nil)
            go_simp
            refine HSM.out.mono ?_
            rintro e w8 ⟨rfl, hb8⟩
            have hk8 := KB.call (w := wr) hHeld hb8
            clear hb8
            dsimp only
            refine hK.out _ _ hk8 (fun hHeld => ?_)
            clear hK K hk8
            try simp only [Act.put, List.getElem_toArray, List.getElem_cons_zero, List.getElem_cons_succ, List.setIfInBounds_toArray, List.set_cons_zero, List.set_cons_succ]
            refine takeY (i := 21) rfl (by kernel_rfl) (by kernel_rfl) (by kernel_rfl) (fun _ _ _ _ h => h) (by rfl) hHeld ?_
            apply Exists.intro
            apply And.intro
            · intro W3 hS3
              have z1 := da1 W3 hS3
              have z2 := db1 W3 hS3
              have z4 := dq0 W3 hS3
              have z5 := dq1 W3 hS3
              have z6 := dq2 W3 hS3
              have z7 := dq3 W3 hS3
              go_simp
              try rfl
            try simp only [Act.put, List.getElem_toArray, List.getElem_cons_zero, List.getElem_cons_succ, List.setIfInBounds_toArray, List.set_cons_zero, List.set_cons_succ]
            refine takeY (i := 22) rfl (by kernel_rfl) (by kernel_rfl) (by kernel_rfl) (fun _ _ _ _ h => h) (by rfl) hHeld ?_
            apply Exists.intro
            apply And.intro
            · intro W3 hS3
              have z1 := da1 W3 hS3
              have z2 := db1 W3 hS3
              have z4 := dq0 W3 hS3
              have z5 := dq1 W3 hS3
              have z6 := dq2 W3 hS3
              have z7 := dq3 W3 hS3
              go_simp
              try rfl
            try simp only [Act.put, List.getElem_toArray, List.getElem_cons_zero, List.getElem_cons_succ, List.setIfInBounds_toArray, List.set_cons_zero, List.set_cons_succ]
            refine wpAnyH_done (by kernel_rfl) ?_ _
            try simp only [Exit.then]
            have HB5 := Lib.hid (HBW.out.trans (hHeld.mono HBW.out.size))
            clear hHeld
            go_wp2
            go_roundw
            case rel => exact ⟨j + 1, by omega, by go_num, HB5⟩
            case measure => simp [intOf]; omega
          · obtain rfl : j = 2 := by omega
            go_wp2_with fail
            refine (sane_any wr (HDE.out.below HBW.out).vars).mono ?_
            rintro e w9 ⟨rfl, hb9⟩
            have HB9 := Lib.hid (HBX.out.trans ((HKE.out.below HD5.out.size).trans ((HBW.out.mono (HDE.out.size)).trans (hb9.mono (Nat.le_trans HDE.out.size HBW.out.size))) |>.mono (Nat.le_of_lt HLO.out)))
            clear hb9
            go_wp2
            go_ret
            exact ⟨rfl, HB9.out⟩
end Go.Proofs.YtdfkaijeppdhaaaGreatDoor

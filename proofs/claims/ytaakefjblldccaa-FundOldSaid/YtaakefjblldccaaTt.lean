/- Contract: what claimants get who come in an order (the program). -/
import Derived.Test.YtaakefjblldccaaTw
namespace Go.Proofs.Ytaakefjblldccaa
open Go.RowKit

def okL (n : Nat) (l : List Int) (L : List Nat) : Prop := l = asI L ∧ L.length = n ∧ L.Nodup ∧ ∀ i ∈ L, i < n
theorem okO_iff {n : Nat} {l : List Int} : okO n l ↔ ∃ L, okL n l L := Iff.rfl
theorem asI_inj : ∀ {A B : List Nat}, asI A = asI B → A = B
  | [], [], _ => rfl
  | [], _ :: _, h => by simp [asI] at h
  | _ :: _, [], h => by simp [asI] at h
  | a :: A, b :: B, h => by
    simp only [asI, List.map_cons, List.cons.injEq] at h
    rw [show a = b by omega, asI_inj h.2]
def GivesU (c ord : List Int) (n : Int) (w : World) (e : Ending) (w' : World) : Prop :=
  ∃ v res er, e = .returned (.tuple #[v, .int .i64 er]) ∧ IntsAt w' v res ∧ Below w.heap.size w w' ∧ (askE c n ≠ 0 → er = askE c n ∧ res = []) ∧
    (askE c n = 0 → (¬ okO c.length ord → er = 2 ∧ res = []) ∧ ∀ L, okL c.length ord L → er = 0 ∧ res = (turnS c L (zst c n)).1)
theorem nil_ints (w : World) : IntsAt w (.slice none 0 0) [] := ⟨none, 0, rfl, by simp, fun h => by simp at h⟩
theorem GivesU.bad {c ord : List Int} {n : Int} {w w' : World} (ha : askE c n = 0) (hb : Below w.heap.size w w') (h : ¬ okO c.length ord) : GivesU c ord n w (.returned (.tuple #[.slice none 0 0, .int .i64 2])) w' :=
  ⟨_, [], 2, rfl, nil_ints _, hb, fun h' => absurd ha h', fun _ => ⟨fun _ => ⟨rfl, rfl⟩, fun L hL => absurd ⟨L, hL⟩ h⟩⟩
theorem GivesU.good {c ord : List Int} {n : Int} {w w' : World} {v : Value} {L : List Nat} (ha : askE c n = 0) (hb : Below w.heap.size w w') (h : okL c.length ord L) (hv : IntsAt w' v (turnS c L (zst c n)).1) : GivesU c ord n w (.returned (.tuple #[v, .int .i64 0])) w' :=
  ⟨_, _, 0, rfl, hv, hb, fun h' => absurd ha h', fun _ => ⟨fun h' => absurd ⟨L, h⟩ h', fun L' hL' => ⟨rfl, by rw [asI_inj (h.1.symm.trans hL'.1)]⟩⟩⟩
theorem srt_perm (l : List Int) : (srt l).Perm l := List.mergeSort_perm _ _
theorem srt_sorted (l : List Int) : (srt l).Pairwise (· ≤ ·) := sort_sorted l

set_option maxRecDepth 100000 in
set_option maxHeartbeats 2000000 in
theorem tTurn_any (v x : Value) (c ord : List Int) (n : Int) (w : World) (hv : IntsAt w v c) (hx : IntsAt w x ord) (h40 : ord.length ≤ 40) :
    Calls Try.prog 29 #[v, x, .int .i64 n] w (GivesU c ord n w) := by
  have HV := Lib.hid hv
  have HX := Lib.hid hx
  by_cases h0 : askE c n = 0
  · obtain ⟨hc, h1, h2⟩ := askE_ok2 h0
    have A := Lib.hid h0
    have HH := Lib.hid hc
    have hlo := hc.lo
    have hhi := hc.hi
    have ht := hc.tot
    have hsl := srt_length ord
    have HSL := Lib.hid hsl
    have SP := Lib.hid (srt_perm ord)
    have SS := Lib.hid (srt_sorted ord)
    have BAD1 := Lib.hid (fun (k : Nat) (hk : k < (srt ord).length) (hne : (srt ord).getD k 0 ≠ k) (h : okO c.length ord) => hne (by
      have := (sorted_range SP.out SS.out h).2 k hk
      rw [List.getD_eq_getElem?_getD, List.getElem?_eq_getElem hk]
      exact this))
    have BAD2 := Lib.hid (fun (hne : ord.length ≠ c.length) (h : okO c.length ord) => hne (by
      obtain ⟨L, hL, hl, _⟩ := h
      rw [hL, List.length_map, hl]))
    have GOOD := Lib.hid (fun (h : ∀ j, j < (srt ord).length → (srt ord).getD j 0 = j) (hlen : ord.length = c.length) => show ∃ L, okL c.length ord L from by
      have := range_order SP.out (fun i hi => by
        have := h i hi
        rw [List.getD_eq_getElem?_getD, List.getElem?_eq_getElem hi] at this
        exact this)
      rw [hlen] at this
      exact this)
    obtain ⟨xa, xc, hxe, _, _⟩ := hx
    subst hxe
    have hs40 : (srt ord).length ≤ 40 := by omega
    clear hc hv h0 hsl
    go_enter Try.func29, Try.ntmps29
    go_wp2_with fail
    refine (checked_any _ _ _ _ HV.out).mono ?_
    rintro e w' ⟨rfl, rfl⟩
    rw [A.out]
    go_wp2_with fail
    refine (values_any _ _ _ HX.out).mono ?_
    rintro e w1 ⟨rfl, rfl⟩
    go_wp2_with fail
    refine (sorted_any _ _ ord (by omega) _ (by simp) (HX.out.below ((Below.refl _ _).alloc (Nat.le_refl _) _))).mono ?_
    rintro e w1 ⟨v1, rfl, hrow, hb1⟩
    have HB1 := Lib.hid (show Below w.heap.size w w1 from ((Below.refl _ _).alloc (Nat.le_refl _) _).trans (hb1.mono (by simp)))
    have hI := own_ints hrow (by omega)
    obtain ⟨a1, cap1, rfl, hl1, hq1⟩ := hI
    have HQ := Lib.hid hq1
    clear hrow hb1 hq1
    go_wp2
    go_loop [9, 10, 21] (fun _ _ iv => ∃ k : Nat, k ≤ (srt ord).length ∧ iv = .int .i64 k ∧ Hid (∀ j, j < k → (srt ord).getD j 0 = j)) (fun _ _ iv => (srt ord).length - (intOf iv).toNat)
    case atStart => exact ⟨0, Nat.zero_le _, rfl, Lib.hid (fun j hj => by omega)⟩
    case round =>
      obtain ⟨k, hk, rfl, HK⟩ := hrel
      by_cases hlt : k < (srt ord).length
      · have hlt' : (k : Int) < ((srt ord).length : Int) := by omega
        obtain ⟨b1, o1, rfl, hc1⟩ := HQ.out (by omega)
        have x1 := hc1 k hlt
        have BK := Lib.hid (BAD1.out k hlt)
        have NK := Lib.hid (show (srt ord).getD k 0 = k → ∀ j, j < k + 1 → (srt ord).getD j 0 = j from fun h j hj => by
          rcases Nat.lt_succ_iff_lt_or_eq.1 hj with h' | rfl
          · exact HK.out j h'
          · exact h)
        clear hc1
        generalize (srt ord).getD k 0 = sk at *
        by_cases he : sk = (k : Int)
        · have HN := Lib.hid (NK.out he)
          subst he
          go_wp2
          go_round
          case rel => exact ⟨k + 1, by omega, by go_num, HN⟩
          case measure => simp [intOf]; omega
        · have hd : ((k : Int) != sk) = true := bne_iff_ne.2 (fun h => he h.symm)
          have HBAD := Lib.hid (BK.out he)
          clear he
          go_wp2
          go_ret2
          exact GivesU.bad A.out HB1.out HBAD.out
      · have hkk : k = (srt ord).length := by omega
        have HA := Lib.hid (show ∀ j, j < (srt ord).length → (srt ord).getD j 0 = j from fun j hj => HK.out j (by omega))
        by_cases hlen : ord.length = c.length
        · obtain ⟨L, hL⟩ := GOOD.out HA.out hlen
          have HL := Lib.hid hL
          obtain ⟨b, off, cap, rfl, _⟩ := ints_cell HV.out (by omega)
          have TN := Lib.hid (turn_any (c := c) (L := L) _ _ n w1 (HV.out.below HB1.out) (by have h := HX.out.below HB1.out; rw [hL.1] at h; rw [← hL.1] at h ⊢; exact h) HH.out hL.2.2.2 (by have := hL.2.1; omega) ⟨h1, by omega⟩)
          unfold GivesT at TN
          have hd : ((ord.length : Int) != (c.length : Int)) = false := by rw [bne_eq_false_iff_eq]; omega
          have HLN := Lib.hid (show (turnS c L (zst c n)).1.length = c.length by rw [turnS_len]; simp [zst])
          clear hlen hkk hL
          go_wp2_with fail
          refine TN.out.mono ?_
          rintro e w2 ⟨g, rfl, hO, hb2⟩
          have HI := Lib.hid (show IntsAt w2 (.slice (some ⟨g, 0, none⟩) c.length c.length) (turnS c L (zst c n)).1 by
            have h := hO.ints (by rw [HLN.out]; omega)
            rw [HLN.out] at h
            exact h)
          have HB2 := Lib.hid (below_trans HB1.out hb2)
          clear hO hb2
          go_wp2
          go_ret2
          exact GivesU.good A.out HB2.out HL.out HI.out
        · have hd : ((ord.length : Int) != (c.length : Int)) = true := bne_iff_ne.2 (by omega)
          have HBAD := Lib.hid (BAD2.out hlen)
          clear hlen hkk
          obtain ⟨b, off, cap, rfl, _⟩ := ints_cell HV.out (by omega)
          go_wp2
          go_ret2
          exact GivesU.bad A.out HB1.out HBAD.out
  · have hb : (askE c n != 0) = true := by rw [bne_iff_ne]; exact h0
    have H0 := Lib.hid h0
    clear h0 hv hx
    go_enter Try.func29, Try.ntmps29
    go_wp2_with fail
    refine (checked_any _ _ _ _ HV.out).mono ?_
    rintro e w' ⟨rfl, rfl⟩
    go_wp2
    go_ret2
    exact ⟨_, [], _, rfl, nil_ints _, Below.refl _ _, fun _ => ⟨rfl, rfl⟩, fun h => absurd h H0.out⟩

end Go.Proofs.Ytaakefjblldccaa

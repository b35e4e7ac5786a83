/- Contract of the reference: Text. -/
import Derived.Test.YtdfkaijeppdhaaaGreatDoorRk
import Derived.Deep.RegionHeld3
namespace Go.Proofs.YtdfkaijeppdhaaaGreatDoor
open Go.RowKit Go.Shelf

theorem lineT_cat (s P N C L : ByteArray) (e : Ent) (hP : P = itoaB (ePost e)) (hN : N = itoaB (eNum e)) (hC : C = itoaB (eCnt e)) (hL : L = eLine e) :
    s ++ P ++ ⟨#[32]⟩ ++ N ++ ⟨#[32]⟩ ++ C ++ ⟨#[32]⟩ ++ L ++ ⟨#[10]⟩ = bsB (s.data.toList ++ lineT e) := by
  subst hP hN hC hL
  apply ba_ext
  simp [bsB, lineT, itoaB]
theorem str_add (a b : ByteArray) (h : a.size + b.size ≤ 9223372036854775807) (W : World) : (binOp .add 9 (.string a) (.string b)).run Tryz.prog W = .ok (.string (a ++ b)) W := by
  have h2 : ¬ 9223372036854775807 < a.size + b.size := by omega
  go_simp
set_option maxRecDepth 100000 in
set_option maxHeartbeats 8000000 in
theorem rtext_any (P : Nat) (n : Int) (vs : Nat → Value) (b : Book) (w : World) (h : RfAt w P n vs b) (hok : BookOk b) :
    Calls Tryz.prog 30 #[.pointer (some ⟨P, 0, none⟩)] w fun e w' => e = .returned (.string (textB b)) ∧ Below w.heap.size w w' := by
  have HB := Lib.hid (rbook_any P n vs b w h hok)
  have HBD := Lib.hid (fun e (he : e ∈ allB b) => book_bounds hok he)
  have HT : Hid (textB b = bsB (textL (allB b))) := Lib.hid rfl
  have hlen : (allB b).length ≤ 240 := by
    rw [allB_len]
    unfold lenB
    have h0 := (hok 0 (by omega)).len
    have h1 := (hok 1 (by omega)).len
    have h2 := (hok 2 (by omega)).len
    have h3 := (hok 3 (by omega)).len
    omega
  clear h hok
  generalize allB b = l at *
  rw [HT.out]
  clear HT
  go_enter Tryz.func30, Tryz.ntmps30
  go_wp2_with fail
  refine HB.out.mono ?_
  rintro e w1 ⟨v, rfl, hl1, _, hb1⟩
  have HE1 := Lib.hid (hl1.ents (by omega))
  have HB1 := Lib.hid hb1
  obtain ⟨a, c, rfl⟩ := HE1.out.shape
  obtain ⟨n9, hn⟩ : ∃ n, n = l.length := ⟨_, rfl⟩
  have HN := Lib.hid hn
  rw [← hn] at hlen ⊢
  clear hn hl1 hb1
  go_wp2_with fail
  go_loopw [3, 5] (fun s i wr => ∃ k : Nat, k ≤ n9 ∧ i = .int .i64 k ∧ s = .string (bsB (textL (l.take k))) ∧ Hid (Below w1.heap.size w1 wr)) (fun _ i _ => n9 - (intOf i).toNat)
  case atStart => exact ⟨0, by omega, rfl, rfl, Lib.hid (Below.refl _ _)⟩
  case round =>
    obtain ⟨k, hk, rfl, rfl, HBW⟩ := hrel
    by_cases hlt : k < n9
    · have hlt2 : (k : Int) < (n9 : Int) := by omega
      have hkl : k < l.length := by rw [← HN.out]; exact hlt
      obtain ⟨g, o, cc, hv, p1, p2, p3, p4⟩ := (HE1.out.below HBW.out).entry hkl
      simp only [Value.slice.injEq] at hv
      obtain ⟨rfl, _, rfl⟩ := hv
      have hmem : l.getD k noE ∈ l := by rw [List.getD_eq_getElem?_getD, List.getElem?_eq_getElem hkl]; exact List.getElem_mem hkl
      obtain ⟨hp, hnn, hc, hln⟩ := HBD.out _ hmem
      have hline := line_small hln
      rw [← ba_size] at hline
      have HTK := Lib.hid (textL_take hkl)
      have hsz : (bsB (textL (l.take k))).size ≤ 200 * 240 := by
        have h9 := textL_len (l := l.take k) (fun e he => by
          obtain ⟨q1, q2, q3, q4⟩ := HBD.out e (List.mem_of_mem_take he)
          exact lineT_small ⟨q1, q2, q3⟩ q4)
        rw [ba_size]
        show (textL (l.take k)).length ≤ _
        rw [List.length_take] at h9
        omega
      obtain ⟨x, hx⟩ : ∃ x : Ent, x = l.getD k noE := ⟨_, rfl⟩
      rw [← hx] at p1 p2 p3 p4 hp hnn hc hline HTK
      obtain ⟨s, hs⟩ : ∃ s, s = bsB (textL (l.take k)) := ⟨_, rfl⟩
      rw [← hs] at hsz ⊢
      obtain ⟨SP, hSP⟩ : ∃ s, s = itoaB (ePost x) := ⟨_, rfl⟩
      obtain ⟨SN, hSN⟩ : ∃ s, s = itoaB (eNum x) := ⟨_, rfl⟩
      obtain ⟨SC, hSC⟩ : ∃ s, s = itoaB (eCnt x) := ⟨_, rfl⟩
      obtain ⟨SL, hSL⟩ : ∃ s, s = eLine x := ⟨_, rfl⟩
      have HCAT : Hid (s ++ SP ++ ⟨#[32]⟩ ++ SN ++ ⟨#[32]⟩ ++ SC ++ ⟨#[32]⟩ ++ SL ++ ⟨#[10]⟩ = bsB (textL (l.take (k + 1)))) := Lib.hid (by
        rw [lineT_cat s SP SN SC SL x hSP hSN hSC hSL, HTK.out, hs]; rfl)
      have y1 : SP.size ≤ 11 := by rw [hSP]; exact itoaB_size2 (by omega) (by omega)
      have y2 : SN.size ≤ 11 := by rw [hSN]; exact itoaB_size2 (by omega) (by omega)
      have y3 : SC.size ≤ 11 := by rw [hSC]; exact itoaB_size2 (by omega) (by omega)
      rw [← hSL] at p4 hline
      have HD1 : Hid (∀ W, Calls Tryz.prog 50 #[.int .i64 (ePost x)] W fun e w' => e = .returned (.string SP) ∧ Below W.heap.size W w') := Lib.hid (by rw [hSP]; exact fun W => rdecimal_any _ W (by omega) (by omega))
      have HD2 : Hid (∀ W, Calls Tryz.prog 50 #[.int .i64 (eNum x)] W fun e w' => e = .returned (.string SN) ∧ Below W.heap.size W w') := Lib.hid (by rw [hSN]; exact fun W => rdecimal_any _ W (by omega) (by omega))
      have HD3 : Hid (∀ W, Calls Tryz.prog 50 #[.int .i64 (eCnt x)] W fun e w' => e = .returned (.string SC) ∧ Below W.heap.size W w') := Lib.hid (by rw [hSC]; exact fun W => rdecimal_any _ W (by omega) (by omega))
      have z1 : s.size + SP.size ≤ 9223372036854775807 := by omega
      have z2 : s.size + SP.size + 1 ≤ 9223372036854775807 := by omega
      have z3 : s.size + SP.size + 1 + SN.size ≤ 9223372036854775807 := by omega
      have z4 : s.size + SP.size + 1 + SN.size + 1 ≤ 9223372036854775807 := by omega
      have z5 : s.size + SP.size + 1 + SN.size + 1 + SC.size ≤ 9223372036854775807 := by omega
      have z6 : s.size + SP.size + 1 + SN.size + 1 + SC.size + 1 ≤ 9223372036854775807 := by omega
      have z7 : s.size + SP.size + 1 + SN.size + 1 + SC.size + 1 + SL.size ≤ 9223372036854775807 := by omega
      have z8 : s.size + SP.size + 1 + SN.size + 1 + SC.size + 1 + SL.size + 1 ≤ 9223372036854775807 := by omega
      have q1 := fun W => str_add s SP (by first | exact z1 | (simp only [ByteArray.size_append, show (ByteArray.mk #[32]).size = 1 from rfl, show (ByteArray.mk #[10]).size = 1 from rfl]; exact z1)) W
      have q2 := fun W => str_add (s ++ SP) ⟨#[32]⟩ (by first | exact z2 | (simp only [ByteArray.size_append, show (ByteArray.mk #[32]).size = 1 from rfl, show (ByteArray.mk #[10]).size = 1 from rfl]; exact z2)) W
      have q3 := fun W => str_add (s ++ SP ++ ⟨#[32]⟩) SN (by first | exact z3 | (simp only [ByteArray.size_append, show (ByteArray.mk #[32]).size = 1 from rfl, show (ByteArray.mk #[10]).size = 1 from rfl]; exact z3)) W
      have q4 := fun W => str_add (s ++ SP ++ ⟨#[32]⟩ ++ SN) ⟨#[32]⟩ (by first | exact z4 | (simp only [ByteArray.size_append, show (ByteArray.mk #[32]).size = 1 from rfl, show (ByteArray.mk #[10]).size = 1 from rfl]; exact z4)) W
      have q5 := fun W => str_add (s ++ SP ++ ⟨#[32]⟩ ++ SN ++ ⟨#[32]⟩) SC (by first | exact z5 | (simp only [ByteArray.size_append, show (ByteArray.mk #[32]).size = 1 from rfl, show (ByteArray.mk #[10]).size = 1 from rfl]; exact z5)) W
      have q6 := fun W => str_add (s ++ SP ++ ⟨#[32]⟩ ++ SN ++ ⟨#[32]⟩ ++ SC) ⟨#[32]⟩ (by first | exact z6 | (simp only [ByteArray.size_append, show (ByteArray.mk #[32]).size = 1 from rfl, show (ByteArray.mk #[10]).size = 1 from rfl]; exact z6)) W
      have q7 := fun W => str_add (s ++ SP ++ ⟨#[32]⟩ ++ SN ++ ⟨#[32]⟩ ++ SC ++ ⟨#[32]⟩) SL (by first | exact z7 | (simp only [ByteArray.size_append, show (ByteArray.mk #[32]).size = 1 from rfl, show (ByteArray.mk #[10]).size = 1 from rfl]; exact z7)) W
      have q8 := fun W => str_add (s ++ SP ++ ⟨#[32]⟩ ++ SN ++ ⟨#[32]⟩ ++ SC ++ ⟨#[32]⟩ ++ SL) ⟨#[10]⟩ (by first | exact z8 | (simp only [ByteArray.size_append, show (ByteArray.mk #[32]).size = 1 from rfl, show (ByteArray.mk #[10]).size = 1 from rfl]; exact z8)) W
      clear hp hnn hc hline hsz y1 y2 y3 hSP hSN hSC hSL hs hmem hln HTK
      generalize ePost x = xp at *
      generalize eNum x = xn at *
      generalize eCnt x = xc at *
      have r1 : ∀ W, KB wr W → W.cell? ⟨g, o + k * 4, none⟩ = some (.int .i64 xp) := fun W hW => keep_cell hW p1
      have r2 : ∀ W, KB wr W → W.cell? ⟨g, o + k * 4 + 1, none⟩ = some (.int .i64 xn) := fun W hW => keep_cell hW p2
      have r3 : ∀ W, KB wr W → W.cell? ⟨g, o + k * 4 + 2, none⟩ = some (.int .i64 xc) := fun W hW => keep_cell hW p3
      have r4 : ∀ W, KB wr W → W.cell? ⟨g, o + k * 4 + 3, none⟩ = some (.string SL) := fun W hW => keep_cell hW p4
      clear p1 p2 p3 p4 hx
      go_wp2
      refine wp_region_held_drew (S := KB wr) (by kernel_rfl) (KB.drew (KB.refl _)) (fun hHeld => ?_)
      refine wpAnyH_take (i := 0) (v := (.string s)) rfl (by kernel_rfl) (by kernel_rfl) (by kernel_rfl) (fun _ _ _ h => h) (Or.inl ⟨by rfl, fun W3 hS3 => ?take⟩) hHeld ?_
      case take => go_simp
      try simp only [Act.put, List.getElem_toArray, List.getElem_cons_zero, List.getElem_cons_succ, List.setIfInBounds_toArray, List.set_cons_zero, List.set_cons_succ]
      refine wpAnyH_take (i := 1) (v := (.slice (some ⟨g, o, none⟩) n9 c)) rfl (by kernel_rfl) (by kernel_rfl) (by kernel_rfl) (fun _ _ _ h => h) (Or.inl ⟨by rfl, fun W3 hS3 => ?take⟩) hHeld ?_
      case take => go_simp
      try simp only [Act.put, List.getElem_toArray, List.getElem_cons_zero, List.getElem_cons_succ, List.setIfInBounds_toArray, List.set_cons_zero, List.set_cons_succ]
      refine wpAnyH_take (i := 2) (v := (.int .i64 k)) rfl (by kernel_rfl) (by kernel_rfl) (by kernel_rfl) (fun _ _ _ h => h) (Or.inl ⟨by rfl, fun W3 hS3 => ?take⟩) hHeld ?_
      case take => go_simp
      try simp only [Act.put, List.getElem_toArray, List.getElem_cons_zero, List.getElem_cons_succ, List.setIfInBounds_toArray, List.set_cons_zero, List.set_cons_succ]
      refine wpAnyH_take (i := 3) (v := (.pointer (some ⟨g, o + k * 4, none⟩))) rfl (by kernel_rfl) (by kernel_rfl) (by kernel_rfl) (fun _ _ _ h => h) (Or.inl ⟨by rfl, fun W3 hS3 => ?take⟩) hHeld ?_
      case take => go_simp
      try simp only [Act.put, List.getElem_toArray, List.getElem_cons_zero, List.getElem_cons_succ, List.setIfInBounds_toArray, List.set_cons_zero, List.set_cons_succ]
      refine wpAnyH_take (i := 4) (v := (.pointer (some ⟨g, o + k * 4, none⟩))) rfl (by kernel_rfl) (by kernel_rfl) (by kernel_rfl) (fun _ _ _ h => h) (Or.inl ⟨by rfl, fun W3 hS3 => ?take⟩) hHeld ?_
      case take => go_simp
      try simp only [Act.put, List.getElem_toArray, List.getElem_cons_zero, List.getElem_cons_succ, List.setIfInBounds_toArray, List.set_cons_zero, List.set_cons_succ]
      refine wpAnyH_take (i := 5) (v := (.int .i64 xp)) rfl (by kernel_rfl) (by kernel_rfl) (by kernel_rfl) (fun _ _ _ h => h) (Or.inl ⟨by rfl, fun W3 hS3 => ?take⟩) hHeld ?_
      case take => go_simp
      try simp only [Act.put, List.getElem_toArray, List.getElem_cons_zero, List.getElem_cons_succ, List.setIfInBounds_toArray, List.set_cons_zero, List.set_cons_succ]
      refine wpAnyH_take (i := 9) (v := (.slice (some ⟨g, o, none⟩) n9 c)) rfl (by kernel_rfl) (by kernel_rfl) (by kernel_rfl) (fun _ _ _ h => h) (Or.inl ⟨by rfl, fun W3 hS3 => ?take⟩) hHeld ?_
      case take => go_simp
      try simp only [Act.put, List.getElem_toArray, List.getElem_cons_zero, List.getElem_cons_succ, List.setIfInBounds_toArray, List.set_cons_zero, List.set_cons_succ]
      refine wpAnyH_take (i := 10) (v := (.int .i64 k)) rfl (by kernel_rfl) (by kernel_rfl) (by kernel_rfl) (fun _ _ _ h => h) (Or.inl ⟨by rfl, fun W3 hS3 => ?take⟩) hHeld ?_
      case take => go_simp
      try simp only [Act.put, List.getElem_toArray, List.getElem_cons_zero, List.getElem_cons_succ, List.setIfInBounds_toArray, List.set_cons_zero, List.set_cons_succ]
      refine wpAnyH_take (i := 11) (v := (.pointer (some ⟨g, o + k * 4, none⟩))) rfl (by kernel_rfl) (by kernel_rfl) (by kernel_rfl) (fun _ _ _ h => h) (Or.inl ⟨by rfl, fun W3 hS3 => ?take⟩) hHeld ?_
      case take => go_simp
      try simp only [Act.put, List.getElem_toArray, List.getElem_cons_zero, List.getElem_cons_succ, List.setIfInBounds_toArray, List.set_cons_zero, List.set_cons_succ]
      refine wpAnyH_take (i := 12) (v := (.pointer (some ⟨g, o + k * 4 + 1, none⟩))) rfl (by kernel_rfl) (by kernel_rfl) (by kernel_rfl) (fun _ _ _ h => h) (Or.inl ⟨by rfl, fun W3 hS3 => ?take⟩) hHeld ?_
      case take => go_simp
      try simp only [Act.put, List.getElem_toArray, List.getElem_cons_zero, List.getElem_cons_succ, List.setIfInBounds_toArray, List.set_cons_zero, List.set_cons_succ]
      refine wpAnyH_take (i := 13) (v := (.int .i64 xn)) rfl (by kernel_rfl) (by kernel_rfl) (by kernel_rfl) (fun _ _ _ h => h) (Or.inl ⟨by rfl, fun W3 hS3 => ?take⟩) hHeld ?_
      case take => go_simp
      try simp only [Act.put, List.getElem_toArray, List.getElem_cons_zero, List.getElem_cons_succ, List.setIfInBounds_toArray, List.set_cons_zero, List.set_cons_succ]
      refine wpAnyH_take (i := 17) (v := (.slice (some ⟨g, o, none⟩) n9 c)) rfl (by kernel_rfl) (by kernel_rfl) (by kernel_rfl) (fun _ _ _ h => h) (Or.inl ⟨by rfl, fun W3 hS3 => ?take⟩) hHeld ?_
      case take => go_simp
      try simp only [Act.put, List.getElem_toArray, List.getElem_cons_zero, List.getElem_cons_succ, List.setIfInBounds_toArray, List.set_cons_zero, List.set_cons_succ]
      refine wpAnyH_take (i := 18) (v := (.int .i64 k)) rfl (by kernel_rfl) (by kernel_rfl) (by kernel_rfl) (fun _ _ _ h => h) (Or.inl ⟨by rfl, fun W3 hS3 => ?take⟩) hHeld ?_
      case take => go_simp
      try simp only [Act.put, List.getElem_toArray, List.getElem_cons_zero, List.getElem_cons_succ, List.setIfInBounds_toArray, List.set_cons_zero, List.set_cons_succ]
      refine wpAnyH_take (i := 19) (v := (.pointer (some ⟨g, o + k * 4, none⟩))) rfl (by kernel_rfl) (by kernel_rfl) (by kernel_rfl) (fun _ _ _ h => h) (Or.inl ⟨by rfl, fun W3 hS3 => ?take⟩) hHeld ?_
      case take => go_simp
      try simp only [Act.put, List.getElem_toArray, List.getElem_cons_zero, List.getElem_cons_succ, List.setIfInBounds_toArray, List.set_cons_zero, List.set_cons_succ]
      refine wpAnyH_take (i := 20) (v := (.pointer (some ⟨g, o + k * 4 + 2, none⟩))) rfl (by kernel_rfl) (by kernel_rfl) (by kernel_rfl) (fun _ _ _ h => h) (Or.inl ⟨by rfl, fun W3 hS3 => ?take⟩) hHeld ?_
      case take => go_simp
      try simp only [Act.put, List.getElem_toArray, List.getElem_cons_zero, List.getElem_cons_succ, List.setIfInBounds_toArray, List.set_cons_zero, List.set_cons_succ]
      refine wpAnyH_take (i := 21) (v := (.int .i64 xc)) rfl (by kernel_rfl) (by kernel_rfl) (by kernel_rfl) (fun _ _ _ h => h) (Or.inl ⟨by rfl, fun W3 hS3 => ?take⟩) hHeld ?_
      case take => go_simp
      try simp only [Act.put, List.getElem_toArray, List.getElem_cons_zero, List.getElem_cons_succ, List.setIfInBounds_toArray, List.set_cons_zero, List.set_cons_succ]
      refine wpAnyH_take (i := 25) (v := (.slice (some ⟨g, o, none⟩) n9 c)) rfl (by kernel_rfl) (by kernel_rfl) (by kernel_rfl) (fun _ _ _ h => h) (Or.inl ⟨by rfl, fun W3 hS3 => ?take⟩) hHeld ?_
      case take => go_simp
      try simp only [Act.put, List.getElem_toArray, List.getElem_cons_zero, List.getElem_cons_succ, List.setIfInBounds_toArray, List.set_cons_zero, List.set_cons_succ]
      refine wpAnyH_take (i := 26) (v := (.int .i64 k)) rfl (by kernel_rfl) (by kernel_rfl) (by kernel_rfl) (fun _ _ _ h => h) (Or.inl ⟨by rfl, fun W3 hS3 => ?take⟩) hHeld ?_
      case take => go_simp
      try simp only [Act.put, List.getElem_toArray, List.getElem_cons_zero, List.getElem_cons_succ, List.setIfInBounds_toArray, List.set_cons_zero, List.set_cons_succ]
      refine wpAnyH_take (i := 27) (v := (.pointer (some ⟨g, o + k * 4, none⟩))) rfl (by kernel_rfl) (by kernel_rfl) (by kernel_rfl) (fun _ _ _ h => h) (Or.inl ⟨by rfl, fun W3 hS3 => ?take⟩) hHeld ?_
      case take => go_simp
      try simp only [Act.put, List.getElem_toArray, List.getElem_cons_zero, List.getElem_cons_succ, List.setIfInBounds_toArray, List.set_cons_zero, List.set_cons_succ]
      refine wpAnyH_take (i := 28) (v := (.pointer (some ⟨g, o + k * 4 + 3, none⟩))) rfl (by kernel_rfl) (by kernel_rfl) (by kernel_rfl) (fun _ _ _ h => h) (Or.inl ⟨by rfl, fun W3 hS3 => ?take⟩) hHeld ?_
      case take => go_simp
      try simp only [Act.put, List.getElem_toArray, List.getElem_cons_zero, List.getElem_cons_succ, List.setIfInBounds_toArray, List.set_cons_zero, List.set_cons_succ]
      refine wpAnyH_take (i := 29) (v := (.string SL)) rfl (by kernel_rfl) (by kernel_rfl) (by kernel_rfl) (fun _ _ _ h => h) (Or.inl ⟨by rfl, fun W3 hS3 => ?take⟩) hHeld ?_
      case take => go_simp
      try simp only [Act.put, List.getElem_toArray, List.getElem_cons_zero, List.getElem_cons_succ, List.setIfInBounds_toArray, List.set_cons_zero, List.set_cons_succ]
      refine wpAnyH_ready (rs := [6]) (by kernel_rfl) (by simp) ?_
      refine (AllReadyH.cons rfl (fun K hK => ?_) AllReadyH.nil)
      · go_simp
        refine (HD1.out _).mono ?_
        rintro e w2 ⟨rfl, hb2⟩
        have hk2 := KB.call (w := wr) hHeld hb2
        clear hb2
        dsimp only
        refine hK.out _ _ hk2 (fun hHeld => ?_)
        clear hK K hk2
        try simp only [Act.put, List.setIfInBounds_toArray, List.set_cons_zero, List.set_cons_succ]
        refine wpAnyH_take (i := 7) (v := (.string (s ++ SP))) rfl (by kernel_rfl) (by kernel_rfl) (by kernel_rfl) (fun _ _ _ h => h) (Or.inl ⟨by rfl, fun W3 hS3 => ?take⟩) hHeld ?_
        case take => go_simp
        try simp only [Act.put, List.getElem_toArray, List.getElem_cons_zero, List.getElem_cons_succ, List.setIfInBounds_toArray, List.set_cons_zero, List.set_cons_succ]
        refine wpAnyH_take (i := 8) (v := (.string (s ++ SP ++ ⟨#[32]⟩))) rfl (by kernel_rfl) (by kernel_rfl) (by kernel_rfl) (fun _ _ _ h => h) (Or.inl ⟨by rfl, fun W3 hS3 => ?take⟩) hHeld ?_
        case take => go_simp
        try simp only [Act.put, List.getElem_toArray, List.getElem_cons_zero, List.getElem_cons_succ, List.setIfInBounds_toArray, List.set_cons_zero, List.set_cons_succ]
        refine wpAnyH_ready (rs := [14]) (by kernel_rfl) (by simp) ?_
        refine (AllReadyH.cons rfl (fun K hK => ?_) AllReadyH.nil)
        · go_simp
          refine (HD2.out _).mono ?_
          rintro e w2 ⟨rfl, hb2⟩
          have hk2 := KB.call (w := wr) hHeld hb2
          clear hb2
          dsimp only
          refine hK.out _ _ hk2 (fun hHeld => ?_)
          clear hK K hk2
          try simp only [Act.put, List.setIfInBounds_toArray, List.set_cons_zero, List.set_cons_succ]
          refine wpAnyH_take (i := 15) (v := (.string (s ++ SP ++ ⟨#[32]⟩ ++ SN))) rfl (by kernel_rfl) (by kernel_rfl) (by kernel_rfl) (fun _ _ _ h => h) (Or.inl ⟨by rfl, fun W3 hS3 => ?take⟩) hHeld ?_
          case take => go_simp
          try simp only [Act.put, List.getElem_toArray, List.getElem_cons_zero, List.getElem_cons_succ, List.setIfInBounds_toArray, List.set_cons_zero, List.set_cons_succ]
          refine wpAnyH_take (i := 16) (v := (.string (s ++ SP ++ ⟨#[32]⟩ ++ SN ++ ⟨#[32]⟩))) rfl (by kernel_rfl) (by kernel_rfl) (by kernel_rfl) (fun _ _ _ h => h) (Or.inl ⟨by rfl, fun W3 hS3 => ?take⟩) hHeld ?_
          case take => go_simp
          try simp only [Act.put, List.getElem_toArray, List.getElem_cons_zero, List.getElem_cons_succ, List.setIfInBounds_toArray, List.set_cons_zero, List.set_cons_succ]
          refine wpAnyH_ready (rs := [22]) (by kernel_rfl) (by simp) ?_
          refine (AllReadyH.cons rfl (fun K hK => ?_) AllReadyH.nil)
          · go_simp
            refine (HD3.out _).mono ?_
            rintro e w2 ⟨rfl, hb2⟩
            have hk2 := KB.call (w := wr) hHeld hb2
            clear hb2
            dsimp only
            refine hK.out _ _ hk2 (fun hHeld => ?_)
            clear hK K hk2
            try simp only [Act.put, List.setIfInBounds_toArray, List.set_cons_zero, List.set_cons_succ]
            refine wpAnyH_take (i := 23) (v := (.string (s ++ SP ++ ⟨#[32]⟩ ++ SN ++ ⟨#[32]⟩ ++ SC))) rfl (by kernel_rfl) (by kernel_rfl) (by kernel_rfl) (fun _ _ _ h => h) (Or.inl ⟨by rfl, fun W3 hS3 => ?take⟩) hHeld ?_
            case take => go_simp
            try simp only [Act.put, List.getElem_toArray, List.getElem_cons_zero, List.getElem_cons_succ, List.setIfInBounds_toArray, List.set_cons_zero, List.set_cons_succ]
            refine wpAnyH_take (i := 24) (v := (.string (s ++ SP ++ ⟨#[32]⟩ ++ SN ++ ⟨#[32]⟩ ++ SC ++ ⟨#[32]⟩))) rfl (by kernel_rfl) (by kernel_rfl) (by kernel_rfl) (fun _ _ _ h => h) (Or.inl ⟨by rfl, fun W3 hS3 => ?take⟩) hHeld ?_
            case take => go_simp
            try simp only [Act.put, List.getElem_toArray, List.getElem_cons_zero, List.getElem_cons_succ, List.setIfInBounds_toArray, List.set_cons_zero, List.set_cons_succ]
            refine wpAnyH_take (i := 30) (v := (.string (s ++ SP ++ ⟨#[32]⟩ ++ SN ++ ⟨#[32]⟩ ++ SC ++ ⟨#[32]⟩ ++ SL))) rfl (by kernel_rfl) (by kernel_rfl) (by kernel_rfl) (fun _ _ _ h => h) (Or.inl ⟨by rfl, fun W3 hS3 => ?take⟩) hHeld ?_
            case take => go_simp
            try simp only [Act.put, List.getElem_toArray, List.getElem_cons_zero, List.getElem_cons_succ, List.setIfInBounds_toArray, List.set_cons_zero, List.set_cons_succ]
            refine wpAnyH_take (i := 31) (v := (.string (s ++ SP ++ ⟨#[32]⟩ ++ SN ++ ⟨#[32]⟩ ++ SC ++ ⟨#[32]⟩ ++ SL ++ ⟨#[10]⟩))) rfl (by kernel_rfl) (by kernel_rfl) (by kernel_rfl) (fun _ _ _ h => h) (Or.inl ⟨by rfl, fun W3 hS3 => ?take⟩) hHeld ?_
            case take => go_simp
            try simp only [Act.put, List.getElem_toArray, List.getElem_cons_zero, List.getElem_cons_succ, List.setIfInBounds_toArray, List.set_cons_zero, List.set_cons_succ]
            refine wpAnyH_take (i := 32) (v := (.string (s ++ SP ++ ⟨#[32]⟩ ++ SN ++ ⟨#[32]⟩ ++ SC ++ ⟨#[32]⟩ ++ SL ++ ⟨#[10]⟩))) rfl (by kernel_rfl) (by kernel_rfl) (by kernel_rfl) (fun _ _ _ h => h) (Or.inl ⟨by rfl, fun W3 hS3 => ?take⟩) hHeld ?_
            case take => go_simp
            try simp only [Act.put, List.getElem_toArray, List.getElem_cons_zero, List.getElem_cons_succ, List.setIfInBounds_toArray, List.set_cons_zero, List.set_cons_succ]
            refine wpAnyH_done (by kernel_rfl) ?_ _
            try simp only [Exit.then]
            have HB5 := Lib.hid (HBW.out.trans (hHeld.mono HBW.out.size))
            clear hHeld
            go_wp2
            go_roundw
            case rel => exact ⟨k + 1, by omega, by go_num, by rw [HCAT.out], HB5⟩
            case measure => simp [intOf]; omega
    · obtain rfl : k = n9 := by omega
      have HTA : Hid (l.take k = l) := Lib.hid (List.take_of_length_le (by rw [← HN.out]; exact Nat.le_refl _))
      go_wp2
      go_ret
      exact ⟨by rw [HTA.out]; rfl, HB1.out.trans (HBW.out.mono HB1.out.size)⟩
end Go.Proofs.YtdfkaijeppdhaaaGreatDoor

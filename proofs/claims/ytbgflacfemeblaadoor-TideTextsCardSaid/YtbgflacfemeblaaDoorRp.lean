/- Contract: Parse of the reference. -/
import Derived.Test.YtbgflacfemeblaaDoorPb
import Derived.Laws.OwnMore
namespace Go.Proofs.YtbgflacfemeblaaDoor
open Go.RowKit Go.Shelf

/-- A table whose last row is being written: B: where all lies, Bc: where the last row lies. -/
def TabC (B Bc : Nat) (X : World) (v : Value) (d : List (List Int)) (c : List Int) : Prop :=
  ∃ (hds : List Value) (cv : Value), X.ownsRow B 32 1 v (d.length + 1) (hds ++ [cv]) ∧
    (∀ j, j < d.length → X.ownsRow B 3 1 (hds.getD j undef) (d.getD j []).length ((d.getD j []).map (Value.int .i64)) ∧ ∀ k, (hds.getD j undef).ownBlock = some k → k < Bc) ∧
    X.ownsRow Bc 3 1 cv c.length (c.map (Value.int .i64)) ∧ B ≤ Bc ∧ Bc ≤ X.heap.size
/-- The loop's relation. -/
def RpI (s : ByteArray) (B : Nat) (w : World) (tv n g i : Value) (wr : World) : Prop :=
  ∃ (k : Nat) (d : List (List Int)) (c : List Int) (nn gg : Int) (Bc : Nat), i = .int .i64 k ∧ n = .int .i64 nn ∧ g = .int .i64 gg ∧ 0 ≤ nn ∧ nn ≤ 1000 ∧ (gg = 1 ∨ gg = -1) ∧ TabC B Bc wr tv d c ∧ d.length ≤ 4 ∧ c.length ≤ 12 ∧ (∀ l ∈ d, l.length ≤ 12) ∧ Below B w wr ∧
    ((k ≤ s.size ∧ scanF (s.data.toList.drop k) d c nn gg = scanF s.data.toList [] [] 0 1) ∨ (k = s.size + 1 ∧ scanF s.data.toList [] [] 0 1 = some (d ++ [c])))
theorem own_blk {w : World} {base : Nat} {e : TypeId} {size : Nat} {v : Value} {n : Nat} {xs : List Value} (h : w.ownsRow base e size v n xs) {k : Nat} (hk : v.ownBlock = some k) : base ≤ k ∧ k < w.heap.size := by
  rcases h.2 with ⟨rfl, _⟩ | ⟨g, cap, cur, rfl, hg, hgc, _⟩
  · simp [Value.ownBlock] at hk
  · obtain rfl : g = k := by simpa [Value.ownBlock] using hk
    exact ⟨hg, (Array.getElem?_eq_some_iff.1 hgc).1⟩
theorem own_parted {w w' : World} {b b' : Nat} {e e' : TypeId} {s s' : Nat} {v v' : Value} {n n' : Nat} {xs xs' : List Value} (h' : w'.ownsRow b' e' s' v' n' xs') (hlow : ∀ k, v.ownBlock = some k → k < b') : v.ownBlock = none ∨ v.ownBlock ≠ v'.ownBlock := by
  cases hv : v.ownBlock with
  | none => exact .inl rfl
  | some k =>
    refine .inr fun e => ?_
    have h1 := hlow k hv
    have h2 := (own_blk h' e.symm).1
    omega
section push
variable {B Bc gb tcap : Nat} {wr w2 : World} {d : List (List Int)} {c : List Int} {hds : List Value} {cv v' : Value} {tmp : Obj} {m : Int}
theorem push_header (hown : wr.ownsRow B 32 1 (.slice (some ⟨gb, 0, none⟩) (d.length + 1) tcap) (d.length + 1) (hds ++ [cv])) (hcur : wr.ownsRow Bc 3 1 cv c.length (c.map (Value.int .i64)))
    (hgrow : (wr.alloc tmp).grownBy w2 cv.ownBlock) : w2.ownsRow B 32 1 (.slice (some ⟨gb, 0, none⟩) (d.length + 1) tcap) (d.length + 1) (hds ++ [cv]) := own_append hown hcur (by decide) hgrow
theorem TabC.push (hown : wr.ownsRow B 32 1 (.slice (some ⟨gb, 0, none⟩) (d.length + 1) tcap) (d.length + 1) (hds ++ [cv])) (hl : hds.length + 1 = (d.length + 1) * 1)
    (holds : ∀ j, j < d.length → wr.ownsRow B 3 1 (hds.getD j undef) (d.getD j []).length ((d.getD j []).map (Value.int .i64)) ∧ ∀ k, (hds.getD j undef).ownBlock = some k → k < Bc)
    (hcur : wr.ownsRow Bc 3 1 cv c.length (c.map (Value.int .i64))) (hB : B ≤ Bc) (hBc : Bc ≤ wr.heap.size) (hgrow : (wr.alloc tmp).grownBy w2 cv.ownBlock) (hsz : wr.heap.size ≤ w2.heap.size)
    (hown' : w2.ownsRow Bc 3 1 v' (c.length + 1) (c.map (Value.int .i64) ++ [.int .i64 m])) :
    TabC B Bc (w2.setCell ⟨gb, d.length, none⟩ v') (.slice (some ⟨gb, 0, none⟩) (d.length + 1) tcap) d (c ++ [m]) := by
  have hH := push_header hown hcur hgrow
  obtain ⟨hS, hG⟩ := hH.stored d.length v'
  have hset : (hds ++ [cv]).set d.length v' = hds ++ [v'] := by
    rw [List.set_append_right _ _ (by omega)]
    simp [show d.length - hds.length = 0 by omega]
  rw [hset] at hS
  refine ⟨hds, v', hS, fun j hj => ⟨?_, (holds j hj).2⟩, ?_, hB, ?_⟩
  · have h1 := ((holds j hj).1.alloc tmp).kept hgrow (own_parted (b := B) (e := 3) (s := 1) (n := 0) (xs := []) (w := wr) hcur (holds j hj).2)
    exact h1.kept hG (own_ne h1 hH (by decide))
  · have h1 := hown'.kept hG (own_ne hown' hH (by decide))
    rw [List.length_append, List.map_append]
    exact h1
  · simp; omega
theorem TabC.next {tv : Value} (h : TabC B Bc wr tv d c) (hgrow : (wr.alloc tmp).grownBy w2 tv.ownBlock) (hsz : wr.heap.size ≤ w2.heap.size) :
    ∀ hds cv, wr.ownsRow B 32 1 tv (d.length + 1) (hds ++ [cv]) → (∀ j, j < d.length → wr.ownsRow B 3 1 (hds.getD j undef) (d.getD j []).length ((d.getD j []).map (Value.int .i64)) ∧ ∀ k, (hds.getD j undef).ownBlock = some k → k < Bc) →
      wr.ownsRow Bc 3 1 cv c.length (c.map (Value.int .i64)) → w2.ownsRow B 32 1 v' (d.length + 1 + 1) (hds ++ [cv] ++ [.slice none 0 0]) → TabC B w2.heap.size w2 v' (d ++ [c]) [] := by
  intro hds cv h1 h2 h3 h4
  have hB : B ≤ Bc := by obtain ⟨_, _, _, _, _, hB, _⟩ := h; exact hB
  have hBw : Bc ≤ wr.heap.size := by obtain ⟨_, _, _, _, _, _, hB⟩ := h; exact hB
  have hl := h1.1
  simp only [List.length_append, List.length_cons, List.length_nil] at hl
  refine ⟨hds ++ [cv], .slice none 0 0, by rw [List.length_append]; exact h4, fun j hj => ?_, World.ownsRow_nil _ _ _ _, by omega, Nat.le_refl _⟩
  rw [List.length_append] at hj
  simp only [List.length_cons, List.length_nil] at hj
  have hk : ∀ {b : Nat} {x : Value} {l : List Int}, wr.ownsRow b 3 1 x l.length (l.map (Value.int .i64)) → w2.ownsRow b 3 1 x l.length (l.map (Value.int .i64)) := fun hx => (hx.alloc tmp).kept hgrow (own_ne hx h1 (by decide))
  have he : ∀ {b : Nat} {x : Value} {l : List Int}, wr.ownsRow b 3 1 x l.length (l.map (Value.int .i64)) → ∀ k, x.ownBlock = some k → k < w2.heap.size := fun hx k hk => by have := (own_blk hx hk).2; omega
  rcases Nat.lt_succ_iff_lt_or_eq.1 hj with hjl | rfl
  · rw [getD_snoc_lt _ _ _ (by omega), getD_snoc_lt _ _ _ hjl]
    exact ⟨hk (h2 j hjl).1, he (h2 j hjl).1⟩
  · have e1 := getD_snoc_eq hds cv undef
    have e2 := getD_snoc_eq d c []
    rw [show hds.length = d.length by omega] at e1
    rw [e1, e2]
    exact ⟨own_mono (hk h3) hB, he h3⟩
end push
theorem TabC.tab {B Bc : Nat} {X : World} {v : Value} {d : List (List Int)} {c : List Int} (h : TabC B Bc X v d c) : TabO B X v (d ++ [c]) := by
  obtain ⟨hds, cv, h1, h2, h3, h4, h5⟩ := h
  have hl := h1.1
  simp only [List.length_append, List.length_cons, List.length_nil] at hl
  refine ⟨hds ++ [cv], by rw [List.length_append]; exact h1, fun j hj => ?_⟩
  rw [List.length_append] at hj
  simp only [List.length_cons, List.length_nil] at hj
  rcases Nat.lt_succ_iff_lt_or_eq.1 hj with hjl | rfl
  · rw [getD_snoc_lt _ _ _ (by omega), getD_snoc_lt _ _ _ hjl]
    exact (h2 j hjl).1
  · have e1 := getD_snoc_eq hds cv undef
    have e2 := getD_snoc_eq d c []
    rw [show hds.length = d.length by omega] at e1
    rw [e1, e2]
    exact own_mono h3 h4
theorem drop_byte {s : ByteArray} {k : Nat} (h : k < s.size) : s.data.toList.drop k = s[k] :: s.data.toList.drop (k + 1) := by
  have h2 : k < s.data.toList.length := by rw [Array.length_toList]; exact h
  rw [List.drop_eq_getElem_cons h2]
  rfl
theorem u8_eq {b : UInt8} {n : Nat} (hn : n < 256) : b = UInt8.ofNat n ↔ b.toNat = n := by
  constructor
  · rintro rfl; rw [UInt8.toNat_ofNat']; omega
  · intro h; apply UInt8.toNat_inj.1; rw [h, UInt8.toNat_ofNat']; omega


set_option maxRecDepth 100000 in
set_option maxHeartbeats 8000000 in
theorem rParse_any (s : ByteArray) (w : World) (hs : s.size ≤ 1000) : Calls Tryd.prog 9 #[.string s] w (GivesT (parR s) w) := by
  obtain ⟨i0, hi0, hz0, hz1, hz2⟩ := info_parts Tryd.infoInts
  obtain ⟨j0, hj0, hy0, hy1, hy2⟩ := info_parts Tryd.infoInt
  have hT0 : TabC w.heap.size (w.heap.size + 1) (w.alloc (.cells #[.slice none 0 0] 32)) (.slice (some ⟨w.heap.size, 0, none⟩) 1 1) [] [] := by
    refine ⟨[], .slice none 0 0, ⟨rfl, .inr ⟨w.heap.size, 1, #[.slice none 0 0], rfl, Nat.le_refl _, World.alloc_heap_new w _, by simp, by unfold maxLen; omega, rfl, rfl⟩⟩, fun j hj => by simp at hj, World.ownsRow_nil _ _ _ _, Nat.le_succ _, by simp⟩
  have hb0 : Below w.heap.size w (w.alloc (.cells #[.slice none 0 0] 32)) := (Below.refl _ w).alloc (Nat.le_refl _) _
  go_enter Tryd.func9, Tryd.ntmps9
  go_wp2
  go_loopw [4, 5, 6, 7] (fun tv n g i wr => RpI s w.heap.size w tv n g i wr) (fun _ _ _ i _ => s.size + 1 - (intOf i).toNat)
  case atStart => exact ⟨0, [], [], 0, 1, _, rfl, rfl, rfl, by omega, by omega, .inl rfl, hT0, by simp, by simp, fun l hl => by simp at hl, hb0, .inl ⟨Nat.zero_le _, rfl⟩⟩
  case round =>
    obtain ⟨k, d, c, nn, gg, Bc, rfl, rfl, rfl, hn0, hn1, hg, htab, hd, hc, hrows, hbel, hscan⟩ := hrel
    have HTAB := Lib.hid htab
    have HROWS := Lib.hid hrows
    have HB := Lib.hid hbel
    clear htab hrows hbel hT0 hb0
    by_cases hk1 : k = s.size + 1
    · have hend := hscan.resolve_left (fun h => by omega)
      have hle2 : ¬ (k : Int) ≤ (s.size : Int) := by omega
      have HEND := Lib.hid hend.2
      have hrw := HTAB.out.tab.rows (by rw [List.length_append]; simp; omega) (fun l hl => by
        rcases List.mem_append.1 hl with h | h
        · have := HROWS.out l h; omega
        · simp only [List.mem_singleton] at h; subst h; omega)
      have HRW := Lib.hid hrw
      have VA := Lib.hid (rValid_any _ (d ++ [c]) wr hrw)
      obtain ⟨oa, oc, rfl, _⟩ := hrw
      have HK1 := Lib.hid hk1
      have e1 : (d ++ [c]).length = d.length + 1 := by simp
      clear hend hscan hk1 HTAB HROWS
      generalize htt : d ++ [c] = tt at *
      clear htt e1
      cases hv : vld tt with
      | false =>
        rw [hv] at VA
        have HPAR := Lib.hid (show parR s = none by unfold parR; rw [HEND.out]; simp [hv])
        clear hv
        go_wp2_with fail
        refine (VA.out).mono ?_
        rintro e w' ⟨rfl, rfl⟩
        go_wp2
        go_ret2
        exact ⟨_, by rw [HPAR.out]; rfl, by rw [HPAR.out]; exact nil_rows _, HB.out⟩
      | true =>
        rw [hv] at VA
        have TX := Lib.hid (rtext_any (.slice oa tt.length oc) tt wr HRW.out ((vld_iff tt).1 hv))
        have e0 : strV (texL tt) = .string (bsB (texL tt)) := rfl
        rw [e0] at TX
        by_cases ht : texL tt = s.data.toList
        · have HPAR := Lib.hid (show parR s = some tt by unfold parR; rw [HEND.out]; simp [hv, ht])
          have hse : bsB (texL tt) = s := by rw [ht]; apply ba_ext2; simp [bsB]
          rw [hse] at TX
          have hne := ba_rfl s
          clear hv ht hse e0
          go_wp2_with fail
          refine (VA.out).mono ?_
          rintro e w' ⟨rfl, rfl⟩
          go_wp2_with fail
          refine TX.out.mono ?_
          rintro e w1 ⟨rfl, hb1⟩
          go_wp2
          go_ret2
          exact ⟨_, by rw [HPAR.out]; rfl, by rw [HPAR.out]; exact HRW.out.below hb1, HB.out.trans (hb1.mono HB.out.size)⟩
        · have HPAR := Lib.hid (show parR s = none by unfold parR; rw [HEND.out]; simp [hv, ht])
          have hse : ((bsB (texL tt)).toList == s.toList) = false := ba_lne (by
            intro e
            exact ht (by rw [← e]; simp [bsB]))
          clear hv ht e0
          go_wp2_with fail
          refine (VA.out).mono ?_
          rintro e w' ⟨rfl, rfl⟩
          go_wp2_with fail
          refine TX.out.mono ?_
          rintro e w1 ⟨rfl, hb1⟩
          go_wp2
          go_ret2
          exact ⟨_, by rw [HPAR.out]; rfl, by rw [HPAR.out]; exact nil_rows _, HB.out.trans (hb1.mono HB.out.size)⟩
    · have hk := hscan.resolve_right (fun h => hk1 h.1)
      have HSC := Lib.hid hk.2
      have hks := hk.1
      clear hscan hk hk1
      by_cases hlt : k < s.size
      · have HDR := Lib.hid (drop_byte hlt)
        have hlt2 : (k : Int) < (s.size : Int) := by omega
        have hle2 : (k : Int) ≤ (s.size : Int) := by omega
        by_cases h45 : s[k].toNat = 45
        · have hb45 : ((s[k].toNat : Int) == 45) = true := by rw [beq_iff_eq]; omega
          have hb : s[k] = 45 := (u8_eq (n := 45) (by decide)).2 h45
          have HB45 := Lib.hid hb
          clear hb
          go_wp2
          go_roundw
          case rel => exact ⟨k + 1, d, c, nn, -1, Bc, by go_num, rfl, rfl, hn0, hn1, .inr rfl, HTAB.out, hd, hc, HROWS.out, HB.out, .inl ⟨by omega, by rw [← HSC.out, HDR.out, scanF, if_pos HB45.out]⟩⟩
          case measure => simp [intOf]; omega
        · have hb45 : ((s[k].toNat : Int) == 45) = false := by rw [beq_eq_false_iff_ne]; omega
          by_cases hdig : 48 ≤ s[k].toNat ∧ s[k].toNat ≤ 57
          · obtain ⟨h48, h57⟩ := hdig
            have h48' : (48 : Int) ≤ (s[k].toNat : Int) := by omega
            have h57' : (s[k].toNat : Int) ≤ 57 := by omega
            have HN45 := Lib.hid (show ¬ s[k] = 45 from fun e => h45 ((u8_eq (n := 45) (by decide)).1 e))
            have HMIN := Lib.hid (show (10 * nn + ((s[k].toNat : Int) - 48)) = 10 * nn + ((s[k].toNat - 48 : Nat) : Int) by omega)
            go_wp2
            go_roundw
            case rel => exact ⟨k + 1, d, c, _, gg, Bc, by go_num, rfl, rfl, by omega, by omega, hg, HTAB.out, hd, hc, HROWS.out, HB.out, .inl ⟨by omega, by rw [← HSC.out, HDR.out, scanF, if_neg HN45.out, if_pos ⟨h48, h57⟩, HMIN.out]⟩⟩
            case measure => simp [intOf]; omega
          · have HN45 := Lib.hid (show ¬ s[k] = 45 from fun e => h45 ((u8_eq (n := 45) (by decide)).1 e))
            have HND := Lib.hid hdig
            obtain ⟨hds, cv, hown, holds, hcur, hB1, hB2⟩ := HTAB.out
            obtain ⟨gb, tcap, rfl⟩ := ownsRow_succ hown
            obtain ⟨ca, cc, rfl, _⟩ := own_cells hcur
            have hlen := hown.1
            simp only [List.length_append, List.length_cons, List.length_nil] at hlen
            have cT : wr.cell? ⟨gb, d.length, none⟩ = some (.slice ca c.length cc) := by
              have h := hown.cellAt d.length (by omega)
              rw [h, List.getElem?_append_right (by omega)]
              simp [show d.length - hds.length = 0 by omega]
            have fT := hown.frozenAt d.length
            have HOWN := Lib.hid hown
            have HOLDS := Lib.hid holds
            have HCUR := Lib.hid hcur
            have HLEN := Lib.hid hlen
            clear hown holds hcur hlen
            by_cases h59 : s[k].toNat = 59
            · have hb59 : ((s[k].toNat : Int) == 59) = true := by rw [beq_iff_eq]; omega
              have h48' : (48 : Int) ≤ (s[k].toNat : Int) := by omega
              have h57' : ¬ (s[k].toNat : Int) ≤ 57 := by omega
              have HB59 := Lib.hid (show s[k] = 59 from (u8_eq (n := 59) (by decide)).2 h59)
              have HCOND := Lib.hid (show (4 < d.length + 1 ∨ 12 ≤ c.length) → scanF (s.data.toList.drop k) d c nn gg = none from fun h => by rw [HDR.out, scanF, if_neg HN45.out, if_neg HND.out, if_pos h])
              have HGO := Lib.hid (show ¬ (4 < d.length + 1 ∨ 12 ≤ c.length) → scanF (s.data.toList.drop k) d c nn gg = scanF (s.data.toList.drop (k + 1)) (d ++ [c ++ [gg * nn]]) [] 0 1 from fun h => by rw [HDR.out, scanF, if_neg HN45.out, if_neg HND.out, if_neg h, if_pos HB59.out])
              clear h45 h59 hdig
              by_cases hd4 : 3 < d.length
              · have hL : (4 : Int) < (d.length : Int) + 1 := by omega
                have hL2 : 4 < d.length + 1 := by omega
                have hL3 : (4 : Int) ≤ (d.length : Int) := by omega
                have hL4 : 4 ≤ d.length := by omega
                have HSTEP := Lib.hid (HCOND.out (.inl hL2))
                have HPAR := Lib.hid (show parR s = none by unfold parR; rw [← HSC.out, HSTEP.out])
                clear HSC HSTEP HOLDS HOWN HCUR HTAB HROWS
                go_wp2
                go_ret2
                exact ⟨_, by rw [HPAR.out]; rfl, by rw [HPAR.out]; exact nil_rows _, HB.out⟩
              · have hL : ¬ (4 : Int) < (d.length : Int) + 1 := by omega
                have hL2 : ¬ 4 < d.length + 1 := by omega
                have hL3 : ¬ (4 : Int) ≤ (d.length : Int) := by omega
                have hL4 : ¬ 4 ≤ d.length := by omega
                by_cases hc12 : 12 ≤ c.length
                · have hC : (12 : Int) ≤ (c.length : Int) := by omega
                  have HSTEP := Lib.hid (HCOND.out (.inr hc12))
                  have HPAR := Lib.hid (show parR s = none by unfold parR; rw [← HSC.out, HSTEP.out])
                  clear HSC HSTEP HOLDS HOWN HCUR HTAB HROWS
                  go_wp2
                  go_ret2
                  exact ⟨_, by rw [HPAR.out]; rfl, by rw [HPAR.out]; exact nil_rows _, HB.out⟩
                · have hC : ¬ (12 : Int) ≤ (c.length : Int) := by omega
                  have HSTEP := Lib.hid (HGO.out (by omega))
                  clear HCOND HGO
                  have hwm : wrap64 (gg * nn) = gg * nn := by
                    rcases hg with rfl | rfl <;> exact IntWalk.wrap64_in _ ⟨by omega, by omega⟩
                  go_wp2_with (at_builtin; refine wpList_append_own _ rfl (.tmp 70) (.tmp 74) 32 rfl Bc 3 j0 (.int .i64 0) 1 8 Tryd.underlying32 hj0 hy0 hy1 hy2 rfl (by decide) _ _ _ rfl (HCUR.out.alloc _) ⟨wr.heap.size, 0, none⟩ 1 1 [.int .i64 (gg * nn)] rfl rfl (cell_one_new _ _ _) (by intro u hu; simp at hu; subst hu; rfl) (by unfold maxLen; omega) (by omega) (by simp; omega) ?_)
                  intro v' w2 hown' hgrow _
                  obtain ⟨g', cap', rfl⟩ := ownsRow_succ hown'
                  have hB3 := below_append2 (B := w.heap.size) HB.out HB.out.size HCUR.out (by omega) hgrow
                  have hH2 := push_header HOWN.out HCUR.out hgrow
                  have hw2 : wr.heap.size ≤ w2.heap.size := by have := hgrow.size; simp at this; omega
                  have hT2 := TabC.push HOWN.out HLEN.out HOLDS.out HCUR.out hB1 hB2 hgrow hw2 hown'
                  have cT2 : w2.cell? ⟨gb, d.length, none⟩ = some (.slice ca c.length cc) := by
                    have h := hH2.cellAt d.length (by omega)
                    have hl := HLEN.out
                    rw [h, List.getElem?_append_right (by omega)]
                    simp [show d.length - hds.length = 0 by omega]
                  have fT2 := hH2.frozenAt d.length
                  have hb4 : Below w.heap.size w (w2.setCell ⟨gb, d.length, none⟩ (.slice (some ⟨g', 0, none⟩) (c.length + 1) cap')) := hB3.setCell (p := ⟨gb, d.length, none⟩) (own_blk HOWN.out rfl).1 _
                  have HT2 := Lib.hid hT2
                  have HB4 := Lib.hid hb4
                  clear hown' hgrow hB3 hH2 hT2 hb4 cT fT
                  obtain ⟨hds2, cv2, k1, k2, k3, _, _⟩ := id HT2.out
                  have K1 := Lib.hid k1
                  have K2 := Lib.hid k2
                  have K3 := Lib.hid k3
                  have hB4s := HB4.out.size
                  rw [World.size_setCell] at hB4s
                  have hnew := cell_one_new (w2.setCell ⟨gb, d.length, none⟩ (.slice (some ⟨g', 0, none⟩) (c.length + 1) cap')) (.slice none 0 0) 32
                  rw [World.size_setCell] at hnew
                  have HNEW := Lib.hid hnew
                  clear k1 k2 k3 hnew
                  go_wp2_with (at_builtin; refine wpList_append_own _ rfl (.tmp 87) (.tmp 88) 22 rfl w.heap.size 32 i0 (.slice none 0 0) 1 24 Tryd.underlying22 hi0 hz0 hz1 hz2 rfl (by decide) _ _ _ rfl (K1.out.alloc _) ⟨w2.heap.size, 0, none⟩ 1 1 [.slice none 0 0] rfl rfl HNEW.out (by intro u hu; simp at hu; subst hu; rfl) (by unfold maxLen; omega) (by omega) (by simp; omega) ?_)
                  intro v3 w3 hown3 hgrow3 _
                  have hw3 : w2.heap.size ≤ w3.heap.size := by have := hgrow3.size; simp at this; omega
                  have TN := Lib.hid (TabC.next HT2.out hgrow3 (by rw [World.size_setCell]; exact hw3) hds2 cv2 K1.out K2.out K3.out (by rw [List.append_assoc]; exact hown3))
                  have HB5 := Lib.hid (below_append2 (B := w.heap.size) HB4.out (by rw [World.size_setCell]; exact hB4s) K1.out (Nat.le_refl _) hgrow3)
                  have HR5 := Lib.hid (show ∀ l ∈ d ++ [c ++ [gg * nn]], l.length ≤ 12 from fun l hl => by
                    rcases List.mem_append.1 hl with h | h
                    · exact HROWS.out l h
                    · simp only [List.mem_singleton] at h; subst h; simp; omega)
                  clear hown3 hgrow3
                  go_wp2
                  go_roundw
                  case rel => exact ⟨k + 1, d ++ [c ++ [gg * nn]], [], 0, 1, _, by go_num, rfl, rfl, by omega, by omega, .inl rfl, TN.out, by simp; omega, by simp, HR5.out, HB5.out, .inl ⟨by omega, by rw [← HSC.out, HSTEP.out]⟩⟩
                  case measure => simp [intOf]; omega
            · have hb59 : ((s[k].toNat : Int) == 59) = false := by rw [beq_eq_false_iff_ne]; omega
              have HN59 := Lib.hid (show ¬ s[k] = 59 from fun e => h59 ((u8_eq (n := 59) (by decide)).1 e))
              have HCOND := Lib.hid (show (4 < d.length + 1 ∨ 12 ≤ c.length) → scanF (s.data.toList.drop k) d c nn gg = none from fun h => by rw [HDR.out, scanF, if_neg HN45.out, if_neg HND.out, if_pos h])
              have HGO := Lib.hid (show ¬ (4 < d.length + 1 ∨ 12 ≤ c.length) → scanF (s.data.toList.drop k) d c nn gg = scanF (s.data.toList.drop (k + 1)) d (c ++ [gg * nn]) 0 1 from fun h => by rw [HDR.out, scanF, if_neg HN45.out, if_neg HND.out, if_neg h, if_neg HN59.out])
              by_cases h48 : 48 ≤ s[k].toNat
              · have h48' : (48 : Int) ≤ (s[k].toNat : Int) := by omega
                have h57' : ¬ (s[k].toNat : Int) ≤ 57 := by omega
                clear h45 h59 hdig h48
                by_cases hd4 : 3 < d.length
                · have hL : (4 : Int) < (d.length : Int) + 1 := by omega
                  have hL2 : 4 < d.length + 1 := by omega
                  have hL3 : (4 : Int) ≤ (d.length : Int) := by omega
                  have hL4 : 4 ≤ d.length := by omega
                  have HSTEP := Lib.hid (HCOND.out (.inl hL2))
                  have HPAR := Lib.hid (show parR s = none by unfold parR; rw [← HSC.out, HSTEP.out])
                  clear HSC HSTEP HOLDS HOWN HCUR HTAB HROWS
                  go_wp2
                  go_ret2
                  exact ⟨_, by rw [HPAR.out]; rfl, by rw [HPAR.out]; exact nil_rows _, HB.out⟩
                · have hL : ¬ (4 : Int) < (d.length : Int) + 1 := by omega
                  have hL2 : ¬ 4 < d.length + 1 := by omega
                  have hL3 : ¬ (4 : Int) ≤ (d.length : Int) := by omega
                  have hL4 : ¬ 4 ≤ d.length := by omega
                  by_cases hc12 : 12 ≤ c.length
                  · have hC : (12 : Int) ≤ (c.length : Int) := by omega
                    have HSTEP := Lib.hid (HCOND.out (.inr hc12))
                    have HPAR := Lib.hid (show parR s = none by unfold parR; rw [← HSC.out, HSTEP.out])
                    clear HSC HSTEP HOLDS HOWN HCUR HTAB HROWS
                    go_wp2
                    go_ret2
                    exact ⟨_, by rw [HPAR.out]; rfl, by rw [HPAR.out]; exact nil_rows _, HB.out⟩
                  · have hC : ¬ (12 : Int) ≤ (c.length : Int) := by omega
                    have HSTEP := Lib.hid (HGO.out (by omega))
                    clear HCOND HGO
                    have hwm : wrap64 (gg * nn) = gg * nn := by
                      rcases hg with rfl | rfl <;> exact IntWalk.wrap64_in _ ⟨by omega, by omega⟩
                    go_wp2_with (at_builtin; refine wpList_append_own _ rfl (.tmp 70) (.tmp 74) 32 rfl Bc 3 j0 (.int .i64 0) 1 8 Tryd.underlying32 hj0 hy0 hy1 hy2 rfl (by decide) _ _ _ rfl (HCUR.out.alloc _) ⟨wr.heap.size, 0, none⟩ 1 1 [.int .i64 (gg * nn)] rfl rfl (cell_one_new _ _ _) (by intro u hu; simp at hu; subst hu; rfl) (by unfold maxLen; omega) (by omega) (by simp; omega) ?_)
                    intro v' w2 hown' hgrow _
                    obtain ⟨g', cap', rfl⟩ := ownsRow_succ hown'
                    have hB3 := below_append2 (B := w.heap.size) HB.out HB.out.size HCUR.out (by omega) hgrow
                    have hH2 := push_header HOWN.out HCUR.out hgrow
                    have hw2 : wr.heap.size ≤ w2.heap.size := by have := hgrow.size; simp at this; omega
                    have hT2 := TabC.push HOWN.out HLEN.out HOLDS.out HCUR.out hB1 hB2 hgrow hw2 hown'
                    have cT2 : w2.cell? ⟨gb, d.length, none⟩ = some (.slice ca c.length cc) := by
                      have h := hH2.cellAt d.length (by omega)
                      have hl := HLEN.out
                      rw [h, List.getElem?_append_right (by omega)]
                      simp [show d.length - hds.length = 0 by omega]
                    have fT2 := hH2.frozenAt d.length
                    have hb4 : Below w.heap.size w (w2.setCell ⟨gb, d.length, none⟩ (.slice (some ⟨g', 0, none⟩) (c.length + 1) cap')) := hB3.setCell (p := ⟨gb, d.length, none⟩) (own_blk HOWN.out rfl).1 _
                    have HT2 := Lib.hid hT2
                    have HB4 := Lib.hid hb4
                    clear hown' hgrow hB3 hH2 hT2 hb4 cT fT
                    go_wp2
                    go_roundw
                    case rel => exact ⟨k + 1, d, c ++ [gg * nn], 0, 1, Bc, by go_num, rfl, rfl, by omega, by omega, .inl rfl, HT2.out, hd, by simp; omega, HROWS.out, HB4.out, .inl ⟨by omega, by rw [← HSC.out, HSTEP.out]⟩⟩
                    case measure => simp [intOf]; omega
              · have h48' : ¬ (48 : Int) ≤ (s[k].toNat : Int) := by omega
                clear h45 h59 hdig h48
                by_cases hd4 : 3 < d.length
                · have hL : (4 : Int) < (d.length : Int) + 1 := by omega
                  have hL2 : 4 < d.length + 1 := by omega
                  have hL3 : (4 : Int) ≤ (d.length : Int) := by omega
                  have hL4 : 4 ≤ d.length := by omega
                  have HSTEP := Lib.hid (HCOND.out (.inl hL2))
                  have HPAR := Lib.hid (show parR s = none by unfold parR; rw [← HSC.out, HSTEP.out])
                  clear HSC HSTEP HOLDS HOWN HCUR HTAB HROWS
                  go_wp2
                  go_ret2
                  exact ⟨_, by rw [HPAR.out]; rfl, by rw [HPAR.out]; exact nil_rows _, HB.out⟩
                · have hL : ¬ (4 : Int) < (d.length : Int) + 1 := by omega
                  have hL2 : ¬ 4 < d.length + 1 := by omega
                  have hL3 : ¬ (4 : Int) ≤ (d.length : Int) := by omega
                  have hL4 : ¬ 4 ≤ d.length := by omega
                  by_cases hc12 : 12 ≤ c.length
                  · have hC : (12 : Int) ≤ (c.length : Int) := by omega
                    have HSTEP := Lib.hid (HCOND.out (.inr hc12))
                    have HPAR := Lib.hid (show parR s = none by unfold parR; rw [← HSC.out, HSTEP.out])
                    clear HSC HSTEP HOLDS HOWN HCUR HTAB HROWS
                    go_wp2
                    go_ret2
                    exact ⟨_, by rw [HPAR.out]; rfl, by rw [HPAR.out]; exact nil_rows _, HB.out⟩
                  · have hC : ¬ (12 : Int) ≤ (c.length : Int) := by omega
                    have HSTEP := Lib.hid (HGO.out (by omega))
                    clear HCOND HGO
                    have hwm : wrap64 (gg * nn) = gg * nn := by
                      rcases hg with rfl | rfl <;> exact IntWalk.wrap64_in _ ⟨by omega, by omega⟩
                    go_wp2_with (at_builtin; refine wpList_append_own _ rfl (.tmp 70) (.tmp 74) 32 rfl Bc 3 j0 (.int .i64 0) 1 8 Tryd.underlying32 hj0 hy0 hy1 hy2 rfl (by decide) _ _ _ rfl (HCUR.out.alloc _) ⟨wr.heap.size, 0, none⟩ 1 1 [.int .i64 (gg * nn)] rfl rfl (cell_one_new _ _ _) (by intro u hu; simp at hu; subst hu; rfl) (by unfold maxLen; omega) (by omega) (by simp; omega) ?_)
                    intro v' w2 hown' hgrow _
                    obtain ⟨g', cap', rfl⟩ := ownsRow_succ hown'
                    have hB3 := below_append2 (B := w.heap.size) HB.out HB.out.size HCUR.out (by omega) hgrow
                    have hH2 := push_header HOWN.out HCUR.out hgrow
                    have hw2 : wr.heap.size ≤ w2.heap.size := by have := hgrow.size; simp at this; omega
                    have hT2 := TabC.push HOWN.out HLEN.out HOLDS.out HCUR.out hB1 hB2 hgrow hw2 hown'
                    have cT2 : w2.cell? ⟨gb, d.length, none⟩ = some (.slice ca c.length cc) := by
                      have h := hH2.cellAt d.length (by omega)
                      have hl := HLEN.out
                      rw [h, List.getElem?_append_right (by omega)]
                      simp [show d.length - hds.length = 0 by omega]
                    have fT2 := hH2.frozenAt d.length
                    have hb4 : Below w.heap.size w (w2.setCell ⟨gb, d.length, none⟩ (.slice (some ⟨g', 0, none⟩) (c.length + 1) cap')) := hB3.setCell (p := ⟨gb, d.length, none⟩) (own_blk HOWN.out rfl).1 _
                    have HT2 := Lib.hid hT2
                    have HB4 := Lib.hid hb4
                    clear hown' hgrow hB3 hH2 hT2 hb4 cT fT
                    go_wp2
                    go_roundw
                    case rel => exact ⟨k + 1, d, c ++ [gg * nn], 0, 1, Bc, by go_num, rfl, rfl, by omega, by omega, .inl rfl, HT2.out, hd, by simp; omega, HROWS.out, HB4.out, .inl ⟨by omega, by rw [← HSC.out, HSTEP.out]⟩⟩
                    case measure => simp [intOf]; omega
      · have hke : k = s.size := by omega
        have hle2 : (k : Int) ≤ (s.size : Int) := by omega
        have hlt2 : ¬ (k : Int) < (s.size : Int) := by omega
        have HDE := Lib.hid (show s.data.toList.drop k = [] from List.drop_eq_nil_of_le (by rw [Array.length_toList]; show s.size ≤ k; omega))
        obtain ⟨hds, cv, hown, holds, hcur, hB1, hB2⟩ := HTAB.out
        obtain ⟨gb, tcap, rfl⟩ := ownsRow_succ hown
        obtain ⟨ca, cc, rfl, _⟩ := own_cells hcur
        have hlen := hown.1
        simp only [List.length_append, List.length_cons, List.length_nil] at hlen
        have cT : wr.cell? ⟨gb, d.length, none⟩ = some (.slice ca c.length cc) := by
          have h := hown.cellAt d.length (by omega)
          rw [h, List.getElem?_append_right (by omega)]
          simp [show d.length - hds.length = 0 by omega]
        have fT := hown.frozenAt d.length
        have HOWN := Lib.hid hown
        have HOLDS := Lib.hid holds
        have HCUR := Lib.hid hcur
        have HLEN := Lib.hid hlen
        clear hown holds hcur hlen
        have HCOND := Lib.hid (show (4 < d.length + 1 ∨ 12 ≤ c.length) → scanF (s.data.toList.drop k) d c nn gg = none from fun h => by rw [HDE.out, scanF, if_pos h])
        have HGO := Lib.hid (show ¬ (4 < d.length + 1 ∨ 12 ≤ c.length) → scanF (s.data.toList.drop k) d c nn gg = some (d ++ [c ++ [gg * nn]]) from fun h => by rw [HDE.out, scanF, if_neg h])
        have HKE := Lib.hid hke
        clear hke
        by_cases hd4 : 3 < d.length
        · have hL : (4 : Int) < (d.length : Int) + 1 := by omega
          have hL2 : 4 < d.length + 1 := by omega
          have hL3 : (4 : Int) ≤ (d.length : Int) := by omega
          have hL4 : 4 ≤ d.length := by omega
          have HSTEP := Lib.hid (HCOND.out (.inl hL2))
          have HPAR := Lib.hid (show parR s = none by unfold parR; rw [← HSC.out, HSTEP.out])
          clear HSC HSTEP HOLDS HOWN HCUR HTAB HROWS
          go_wp2
          go_ret2
          exact ⟨_, by rw [HPAR.out]; rfl, by rw [HPAR.out]; exact nil_rows _, HB.out⟩
        · have hL : ¬ (4 : Int) < (d.length : Int) + 1 := by omega
          have hL2 : ¬ 4 < d.length + 1 := by omega
          have hL3 : ¬ (4 : Int) ≤ (d.length : Int) := by omega
          have hL4 : ¬ 4 ≤ d.length := by omega
          by_cases hc12 : 12 ≤ c.length
          · have hC : (12 : Int) ≤ (c.length : Int) := by omega
            have HSTEP := Lib.hid (HCOND.out (.inr hc12))
            have HPAR := Lib.hid (show parR s = none by unfold parR; rw [← HSC.out, HSTEP.out])
            clear HSC HSTEP HOLDS HOWN HCUR HTAB HROWS
            go_wp2
            go_ret2
            exact ⟨_, by rw [HPAR.out]; rfl, by rw [HPAR.out]; exact nil_rows _, HB.out⟩
          · have hC : ¬ (12 : Int) ≤ (c.length : Int) := by omega
            have HSTEP := Lib.hid (HGO.out (by omega))
            clear HCOND HGO
            have hwm : wrap64 (gg * nn) = gg * nn := by
              rcases hg with rfl | rfl <;> exact IntWalk.wrap64_in _ ⟨by omega, by omega⟩
            go_wp2_with (at_builtin; refine wpList_append_own _ rfl (.tmp 70) (.tmp 74) 32 rfl Bc 3 j0 (.int .i64 0) 1 8 Tryd.underlying32 hj0 hy0 hy1 hy2 rfl (by decide) _ _ _ rfl (HCUR.out.alloc _) ⟨wr.heap.size, 0, none⟩ 1 1 [.int .i64 (gg * nn)] rfl rfl (cell_one_new _ _ _) (by intro u hu; simp at hu; subst hu; rfl) (by unfold maxLen; omega) (by omega) (by simp; omega) ?_)
            intro v' w2 hown' hgrow _
            obtain ⟨g', cap', rfl⟩ := ownsRow_succ hown'
            have hB3 := below_append2 (B := w.heap.size) HB.out HB.out.size HCUR.out (by omega) hgrow
            have hH2 := push_header HOWN.out HCUR.out hgrow
            have hw2 : wr.heap.size ≤ w2.heap.size := by have := hgrow.size; simp at this; omega
            have hT2 := TabC.push HOWN.out HLEN.out HOLDS.out HCUR.out hB1 hB2 hgrow hw2 hown'
            have cT2 : w2.cell? ⟨gb, d.length, none⟩ = some (.slice ca c.length cc) := by
              have h := hH2.cellAt d.length (by omega)
              have hl := HLEN.out
              rw [h, List.getElem?_append_right (by omega)]
              simp [show d.length - hds.length = 0 by omega]
            have fT2 := hH2.frozenAt d.length
            have hb4 : Below w.heap.size w (w2.setCell ⟨gb, d.length, none⟩ (.slice (some ⟨g', 0, none⟩) (c.length + 1) cap')) := hB3.setCell (p := ⟨gb, d.length, none⟩) (own_blk HOWN.out rfl).1 _
            have HT2 := Lib.hid hT2
            have HB4 := Lib.hid hb4
            clear hown' hgrow hB3 hH2 hT2 hb4 cT fT
            go_wp2
            go_roundw
            case rel => exact ⟨k + 1, d, c ++ [gg * nn], 0, 1, Bc, by go_num, rfl, rfl, by omega, by omega, .inl rfl, HT2.out, hd, by simp; omega, HROWS.out, HB4.out, .inr ⟨by omega, by rw [← HSC.out, HSTEP.out]⟩⟩
            case measure => simp [intOf]; omega
end Go.Proofs.YtbgflacfemeblaaDoor

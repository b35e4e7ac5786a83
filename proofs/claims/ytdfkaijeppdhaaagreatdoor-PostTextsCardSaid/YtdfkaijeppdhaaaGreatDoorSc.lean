/- Contract of the reference: at (Post). -/
import Derived.Test.YtdfkaijeppdhaaaGreatDoorSb
namespace Go.Proofs.YtdfkaijeppdhaaaGreatDoor
open Go.RowKit Go.Shelf

theorem rsAt_found {l : List Rw} {n : ByteArray} {k : Nat} (hk : k < l.length) (h0 : ∀ j (h : j < l.length), j < k → (l[j]).1 ≠ n) (h1 : (l[k]).1 = n) : rsAt n l = k ∧ rsMk l n = l := by
  have e := rsAt_is n l k h0 (fun _ => h1) (by omega)
  refine ⟨e, ?_⟩
  unfold rsMk
  rw [e, if_pos hk]
theorem rsAt_not {l : List Rw} {n : ByteArray} (h0 : ∀ j (h : j < l.length), (l[j]).1 ≠ n) : rsAt n l = l.length ∧ rsMk l n = l ++ [(n, emp, 0)] := by
  have e := rsAt_is n l l.length (fun j h _ => h0 j h) (fun h => by omega) (Nat.le_refl _)
  refine ⟨e, ?_⟩
  unfold rsMk
  rw [e, if_neg (by omega)]
def AtPost (S B : Nat) (l : List Rw) (n : ByteArray) (w : World) (e : Ending) (w' : World) : Prop := e = .returned (.int .i64 (rsAt n l : Nat)) ∧ SaysAt w' S B (rsMk l n) ∧ TS S B w w'
set_option maxRecDepth 100000 in
set_option maxHeartbeats 4000000 in
theorem rat_any (S B : Nat) (l : List Rw) (n : ByteArray) (w : World) (h : SaysAt w S B l) (hl : l.length ≤ 1000) : Calls Tryz.prog 74 #[.pointer (some ⟨S, 0, none⟩), .string n] w (AtPost S B l n w) := by
  obtain ⟨u, v, t, h3⟩ := h
  obtain ⟨i0, hi0, hz0, hz1, hz2⟩ := info_parts Tryz.infoStr
  obtain ⟨i1, hi1, hy0, hy1, hy2⟩ := info_parts Tryz.infoInt
  have H3 := Lib.hid h3
  obtain ⟨c0, c1, c2, fz⟩ := h3.cell
  obtain ⟨ua, uc, rfl⟩ := own_shape h3.names
  obtain ⟨va, vc, rfl⟩ := own_shape h3.texts
  obtain ⟨ta, tc, rfl⟩ := own_shape h3.sums
  have HNL : Hid ((l.map fun x => x.1).length = l.length) := Lib.hid (by simp)
  have HTL : Hid ((l.map fun x => x.2.1).length = l.length) := Lib.hid (by simp)
  have HSL : Hid ((l.map fun x => x.2.2).length = l.length) := Lib.hid (by simp)
  rw [HNL.out] at c0
  rw [HTL.out] at c1
  rw [HSL.out] at c2
  have H3' := Lib.hid h3
  obtain ⟨len, hlen⟩ : ∃ len, len = l.length := ⟨_, rfl⟩
  have HLEN := Lib.hid hlen
  have HCELL : Hid (∀ k (hk : k < l.length), w.cell? ⟨(Value.slice ua (l.map fun x => x.1).length uc).ownBlock.getD 0, k, none⟩ = some (.string (l[k]).1) ∧ ∃ g, ua = some ⟨g, 0, none⟩) := Lib.hid (fun k hk => by
    obtain ⟨g, cap, hv, _, _⟩ := h3.names.form (by rw [HNL.out]; omega)
    simp only [Value.slice.injEq] at hv
    obtain ⟨rfl, _, rfl⟩ := hv
    refine ⟨?_, g, rfl⟩
    have := h3.names.cellAt k (by rw [HNL.out]; omega)
    show w.cell? ⟨g, k, none⟩ = _
    rw [this]
    simp [hk])
  rw [← hlen] at c0 c1 c2 hl
  clear h3 hlen
  go_enter Tryz.func74, Tryz.ntmps74
  go_wp2
  go_loopw [5] (fun i wr => ∃ k : Nat, k ≤ len ∧ i = .int .i64 k ∧ Hid (∀ j (h : j < l.length), j < k → (l[j]).1 ≠ n) ∧ wr = w) (fun i _ => len - (intOf i).toNat)
  case atStart => exact ⟨0, by omega, rfl, Lib.hid (fun j h hj => by omega), rfl⟩
  case round =>
    obtain ⟨k, hk, rfl, HT, rfl⟩ := hrel
    by_cases hlt : k < len
    · have hlt2 : (k : Int) < (len : Int) := by omega
      have hkl : k < l.length := by rw [← HLEN.out]; exact hlt
      obtain ⟨hck, g, rfl⟩ := HCELL.out k hkl
      have hc : wr.cell? ⟨g, k, none⟩ = some (.string (l[k]).1) := hck
      obtain ⟨x, hx⟩ : ∃ x, x = (l[k]).1 := ⟨_, rfl⟩
      rw [← hx] at hc
      have HX := Lib.hid hx
      clear hck hx
      by_cases hxn : x = n
      · have hb : (x.toList == n.toList) = true := by rw [ba_beq, decide_eq_true hxn]
        have HF := Lib.hid (rsAt_found hkl HT.out (HX.out.symm.trans hxn))
        clear hxn
        go_wp2
        go_ret
        refine ⟨?_, ?_, TS.refl _ _ _⟩
        · rw [HF.out.1]; rfl
        · rw [HF.out.2]; exact ⟨_, _, _, H3.out⟩
      · have hb : (x.toList == n.toList) = false := by rw [ba_beq, decide_eq_false hxn]
        have HT2 : Hid (∀ j (h : j < l.length), j < k + 1 → (l[j]).1 ≠ n) := Lib.hid (fun j h hj => by
          by_cases e : j = k
          · subst e; rw [← HX.out]; exact hxn
          · exact HT.out j h (by omega))
        clear hxn
        go_wp2
        go_roundw
        case rel => exact ⟨k + 1, by omega, by go_num, HT2, trivial⟩
        case measure => simp [intOf]; omega
    · obtain rfl : k = len := by omega
      have HF := Lib.hid (rsAt_not fun j h => HT.out j h (by rw [HLEN.out]; exact h))
      have HFIN := Lib.hid (fun (w' : World) (u v t : Value) (h : Says3 w' S B u v t (l.map (fun x => x.1) ++ [n]) (l.map (fun x => x.2.1) ++ [emp]) (l.map (fun x => x.2.2) ++ [0])) => show SaysAt w' S B (rsMk l n) from by
        rw [HF.out.2]
        exact ⟨u, v, t, by rw [List.map_append, List.map_append, List.map_append]; exact h⟩)
      have HR : Hid (Says3 wr S B (.slice ua k uc) (.slice va k vc) (.slice ta k tc) (l.map fun x => x.1) (l.map fun x => x.2.1) (l.map fun x => x.2.2)) := Lib.hid (by
        have h9 := H3'.out
        rw [HNL.out, HTL.out, HSL.out, ← HLEN.out] at h9
        exact h9)
      rw [← HLEN.out] at HNL HTL HSL
      generalize (l.map fun x => x.1) = ns at *
      generalize (l.map fun x => x.2.1) = ts at *
      generalize (l.map fun x => x.2.2) = ss at *
      have HN0 : Hid (wr.ownsRow B 9 1 (.slice ua k uc) k (ns.map Value.string)) := Lib.hid (by have h9 := HR.out.names; rw [HNL.out] at h9; exact h9)
      have hSlt := HR.out.lt
      have hBs := HR.out.size
      have HBS0 := Lib.hid hBs
      clear H3 H3' HCELL c1 c2 HT
      go_wp2_with (at_builtin; refine wpList_append_lies _ rfl _ _ 22 rfl B 9 i0 (.string ⟨#[]⟩) 1 16 Tryz.underlying22 hi0 hz0 hz1 hz2 rfl (by decide) _ _ _ rfl (HN0.out.alloc _) ⟨wr.heap.size, 0, none⟩ 1 1 [.string n] rfl rfl ?c1 ?c2 (by decide) ?c4 ?c5 ?c6 (wr.heap.size + 1) ?c7 ?_)
      case c1 => exact (cell_one_new _ _ _)
      case c2 => intro u hu; simp at hu; subst hu; rfl
      case c4 => unfold maxLen; omega
      case c5 => omega
      case c6 => simp; omega
      case c7 => simp
      intro g1 cap1 w2 hown2 hgrow2 hat2 hlt2
      have hN := HR.out.name (ob := .cells #[.string n] 9) (w2 := w2) (g := g1) (cap := cap1) (n := n) (by rw [HNL.out]; exact hown2) hgrow2 hat2
      rw [HNL.out] at hN
      obtain ⟨hS1, ⟨d0, d1⟩, hB1⟩ := hN
      have HS1 := Lib.hid hS1
      have HB1 := Lib.hid hB1
      clear hown2 hgrow2 hat2 hlt2 hS1 hB1 HR HN0 c0 fz
      obtain ⟨e0, e1, e2, ez⟩ := HS1.out.cell
      have HT1 : Hid ((w2.setCell ⟨S, 0, none⟩ (.slice (some ⟨g1, 0, none⟩) (k + 1) cap1)).ownsRow B 9 1 (.slice va k vc) k (ts.map Value.string)) := Lib.hid (by have h9 := HS1.out.texts; rw [HTL.out] at h9; exact h9)
      have hS2 : S < w2.heap.size := by have := HS1.out.lt; rwa [World.size_setCell] at this
      have hB2 : B ≤ w2.heap.size := by have := HS1.out.size; rwa [World.size_setCell] at this
      go_wp2_with (at_builtin; refine wpList_append_lies _ rfl _ _ 22 rfl B 9 i0 (.string ⟨#[]⟩) 1 16 Tryz.underlying22 hi0 hz0 hz1 hz2 rfl (by decide) _ _ _ rfl (HT1.out.alloc _) ⟨w2.heap.size, 0, none⟩ 1 1 [.string ⟨#[]⟩] rfl rfl ?c1 ?c2 (by decide) ?c4 ?c5 ?c6 (w2.heap.size + 1) ?c7 ?_)
      case c1 => intro j u hj; have h9 := cell_one_new (w2.setCell ⟨S, 0, none⟩ (.slice (some ⟨g1, 0, none⟩) (k + 1) cap1)) (.string ⟨#[]⟩) 9 j u hj; rw [World.size_setCell] at h9; exact h9
      case c2 => intro u hu; simp at hu; subst hu; rfl
      case c4 => unfold maxLen; omega
      case c5 => omega
      case c6 => simp; omega
      case c7 => simp
      intro g2 cap2 w3 hown3 hgrow3 hat3 hlt3
      have hN := HS1.out.text (ob := .cells #[.string ⟨#[]⟩] 9) (w2 := w3) (g := g2) (cap := cap2) (n := ⟨#[]⟩) (by rw [HTL.out]; exact hown3) hgrow3 (by rw [World.size_setCell]; exact hat3)
      rw [HTL.out] at hN
      obtain ⟨hS1, ⟨d2, d3⟩, hB1⟩ := hN
      have HS2 := Lib.hid hS1
      have HB2 := Lib.hid (HB1.out.trans hB1)
      clear hown3 hgrow3 hat3 hlt3 hS1 hB1 HB1 HS1 HT1 e0 e1 e2 ez d0 d1 hS2
      obtain ⟨e0, e1, e2, ez⟩ := HS2.out.cell
      have HU1 : Hid ((w3.setCell ⟨S, 1, none⟩ (.slice (some ⟨g2, 0, none⟩) (k + 1) cap2)).ownsRow B 3 1 (.slice ta k tc) k (ss.map (Value.int .i64))) := Lib.hid (by have h9 := HS2.out.sums; rw [HSL.out] at h9; exact h9)
      have hS2 : S < w3.heap.size := by have := HS2.out.lt; rwa [World.size_setCell] at this
      have hB3 : B ≤ w3.heap.size := by have := HS2.out.size; rwa [World.size_setCell] at this
      go_wp2_with (at_builtin; refine wpList_append_lies _ rfl _ _ 122 rfl B 3 i1 (.int .i64 0) 1 8 Tryz.underlying122 hi1 hy0 hy1 hy2 rfl (by decide) _ _ _ rfl (HU1.out.alloc _) ⟨w3.heap.size, 0, none⟩ 1 1 [.int .i64 0] rfl rfl ?c1 ?c2 (by decide) ?c4 ?c5 ?c6 (w3.heap.size + 1) ?c7 ?_)
      case c1 => intro j u hj; have h9 := cell_one_new (w3.setCell ⟨S, 1, none⟩ (.slice (some ⟨g2, 0, none⟩) (k + 1) cap2)) (.int .i64 0) 3 j u hj; rw [World.size_setCell] at h9; exact h9
      case c2 => intro u hu; simp at hu; subst hu; rfl
      case c4 => unfold maxLen; omega
      case c5 => omega
      case c6 => simp; omega
      case c7 => simp
      intro g3 cap3 w4 hown4 hgrow4 hat4 hlt4
      have hN := HS2.out.sum (ob := .cells #[.int .i64 0] 3) (w2 := w4) (g := g3) (cap := cap3) (n := 0) (by rw [HSL.out]; exact hown4) hgrow4
      rw [HSL.out] at hN
      obtain ⟨hS1, ⟨d4, d5⟩, hB1⟩ := hN
      have HS3 := Lib.hid hS1
      have HB3 := Lib.hid (HB2.out.trans hB1)
      clear hown4 hgrow4 hat4 hlt4 hS1 hB1 HB2 HS2 HU1 e0 e1 e2 ez d2 d3 hS2
      obtain ⟨e0, e1, e2, ez⟩ := HS3.out.cell
      have hw1 : IntKind.i64.wrap ((k : Int) + 1 - 1) = (k : Int) := by rw [IntWalk.i64_in _ (by omega)]; omega
      have hw2 : IntKind.i64.wrap (k : Int) = (k : Int) := IntWalk.i64_in _ (by omega)
      go_wp2
      go_ret
      refine ⟨?_, HFIN.out _ _ _ _ HS3.out, HB3.out⟩
      rw [HF.out.1, ← HLEN.out]; rfl
end Go.Proofs.YtdfkaijeppdhaaaGreatDoor

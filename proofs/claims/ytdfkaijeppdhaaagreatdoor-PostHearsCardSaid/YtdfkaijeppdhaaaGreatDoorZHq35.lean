/- Texts of this claim, laid together: An, Ao, Ap, Pd. -/
import Derived.Test.YtdfkaijeppdhaaaGreatDoorZHq23
import Derived.Test.YtdfkaijeppdhaaaGreatDoorZHq33
import Derived.Test.YtdfkaijeppdhaaaGreatDoorZHq34
import Derived.Test.YtdfkaijeppdhaaaGreatDoorZHq13
import Derived.Test.YtdfkaijeppdhaaaGreatDoorZHq02

/- Contracts: share.ask. -/
namespace Go.Proofs.YtdfkaijeppdhaaaGreatDoor
open Go.RowKit Go.Shelf
theorem whole_bd (c : List Int) (n : Int) : (wholeL c n).length ≤ 8 ∧ ∀ j, 0 ≤ (wholeL c n).getD j 0 ∧ (wholeL c n).getD j 0 ≤ 2000 := by
  unfold wholeL
  split
  · rename_i h
    have W := Fd.whl_share h
    have hc := W.cvl
    refine ⟨by rw [Fd.incL_len]; exact hc.hi, fun j => ?_⟩
    have hL : ((ordN (Fd.gL c n 4)).take (Fd.whN n (Fd.shareL c n 4))).length ≤ 8 := by
      have h1 := Fd.orde_len (ordN_orde (Fd.gL c n 4))
      have h2 := W.len
      have h3 : (Fd.qsL (Fd.shareL c n 4)).length = (Fd.shareL c n 4).length := by unfold Fd.qsL; simp
      have h4 := hc.hi
      rw [List.length_take]
      omega
    have := Fd.incL_bd ((ordN (Fd.gL c n 4)).take (Fd.whN n (Fd.shareL c n 4))) (Fd.qsL (Fd.shareL c n 4)) 1000 (fun i => by
      rw [List.getD_eq_getElem?_getD]
      by_cases hi : i < (Fd.qsL (Fd.shareL c n 4)).length
      · rw [List.getElem?_eq_getElem hi]; exact hc.holds _ (List.getElem_mem hi)
      · rw [List.getElem?_eq_none (by omega)]; simp) j
    omega
  · exact ⟨by simp, fun j => by simp⟩
/-- What share answers. -/
def shareA (names : List ByteArray) (n : Int) (kn : Kn) : ByteArray × Int := (joinS ((wholeL (names.map kn.stk) n).map itoaB), Fd.shareE (names.map kn.stk) n 4)
theorem join_words (base : Nat) (e : TypeId) (v : Value) (xs : List ByteArray) (w : World) (h : w.ownsRow base e 1 v xs.length (xs.map Value.string)) (hN : xs.length ≤ 8) (hx : ∀ x ∈ xs, x.size ≤ 11) :
    Calls Tryz.prog 85 #[v, .string ⟨#[32]⟩] w fun e w' => e = .returned (.string (joinS xs)) ∧ Below w.heap.size w w' := by
  by_cases h0 : xs = []
  · subst h0
    rcases h.2 with ⟨rfl, _⟩ | ⟨g, cap, cur, rfl, _, _, _, hrest⟩
    · refine (Tryz.strings_Join_none _ _ _ _).mono ?_
      rintro e w2 ⟨rfl, hw2⟩
      obtain rfl : w2 = w := hw2
      exact ⟨rfl, Below.refl _ _⟩
    · refine (Tryz.strings_Join_none _ _ _ _).mono ?_
      rintro e w2 ⟨rfl, hw2⟩
      obtain rfl : w2 = w := hw2
      exact ⟨rfl, Below.refl _ _⟩
  · have hb := Td.join_len [32] 11 (xs.map (·.data.toList)) (fun x hx' => by
      obtain ⟨y, hy, rfl⟩ := List.mem_map.1 hx'
      have := hx y hy
      rw [ba_size] at this
      exact this)
    rw [List.length_map] at hb
    simp only [List.length_cons, List.length_nil] at hb
    exact Td.join_own base e v xs ⟨#[32]⟩ w h h0 (by omega) (by show (Lib.join (xs.map (·.data.toList)) [32]).length ≤ _; omega)
set_option maxRecDepth 100000 in
set_option maxHeartbeats 4000000 in
theorem share_any (sv : Value) (names : List ByteArray) (n0 : Int) (a b n : Nat) (kn : Kn) (w : World) (hS : StrsAt w sv names) (h0 : 0 < names.length) (hl : names.length ≤ 8) (hsz : ∀ x ∈ names, x.size ≤ 8) (hK : KnAt w a b n kn) (hV : Vars w) :
    Calls Tryz.prog 288 #[.agg #[.int .i64 n0, sv], knV a b] w (AnsPost (shareA names n0 kn) w) := by
  obtain ⟨i0, hi0, hz0, hz1, hz2⟩ := info_parts Tryz.infoInt
  obtain ⟨s0, hs0, hy0, hy1, hy2⟩ := info_parts Tryz.infoStr
  obtain ⟨C, hC⟩ : ∃ C, C = names.map kn.stk := ⟨_, rfl⟩
  have HCC := Lib.hid hC
  obtain ⟨R, hR⟩ : ∃ R, R = joinS ((wholeL C n0).map itoaB) := ⟨_, rfl⟩
  have HR := Lib.hid hR
  obtain ⟨E, hE⟩ : ∃ E, E = Fd.shareE C n0 4 := ⟨_, rfl⟩
  have HE := Lib.hid hE
  have hgoal : shareA names n0 kn = (R, E) := by rw [hR, hE, hC]; rfl
  rw [hgoal]
  clear hgoal hR hE hC
  obtain ⟨bk, off, cap, rfl, hcap, hcc, hq⟩ := hS.cons h0
  obtain ⟨w1, hw1⟩ : ∃ w1, w1 = (w.alloc (.cells #[.int .i64 n0, .slice (some ⟨bk, off, none⟩) names.length cap] 146)).alloc (.cells #[.map (some a), .map (some b)] 102) := ⟨_, rfl⟩
  have hb1 : Below w.heap.size w w1 := by rw [hw1]; exact ((Below.refl _ w).alloc (Nat.le_refl _) _).alloc (by simp) _
  have HB1 := Lib.hid hb1
  have HQ := Lib.hid (fun j hj => keep_cell hb1 (hq j hj))
  have HK1 := Lib.hid (hK.below hb1)
  have HV1 := Lib.hid (hV.below hb1)
  have HE1 : Hid (w1.heap[w.heap.size]? = some (.cells #[.int .i64 n0, .slice (some ⟨bk, off, none⟩) names.length cap] 146 (0, 0))) := Lib.hid (by
    rw [hw1]; exact (Below.heap_alloc _ _ _ (by simp)).trans (World.alloc_heap_new w _))
  have HE2 : Hid (w1.heap[w.heap.size + 1]? = some (.cells #[.map (some a), .map (some b)] 102 (0, 0))) := Lib.hid (by
    have := World.alloc_heap_new (w.alloc (.cells #[.int .i64 n0, .slice (some ⟨bk, off, none⟩) names.length cap] 146)) (.cells #[.map (some a), .map (some b)] 102)
    rw [World.size_alloc] at this
    rw [hw1]; exact this)
  have HSZ := Lib.hid hsz
  have HZ1 : Hid (w1.heap.size = w.heap.size + 2) := Lib.hid (by rw [hw1]; simp)
  have HW1 := Lib.hid hw1
  obtain ⟨nl, hnl⟩ : ∃ nl, nl = names.length := ⟨_, rfl⟩
  have HN := Lib.hid hnl
  have HCL : Hid (C.length = nl) := Lib.hid (by rw [HCC.out, hnl]; simp)
  rw [← hnl] at hcap h0 hl HE1 HW1 ⊢
  clear hnl hw1 hb1 hS hK hsz hq hV
  unfold knV
  go_enter Tryz.func288, Tryz.ntmps288
  have f1 := heap_cell (j := 1) HE1.out rfl
  go_wp2_with fail
  rw [← HW1.out]
  have HL1 := Lib.hid HZ1.out
  go_loopw [6, 17] (fun o i wr => ∃ k : Nat, k ≤ nl ∧ i = .int .i64 k ∧ wr.ownsRow w1.heap.size 3 1 o k ((C.take k).map (Value.int .i64)) ∧ Below w1.heap.size w1 wr) (fun _ i _ => nl - (intOf i).toNat)
  case atStart => exact ⟨0, Nat.zero_le _, rfl, World.ownsRow_nil _ _ _ _, Below.refl _ _⟩
  case round =>
    obtain ⟨k, hk, rfl, hown, hbel⟩ := hrel
    have hsz1 := hbel.size
    have e0 := keep_cell hbel (heap_cell (j := 0) HE1.out rfl)
    have e1 := keep_cell hbel (heap_cell (j := 1) HE1.out rfl)
    have e3 := keep_cell hbel (heap_cell (j := 0) HE2.out rfl)
    have e4 := keep_cell hbel (heap_cell (j := 1) HE2.out rfl)
    by_cases hlt : k < nl
    · have hc := keep_cell hbel (HQ.out k (by rw [← HN.out]; exact hlt))
      have hmem : names.getD k emp ∈ names := by rw [List.getD_eq_getElem?_getD, List.getElem?_eq_getElem (by rw [← HN.out]; exact hlt)]; exact List.getElem_mem _
      have HXS := HSZ.out _ hmem
      have HT : Hid (C.take (k + 1) = C.take k ++ [kn.stk (names.getD k emp)]) := Lib.hid (by
        have hk2 : k < names.length := by rw [← HN.out]; exact hlt
        rw [HCC.out, List.take_succ_eq_append_getElem (by simpa using hk2), List.getElem_map, List.getD_eq_getElem?_getD, List.getElem?_eq_getElem hk2, Option.getD_some])
      clear hmem
      generalize names.getD k emp = x at *
      have hlook := (HK1.out.below hbel).lookI x (by omega)
      generalize kn.stk x = y at *
      have HB := Lib.hid hbel
      have HO := Lib.hid hown
      clear hbel hown
      go_wp2_with (at_builtin; refine wpList_append_own _ rfl _ _ 122 rfl w1.heap.size 3 i0 (.int .i64 0) 1 8 Tryz.underlying122 hi0 hz0 hz1 hz2 rfl (by decide) _ _ _ rfl (HO.out.alloc _) ⟨wr.heap.size, 0, none⟩ 1 1 [.int .i64 y] rfl rfl ?c1 ?c2 ?c3 ?c4 ?c5 ?_)
      case c1 => exact (cell_one_new _ _ _)
      case c2 => intro u hu; simp at hu; subst hu; rfl
      case c3 => unfold maxLen; omega
      case c4 => omega
      case c5 => simp; omega
      · intro v' w2 hown' hgrow _
        have RB := below_append HB.out hsz1 HO.out (Nat.le_refl _) hgrow
        clear hgrow
        go_wp2
        go_roundw
        case rel => exact ⟨k + 1, by omega, by go_num, by rw [HT.out, List.map_append, List.map_take]; exact hown', RB⟩
        case measure => simp [intOf]; omega
    · have e : k = nl := by omega
      subst e
      have HB := Lib.hid (HB1.out.trans (hbel.mono HB1.out.size))
      have hc : C.take k = C := by rw [← HCL.out, List.take_length]
      rw [hc] at hown
      have HI := Lib.hid (ints_own (l := C) (by rw [HCL.out]; exact hown) (by have := HCL.out; omega))
      have HV2 := Lib.hid (HV1.out.below hbel)
      have HWH := Lib.hid (Fd.tWhole_any _ C n0 4 wr HI.out)
      clear hown hbel
      go_wp2_with fail
      refine HWH.out.mono ?_
      intro e w5 h5
      obtain ⟨ov, rfl, hi5, hb5⟩ := whole_of h5
      clear h5
      have HB5 := Lib.hid (below_trans HB.out hb5)
      have HV5 := Lib.hid (HV2.out.below hb5)
      have HBD := Lib.hid (whole_bd C n0)
      rw [← HE.out]
      generalize wholeL C n0 = res at *
      obtain ⟨rl, hrl⟩ : ∃ rl, rl = res.length := ⟨_, rfl⟩
      obtain ⟨ra, rcap, rfl, hr9, hrq⟩ := hi5
      have HRQ := Lib.hid hrq
      have HRL := Lib.hid hrl
      rw [← hrl]
      have hrl8 : rl ≤ 8 := by rw [hrl]; exact HBD.out.1
      clear hrl hrq hr9 hb5
      go_wp2_with fail
      go_loopw [11, 38] (fun o i wr => ∃ j : Nat, j ≤ rl ∧ i = .int .i64 j ∧ wr.ownsRow w5.heap.size 9 1 o j (((res.take j).map itoaB).map Value.string) ∧ Below w5.heap.size w5 wr) (fun _ i _ => rl - (intOf i).toNat)
      case atStart => exact ⟨0, Nat.zero_le _, rfl, World.ownsRow_nil _ _ _ _, Below.refl _ _⟩
      case round =>
        obtain ⟨j, hj, rfl, hown, hbel⟩ := hrel
        have hszj := hbel.size
        by_cases hlt : j < rl
        · obtain ⟨rb, roff, rfl, hcells⟩ := HRQ.out (by rw [← HRL.out]; omega)
          have c9 := keep_cell hbel (hcells j (by rw [← HRL.out]; exact hlt))
          have HQB := Lib.hid (HBD.out.2 j)
          have HT : Hid (res.take (j + 1) = res.take j ++ [res.getD j 0]) := Lib.hid (by
            have hk2 : j < res.length := by rw [← HRL.out]; exact hlt
            rw [List.take_succ_eq_append_getElem hk2, List.getD_eq_getElem?_getD, List.getElem?_eq_getElem hk2, Option.getD_some])
          clear hcells
          generalize res.getD j 0 = q at *
          have HI2 := Lib.hid (itoa_any q (by have := HQB.out; omega) (by have := HQB.out; omega) wr (HV5.out.below hbel))
          have HB := Lib.hid hbel
          have HO := Lib.hid hown
          clear hbel hown
          go_wp2_with fail
          refine HI2.out.mono ?_
          rintro e w6 ⟨rfl, hb6⟩
          have HO6 := Lib.hid (own_below HO.out hb6)
          have HB6 := Lib.hid (HB.out.trans (hb6.mono HB.out.size))
          have hsz6 : w5.heap.size ≤ w6.heap.size := HB6.out.size
          clear hb6
          go_wp2_with (at_builtin; refine wpList_append_own _ rfl _ _ 22 rfl w5.heap.size 9 s0 (.string ⟨#[]⟩) 1 16 Tryz.underlying22 hs0 hy0 hy1 hy2 rfl (by decide) _ _ _ rfl (HO6.out.alloc _) ⟨w6.heap.size, 0, none⟩ 1 1 [.string (itoaB q)] rfl rfl ?c1 ?c2 ?c3 ?c4 ?c5 ?_)
          case c1 => exact (cell_one_new _ _ _)
          case c2 => intro u hu; simp at hu; subst hu; rfl
          case c3 => unfold maxLen; omega
          case c4 => omega
          case c5 => simp; omega
          · intro v' w2 hown' hgrow _
            have RB := below_append HB6.out hsz6 HO6.out (Nat.le_refl _) hgrow
            clear hgrow
            go_wp2
            go_roundw
            case rel => exact ⟨j + 1, by omega, by go_num, by rw [HT.out]; simpa using hown', RB⟩
            case measure => simp [intOf]; omega
        · have e : j = rl := by omega
          subst e
          have hc2 : res.take j = res := by rw [HRL.out, List.take_length]
          rw [hc2] at hown
          have HJ := Lib.hid (join_words _ _ _ (res.map itoaB) wr (by rw [List.length_map, ← HRL.out]; exact hown) (by rw [List.length_map]; exact HBD.out.1) (fun x hx => by
            obtain ⟨y, hy, rfl⟩ := List.mem_map.1 hx
            obtain ⟨i, hi, rfl⟩ := List.mem_iff_getElem.1 hy
            have := HBD.out.2 i
            rw [List.getD_eq_getElem?_getD, List.getElem?_eq_getElem hi, Option.getD_some] at this
            exact itoaB_size2 (by omega) (by omega)))
          rw [← HR.out] at HJ
          have HB := Lib.hid (HB5.out.trans (hbel.mono HB5.out.size))
          clear hown hbel
          go_wp2_with fail
          refine HJ.out.mono ?_
          rintro e w8 ⟨rfl, hb8⟩
          go_wp2
          go_ret2
          exact ⟨rfl, below_trans HB.out hb8⟩
end Go.Proofs.YtdfkaijeppdhaaaGreatDoor

/- Contracts: stock.ask; Ask of stock and of share. -/
namespace Go.Proofs.YtdfkaijeppdhaaaGreatDoor
open Go.RowKit Go.Shelf
/-- What stock answers. -/
def stockA (name : ByteArray) (kn : Kn) : ByteArray × Int := (itoaB (kn.stk name), 0)
theorem stockA_norm (name : ByteArray) (kn : Kn) : (stockA name kn).2 ≠ 0 → (stockA name kn).1 = emp := fun h => absurd rfl h
theorem shareA_norm (names : List ByteArray) (n : Int) (kn : Kn) : (shareA names n kn).2 ≠ 0 → (shareA names n kn).1 = emp := by
  unfold shareA wholeL
  intro h
  simp only at h
  simp only
  rw [if_neg h]
  rfl
set_option maxHeartbeats 1000000 in
theorem stock_any (name : ByteArray) (a b n : Nat) (kn : Kn) (w : World) (hsz : name.size ≤ 8) (hK : KnAt w a b n kn) (hB : -1000000000 ≤ kn.stk name ∧ kn.stk name ≤ 1000000000) (hV : Vars w) :
    Calls Tryz.prog 286 #[.agg #[.string name], knV a b] w (AnsPost (stockA name kn) w) := by
  unfold stockA
  obtain ⟨w1, hw1⟩ : ∃ w1, w1 = (w.alloc (.cells #[.string name] 139)).alloc (.cells #[.map (some a), .map (some b)] 102) := ⟨_, rfl⟩
  have hb1 : Below w.heap.size w w1 := by rw [hw1]; exact ((Below.refl _ w).alloc (Nat.le_refl _) _).alloc (by simp) _
  have HB1 := Lib.hid hb1
  have hlook := (hK.below hb1).lookI name (by omega)
  have HI := Lib.hid (itoa_any (kn.stk name) hB.1 hB.2 w1 (hV.below hb1))
  generalize kn.stk name = y at *
  have HW1 := Lib.hid hw1
  have HE1 : Hid (w1.heap[w.heap.size]? = some (.cells #[.string name] 139 (0, 0))) := Lib.hid (by
    rw [hw1]; exact (Below.heap_alloc _ _ _ (by simp)).trans (World.alloc_heap_new w _))
  have HE2 : Hid (w1.heap[w.heap.size + 1]? = some (.cells #[.map (some a), .map (some b)] 102 (0, 0))) := Lib.hid (by
    have := World.alloc_heap_new (w.alloc (.cells #[.string name] 139)) (.cells #[.map (some a), .map (some b)] 102)
    rw [World.size_alloc] at this
    rw [hw1]; exact this)
  have e0 := heap_cell (j := 0) HE1.out rfl
  have e4 := heap_cell (j := 1) HE2.out rfl
  clear hw1 hb1 hK hV hB
  unfold knV
  go_enter Tryz.func286, Tryz.ntmps286
  go_upto_region 1 with fail
  rw [← HW1.out]
  go_wp2_with (first | (go_at_call 48; refine HI.out.mono ?_; rintro e w5 ⟨rfl, h5⟩) | fail)
  go_ret2
  exact ⟨rfl, below_trans HB1.out h5⟩
set_option maxRecDepth 100000 in
set_option maxHeartbeats 8000000 in
/-- Ask of stock. -/
theorem askq_stock (P n : Nat) (F : List Nat) (b : Book) (line : ByteArray) (hs : line.size ≤ 1000000) (w : World) (h : PostAt w P F n b) (hok : BookOk b) (hV : Vars w) (name : ByteArray) (hc : parseB line = some (.stock name)) :
    Calls Tryz.prog 36 #[.pointer (some ⟨P, 0, none⟩), .string line] w (AnsPost (stockA name (saysB (allB b))) w) := by
  have HSM := Lib.hid ((Cmd.names_small hc).2.2.2.1 name rfl)
  obtain ⟨R, hR⟩ : ∃ R, R = stockA name (saysB (allB b)) := ⟨_, rfl⟩
  have HNM := Lib.hid (stockA_norm name (saysB (allB b)))
  have HR := Lib.hid hR
  rw [← hR]
  clear hR
  obtain ⟨K, vs, hP, hvs, hF⟩ := h.parts
  have HN := Lib.hid (none_any P K n _ w hP)
  have HA := Lib.hid (parse_any line hs w hV)
  have HC := Lib.hid hc
  have HPC := Lib.hid hP
  have HVS := Lib.hid hvs
  have HVR := Lib.hid hV
  have HOK := Lib.hid hok
  clear h hP hvs hF hV hok hc
  go_enter Tryz.func36, Tryz.ntmps36
  go_wp2_with fail
  refine HN.out.mono ?_
  rintro e w1 ⟨rfl, rfl⟩
  go_wp2_with fail
  refine HA.out.mono ?_
  rintro e w1 ⟨⟨pv, rfl, hpv⟩, hb1⟩
  have hta := assert_ask hpv w1
  rw [HC.out] at hta hpv
  rw [show Cmd.askO (some (.stock name)) = true from rfl] at hta
  unfold ifV at hta
  simp only [if_true] at hta
  have HPV := Lib.hid hpv
  have HB1 := Lib.hid hb1
  have HV1 := Lib.hid (HVR.out.below hb1)
  have r4 : ∀ W, KB w1 W → W.cell? ⟨P, 0, none⟩ = some (.pointer (some ⟨K, 0, none⟩)) := fun W hW => keep_cell hW (keep_cell hb1 (heap_cell HPC.out rfl))
  have HALL := Lib.hid (fun W (hW : KB w1 W) => all_any K _ b W ((HVS.out.below HB1.out).below hW).at HOK.out)
  have HENT : Hid (∀ e ∈ allB b, (eLine e).size ≤ 60) := Lib.hid (fun e he => ((isLineB_iff _).1 (by rw [← lineB_is]; exact (book_bounds HOK.out he).2.2.2)).1)
  have HLEN : Hid ((allB b).length ≤ 1000) := Lib.hid (by rw [allB_len]; have := lenB_le HOK.out; omega)
  clear hpv hb1
  go_wp2
  obtain rfl := HPV.out
  have hme : ∀ w, (method 462 139 (.agg #[.string name]) "skimmer/post.ask").run Tryz.prog w = .ok (286, .agg #[.string name]) w := fun w => method_stock _ w
  have hah : ∀ w, (nilAhead 462 139 (.agg #[.string name]) "skimmer/post.ask").run Tryz.prog w = .ok (some false) w := fun w => ahead_stock _ w
  have HRR := Lib.hid (show stockA name (saysB (allB b)) = R from HR.out.symm)
  clear hta
  have HAK := Lib.hid (fun W (hW : KB w1 W) ka kb (hk : KnAt W ka kb (allB b).length (saysB (allB b))) => stock_any name ka kb _ _ W HSM.out hk (by have := stk_bound (allB b) kn0 0 (fun s => ⟨Int.le_refl _, Int.le_refl _⟩) name; have h2 := HLEN.out; show -1000000000 ≤ (saysFrom kn0 (allB b)).stk name ∧ (saysFrom kn0 (allB b)).stk name ≤ 1000000000; omega) (HV1.out.below hW))
  rw [HRR.out] at HAK
  go_region_held3 (fun W => KB w1 W) (first | exact KB.refl _ | exact KB.drew (KB.refl _) | assumption | exact KB.drew (by assumption) | fail) (first
    | (go_at_call 57; refine (HALL.out _ (by first | exact KB.refl _ | exact KB.drew (KB.refl _) | assumption)).mono ?_; rintro e w5 ⟨v5, rfl, hl5, ho5, hb5⟩; have q5 : KB w1 w5 := KB.call (KB.drew (KB.refl _)) hb5; have HSY := Lib.hid (says_any v5 (allB b) w5 (hl5.ents (by have := HLEN.out; omega)) HLEN.out HENT.out (HV1.out.below q5)); clear hl5 ho5 hb5)
    | (go_at_call 56; refine HSY.out.mono ?_; rintro e w6 ⟨ka, kb, rfl, hk6, hka, hkb, hb6⟩; have q6 : KB w1 w6 := KB.call q5 hb6; have HK6 := Lib.hid hk6; have HV6 := Lib.hid (HV1.out.below q6); clear hk6 hka hkb hb6)
    | (go_at_call 286; refine (HAK.out _ q6 _ _ HK6.out).mono ?_; rintro e w7 ⟨rfl, hb7⟩; have q7 : KB w1 w7 := KB.call q6 hb7; clear hb7)
    | fail)
  all_goals (
    rw [HRR.out] at HNM
    obtain ⟨rs, re⟩ := R
    by_cases hz : re = 0
    · subst hz
      go_wp2
      go_ret2
      exact ⟨rfl, below_trans HB1.out q7⟩
    · have z0 : (re != 0) = true := by simpa using hz
      have hem : rs = emp := HNM.out hz
      subst hem
      go_wp2
      go_ret2
      exact ⟨rfl, below_trans HB1.out q7⟩)
set_option maxRecDepth 100000 in
set_option maxHeartbeats 8000000 in
/-- Ask of share. -/
theorem askq_share (P n : Nat) (F : List Nat) (b : Book) (line : ByteArray) (hs : line.size ≤ 1000000) (w : World) (h : PostAt w P F n b) (hok : BookOk b) (hV : Vars w) (m : Int) (names : List ByteArray) (hc : parseB line = some (.share m names)) (h0 : 0 < names.length) (hl : names.length ≤ 8) :
    Calls Tryz.prog 36 #[.pointer (some ⟨P, 0, none⟩), .string line] w (AnsPost (shareA names m (saysB (allB b))) w) := by
  have HSM := Lib.hid ((Cmd.names_small hc).2.2.2.2.1 m names rfl)
  obtain ⟨R, hR⟩ : ∃ R, R = shareA names m (saysB (allB b)) := ⟨_, rfl⟩
  have HNM := Lib.hid (shareA_norm names m (saysB (allB b)))
  have HR := Lib.hid hR
  rw [← hR]
  clear hR
  obtain ⟨K, vs, hP, hvs, hF⟩ := h.parts
  have HN := Lib.hid (none_any P K n _ w hP)
  have HA := Lib.hid (parse_any line hs w hV)
  have HC := Lib.hid hc
  have HPC := Lib.hid hP
  have HVS := Lib.hid hvs
  have HVR := Lib.hid hV
  have HOK := Lib.hid hok
  clear h hP hvs hF hV hok hc
  go_enter Tryz.func36, Tryz.ntmps36
  go_wp2_with fail
  refine HN.out.mono ?_
  rintro e w1 ⟨rfl, rfl⟩
  go_wp2_with fail
  refine HA.out.mono ?_
  rintro e w1 ⟨⟨pv, rfl, hpv⟩, hb1⟩
  have hta := assert_ask hpv w1
  rw [HC.out] at hta hpv
  rw [show Cmd.askO (some (.share m names)) = true from rfl] at hta
  unfold ifV at hta
  simp only [if_true] at hta
  have HPV := Lib.hid hpv
  have HB1 := Lib.hid hb1
  have HV1 := Lib.hid (HVR.out.below hb1)
  have r4 : ∀ W, KB w1 W → W.cell? ⟨P, 0, none⟩ = some (.pointer (some ⟨K, 0, none⟩)) := fun W hW => keep_cell hW (keep_cell hb1 (heap_cell HPC.out rfl))
  have HALL := Lib.hid (fun W (hW : KB w1 W) => all_any K _ b W ((HVS.out.below HB1.out).below hW).at HOK.out)
  have HENT : Hid (∀ e ∈ allB b, (eLine e).size ≤ 60) := Lib.hid (fun e he => ((isLineB_iff _).1 (by rw [← lineB_is]; exact (book_bounds HOK.out he).2.2.2)).1)
  have HLEN : Hid ((allB b).length ≤ 1000) := Lib.hid (by rw [allB_len]; have := lenB_le HOK.out; omega)
  clear hpv hb1
  go_wp2
  obtain ⟨sv, rfl, hs1⟩ := HPV.out
  have hme : ∀ w, (method 462 146 (.agg #[.int .i64 m, sv]) "skimmer/post.ask").run Tryz.prog w = .ok (288, .agg #[.int .i64 m, sv]) w := fun w => method_share _ w
  have hah : ∀ w, (nilAhead 462 146 (.agg #[.int .i64 m, sv]) "skimmer/post.ask").run Tryz.prog w = .ok (some false) w := fun w => ahead_share _ w
  have HS1 := Lib.hid hs1
  clear hs1
  have HRR := Lib.hid (show shareA names m (saysB (allB b)) = R from HR.out.symm)
  clear hta
  have HAK := Lib.hid (fun W (hW : KB w1 W) ka kb (hk : KnAt W ka kb (allB b).length (saysB (allB b))) => share_any sv names m ka kb _ _ W (HS1.out.below hW) h0 hl HSM.out hk (HV1.out.below hW))
  rw [HRR.out] at HAK
  go_region_held3 (fun W => KB w1 W) (first | exact KB.refl _ | exact KB.drew (KB.refl _) | assumption | exact KB.drew (by assumption) | fail) (first
    | (go_at_call 57; refine (HALL.out _ (by first | exact KB.refl _ | exact KB.drew (KB.refl _) | assumption)).mono ?_; rintro e w5 ⟨v5, rfl, hl5, ho5, hb5⟩; have q5 : KB w1 w5 := KB.call (KB.drew (KB.refl _)) hb5; have HSY := Lib.hid (says_any v5 (allB b) w5 (hl5.ents (by have := HLEN.out; omega)) HLEN.out HENT.out (HV1.out.below q5)); clear hl5 ho5 hb5)
    | (go_at_call 56; refine HSY.out.mono ?_; rintro e w6 ⟨ka, kb, rfl, hk6, hka, hkb, hb6⟩; have q6 : KB w1 w6 := KB.call q5 hb6; have HK6 := Lib.hid hk6; have HV6 := Lib.hid (HV1.out.below q6); clear hk6 hka hkb hb6)
    | (go_at_call 288; refine (HAK.out _ q6 _ _ HK6.out).mono ?_; rintro e w7 ⟨rfl, hb7⟩; have q7 : KB w1 w7 := KB.call q6 hb7; clear hb7)
    | fail)
  all_goals (
    rw [HRR.out] at HNM
    obtain ⟨rs, re⟩ := R
    by_cases hz : re = 0
    · subst hz
      go_wp2
      go_ret2
      exact ⟨rfl, below_trans HB1.out q7⟩
    · have z0 : (re != 0) = true := by simpa using hz
      have hem : rs = emp := HNM.out hz
      subst hem
      go_wp2
      go_ret2
      exact ⟨rfl, below_trans HB1.out q7⟩)
end Go.Proofs.YtdfkaijeppdhaaaGreatDoor

/- Plain: the shape of a question; Ask of beat and of drift. -/
namespace Go.Proofs.YtdfkaijeppdhaaaGreatDoor
open Go.RowKit Go.Shelf
def Shp (k : Nat) (l : List ByteArray) (ns : List Int) : Prop :=
  (k = 0 ∧ l.length = 1 ∧ ns.length = 0) ∨ (k = 1 ∧ l.length = 1 ∧ ns.length = 0) ∨ (k = 2 ∧ l.length = 2 ∧ ns.length = 0) ∨ (k = 3 ∧ l.length = 1 ∧ ns.length = 2)
theorem kind_shape {w : ByteArray} {k many nums : Nat} (h : kindB w = some (k, many, nums)) : (k = 0 ∧ many = 1 ∧ nums = 0) ∨ (k = 1 ∧ many = 1 ∧ nums = 0) ∨ (k = 2 ∧ many = 2 ∧ nums = 0) ∨ (k = 3 ∧ many = 1 ∧ nums = 2) := by
  unfold kindB at h
  split at h
  · cases h; exact .inl ⟨rfl, rfl, rfl⟩
  · split at h
    · cases h; exact .inr (.inl ⟨rfl, rfl, rfl⟩)
    · split at h
      · cases h; exact .inr (.inr (.inl ⟨rfl, rfl, rfl⟩))
      · split at h
        · cases h; exact .inr (.inr (.inr ⟨rfl, rfl, rfl⟩))
        · cases h
theorem Cmd.shape {s : ByteArray} {c : Cmd} (h : parseB s = some c) : (∀ m l, c = .share m l → 1 ≤ l.length ∧ l.length ≤ 8) ∧ (∀ k l ns, c = .asked k l ns → Shp k l ns) := by
  unfold parseB at h
  split at h
  · rename_i w r0 rs _
    unfold lineB1 at h
    split at h
    · split at h
      · cases h; exact ⟨by simp, by simp⟩
      · cases h
    · split at h
      · split at h
        · cases h; exact ⟨by simp, by simp⟩
        · cases h
      · split at h
        · split at h
          · cases h; exact ⟨by simp, by simp⟩
          · cases h
        · split at h
          · split at h
            · split at h
              · cases h; exact ⟨by simp, by simp⟩
              · cases h
            · cases h
          · split at h
            · split at h
              · split at h
                · rename_i hc
                  rw [Bool.and_eq_true, betw_iff] at hc
                  cases h
                  exact ⟨fun m l e => by cases e; omega, by simp⟩
                · cases h
              · cases h
            · unfold aboutB at h
              split at h
              · cases h
              · rename_i k many nums hk
                split at h
                · cases h
                · rename_i hne
                  split at h
                  · rename_i ns _ hns
                    cases h
                    refine ⟨by simp, fun k l ns e => ?_⟩
                    cases e
                    have h1 := allS_len _ _ _ hns
                    rw [List.length_drop] at h1
                    have h3 := kind_shape hk
                    unfold Shp
                    rw [List.length_take]
                    omega
                  · cases h
  · cases h
theorem ask_beat_any (P n : Nat) (F : List Nat) (b : Book) (line : ByteArray) (hs : line.size ≤ 1000000) (w : World) (h : PostAt w P F n b) (hok : BookOk b) (hV : Vars w) (names : List ByteArray) (ns : List Int) (hc : parseB line = some (.asked 1 names ns)) :
    Calls Tryz.prog 36 #[.pointer (some ⟨P, 0, none⟩), .string line] w (AnsPost (askedV ansBeat names (saysB (allB b))) w) := by
  have hsh := (Cmd.shape hc).2 _ _ _ rfl
  unfold Shp at hsh
  exact askq_asked P n F b line hs w h hok hV 1 names ns hc (by omega) (by omega) ansBeat (enters_of Tryz.func117 (by kernel_rfl) rfl) fun W base tv bv ts hb _ hrow _ hts => by
    have hlen := allS_len _ _ _ hts
    exact beat_kind W base tv bv ts hrow (by omega) (hV.below hb)
theorem ask_drift_any (P n : Nat) (F : List Nat) (b : Book) (line : ByteArray) (hs : line.size ≤ 1000000) (w : World) (h : PostAt w P F n b) (hok : BookOk b) (hV : Vars w) (names : List ByteArray) (ns : List Int) (hc : parseB line = some (.asked 3 names ns)) :
    Calls Tryz.prog 36 #[.pointer (some ⟨P, 0, none⟩), .string line] w (AnsPost (askedV (ansDrift ns) names (saysB (allB b))) w) := by
  have hsh := (Cmd.shape hc).2 _ _ _ rfl
  unfold Shp at hsh
  exact askq_asked P n F b line hs w h hok hV 3 names ns hc (by omega) (by omega) (ansDrift ns) (enters_of Tryz.func119 (by kernel_rfl) rfl) fun W base tv bv ts hb _ hrow hI hts => by
    have hlen := allS_len _ _ _ hts
    exact drift_kind W base tv bv ts ns hrow (by omega) hI (by omega) (hV.below hb)
end Go.Proofs.YtdfkaijeppdhaaaGreatDoor

/- Plain: how far two prints are from each other. -/
namespace Go.Proofs.YtdfkaijeppdhaaaGreatDoor
open Go
/-- The least cost from one list of peaks to another; each edit costs one. -/
def dist : List UInt8 → List UInt8 → Nat
  | [], [] => 0
  | [], _ :: t => 1 + dist [] t
  | _ :: s, [] => 1 + dist s []
  | x :: s, y :: t => min (min ((if x = y then 0 else 1) + dist s t) (1 + dist s (y :: t))) (1 + dist (x :: s) t)
termination_by s t => s.length + t.length
theorem dist_le : ∀ s t : List UInt8, dist s t ≤ s.length + t.length
  | [], [] => by simp [dist]
  | [], _ :: t => by have := dist_le [] t; simp only [dist, List.length_nil, List.length_cons] at *; omega
  | _ :: s, [] => by have := dist_le s []; simp only [dist, List.length_nil, List.length_cons] at *; omega
  | x :: s, y :: t => by
    have := dist_le (x :: s) t
    simp only [dist, List.length_cons] at *
    omega
termination_by s t => s.length + t.length
/-- What is left from a place of each. -/
def cst (s t : List UInt8) (i k : Nat) : Nat := dist (s.drop i) (t.drop k)
theorem cst_end (s t : List UInt8) : cst s t s.length t.length = 0 := by unfold cst; simp [dist]
theorem cst_left {s t : List UInt8} {i : Nat} (hi : i < s.length) : cst s t i t.length = 1 + cst s t (i + 1) t.length := by
  unfold cst
  rw [List.drop_eq_getElem_cons hi, List.drop_length, dist]
theorem cst_right {s t : List UInt8} {k : Nat} (hk : k < t.length) : cst s t s.length k = 1 + cst s t s.length (k + 1) := by
  unfold cst
  rw [List.drop_eq_getElem_cons hk, List.drop_length, dist]
theorem cst_both {s t : List UInt8} {i k : Nat} (hi : i < s.length) (hk : k < t.length) : cst s t i k = min (min ((if s[i] = t[k] then 0 else 1) + cst s t (i + 1) (k + 1)) (1 + cst s t (i + 1) k)) (1 + cst s t i (k + 1)) := by
  unfold cst
  rw [List.drop_eq_getElem_cons hi, List.drop_eq_getElem_cons hk, dist]
theorem cst_le (s t : List UInt8) (i k : Nat) : cst s t i k ≤ s.length + t.length := by
  have := dist_le (s.drop i) (t.drop k)
  unfold cst
  simp only [List.length_drop] at this
  omega
/-- An edit from a place of each: what it is, to where, its cost. -/
structure Stp where
  edit : Nat
  i : Nat
  k : Nat
  cost : Nat
def stepsL (s t : List UInt8) (i k : Nat) : List Stp :=
  (if i < s.length ∧ k < t.length then [if s.getD i 0 = t.getD k 0 then ⟨1, i + 1, k + 1, 0⟩ else ⟨2, i + 1, k + 1, 1⟩] else []) ++
  ((if i < s.length then [⟨3, i + 1, k, 1⟩] else []) ++ (if k < t.length then [⟨4, i, k + 1, 1⟩] else []))
def bestF (o : Option Nat) (n : Nat) : Option Nat := some (match o with
  | none => n
  | some b => if n < b then n else b)
def bestL (s t : List UInt8) (l : List Stp) : Option Nat := l.foldl (fun o x => bestF o (cst s t x.i x.k + x.cost)) none
theorem bestL_snoc (s t : List UInt8) (l : List Stp) (x : Stp) : bestL s t (l ++ [x]) = bestF (bestL s t l) (cst s t x.i x.k + x.cost) := by simp [bestL, List.foldl_append]
theorem best_is {s t : List UInt8} {i k : Nat} (hi : i ≤ s.length) (hk : k ≤ t.length) : (bestL s t (stepsL s t i k)).getD 0 = cst s t i k := by
  unfold stepsL
  by_cases h1 : i < s.length
  · by_cases h2 : k < t.length
    · rw [if_pos ⟨h1, h2⟩, if_pos h1, if_pos h2, cst_both h1 h2]
      rw [List.getD_eq_getElem?_getD, List.getElem?_eq_getElem h1, List.getD_eq_getElem?_getD, List.getElem?_eq_getElem h2, Option.getD_some, Option.getD_some]
      by_cases h3 : s[i] = t[k]
      · simp only [h3, if_true, bestL, bestF, List.cons_append, List.nil_append, List.foldl_cons, List.foldl_nil, Option.getD_some]
        split <;> split <;> omega
      · simp only [h3, if_false, bestL, bestF, List.cons_append, List.nil_append, List.foldl_cons, List.foldl_nil, Option.getD_some]
        split <;> split <;> omega
    · obtain rfl : k = t.length := by omega
      rw [if_neg (by omega), if_pos h1, if_neg h2, cst_left h1]
      simp [bestL, bestF]
      omega
  · obtain rfl : i = s.length := by omega
    by_cases h2 : k < t.length
    · rw [if_neg (by omega), if_neg h1, if_pos h2, cst_right h2]
      simp [bestL, bestF]
      omega
    · obtain rfl : k = t.length := by omega
      rw [if_neg (by omega), if_neg h1, if_neg h2, cst_end]
      rfl
end Go.Proofs.YtdfkaijeppdhaaaGreatDoor

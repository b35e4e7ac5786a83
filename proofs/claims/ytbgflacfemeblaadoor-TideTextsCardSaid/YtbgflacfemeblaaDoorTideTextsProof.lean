/- For every list of lists of numbers and every text the law TideTexts returns true: the text of a tide, and the tide of a text, are the reference's, and lead back to each other. Condition: the package-level variables of the library that are listed hold what the program's text lays (the card ties them). -/
import Derived.Test.YtbgflacfemeblaaDoorLawT
import Derived.Test.YtbgflacfemeblaaDoorRow
import Derived.Test.YtbgflacfemeblaaDoorCards
import Derived.Test.YtbgflacfemeblaaDoorTie
import Derived.SevenTiedAt
import Derived.LaidMore
import Derived.Lib.LaidTab
import Derived.Stop.LaidErr
import Derived.Stop.Joined
import Derived.ChangeMaps5
namespace Go.Proofs.YtbgflacfemeblaaDoor.tideTexts
open Go.ChangeShapes Go.WideShapes Go.ChangeAt Go.RowKit Go.Deep

theorem gTab : Tryd.prog.globalNamed "internal/strconv.uint64pow10" = some 5 := by kernel_rfl
theorem gTabType : (Tryd.prog.globals[5]?).map (·.type) = some 110 := by kernel_rfl
theorem cellsTab : Tryd.prog.cellsOf 110 = 20 := by kernel_rfl
theorem cellsU64 : Tryd.prog.cellsOf 83 = 1 := by kernel_rfl
theorem gSyn : Tryd.prog.globalNamed "strconv.ErrSyntax" = some 0 := by kernel_rfl
theorem gSynType : (Tryd.prog.globals[0]?).map (·.type) = some 40 := by kernel_rfl
theorem gRan : Tryd.prog.globalNamed "strconv.ErrRange" = some 1 := by kernel_rfl
theorem gRanType : (Tryd.prog.globals[1]?).map (·.type) = some 40 := by kernel_rfl
theorem cellsErr : Tryd.prog.cellsOf 108 = 1 := by kernel_rfl
theorem cellsStr : Tryd.prog.cellsOf 9 = 1 := by kernel_rfl
theorem star : "*" ++ "errors.errorString" = "*errors.errorString" := by decide
theorem rowErr (u : TypeId) (h : Tryd.prog.typeName? 3 u = some "*errors.errorString") : u = 106 :=
  typeName_ptr_named (nm := "errors.errorString") (by rw [star]; kernel_rfl) (by kernel_rfl) (by decide) u (by rw [star]; exact h)

/-- WHAT THE ROW's LIST GIVES. -/
theorem vars {W : World} (h : laidMetH Tryd.prog Rows.tideTextsRow.laid W) : Vars W := by
  have h0 : laidMet Tryd.prog Rows.tideTextsRow.laid W := h
  have h2 := h0.tail.tail
  have ht : Lib.TabIs Tryd.prog W "internal/strconv.uint64pow10" .u64 Lib.pow10Tab := Lib.tabIs_of_head gTab gTabType Tryd.underlying110 Tryd.underlying83 cellsU64 cellsTab h2
  obtain ⟨a1, s1, hv1, _⟩ := laid_sentinel h2.tail.tail gRan gRanType Tryd.underlying40 rowErr Tryd.underlying106 Tryd.underlying108 rfl rfl Tryd.underlying9 cellsErr cellsStr
  obtain ⟨a2, s2, hv2, _⟩ := laid_sentinel h2.tail.tail.tail gSyn gSynType Tryd.underlying40 rowErr Tryd.underlying106 Tryd.underlying108 rfl rfl Tryd.underlying9 cellsErr cellsStr
  have hc1 := World.var?_cell gRan hv1 0
  have hc2 := World.var?_cell gSyn hv2 0
  exact ⟨ht, ⟨_, by simpa using hc2, .inr ⟨_, _, rfl⟩⟩, ⟨_, by simpa using hc1, .inr ⟨_, _, rfl⟩⟩⟩

/-- A world for the witness: what the door's own run lays, and the pinned table. -/
noncomputable def laidWorld (os : Os) : World :=
  { World.doorLaid Tryd.prog 400 os with heap := (World.doorLaid Tryd.prog 400 os).heap.modify 2 fun
      | .cells _ t frozen => .cells (Pinned.utf8FirstZ.map fun (n : Nat) => Value.int .u8 n).toArray t frozen
      | o => o }
theorem laid_met (os : Os) (args : Array Value) : laidMetH Tryd.prog Rows.tideTextsRow.laid ((laidWorld os).forCall (fun _ _ => 0) ⟨#[], args, []⟩).memory :=
  laidMet_of_run' 8 (by kernel_rfl) (by kernel_rfl)

set_option maxRecDepth 100000 in
theorem lifted (os : Os) (started : os.Started) (H : Type) (enc : TypeId × Value → H) :
    ReturnsInHanded {} Tryd.checked os 3 .any (fun w args => (Rows.tideTextsSpec.pre enc Tryd.prog Tryd.f3 [] false w args ∧ laidMetH Tryd.prog Rows.tideTextsRow.laid w) ∧ sizedMet enc Tryd.prog Tryd.f3 (OpenSpec.ofChange Rows.tideTextsSpec) false w args)
      (Rows.tideTextsSpec.post enc Tryd.prog Tryd.f3 false true false false) := by
  refine returnsInHanded_of_change_and (C := Tryd.checked) (X := fun w _ => laidMetH Tryd.prog Rows.tideTextsRow.laid w) (fun _ _ _ hh h => h.of_heap hh) Tryd.own started (by kernel_rfl) Tryd.func3
    (ChangeSpec.witness_shaped (enc := enc) (C := Tryd.checked) (os := os) (X := fun w _ => laidMetH Tryd.prog Rows.tideTextsRow.laid w) false (laidWorld os) #[.slice none 0 0, .string ⟨#[]⟩] 8 rfl (World.shaped_of_RefB (by kernel_rfl) (by kernel_rfl)) (by kernel_rfl) (by kernel_rfl) (by kernel_rfl) (laid_met os _)) ?_
  intro W base args ds gs before hval0 hW _ _ hL _
  have hval : ∀ (j : Nat) t v, Tryd.f3.params[j]? = some t → args[j]? = some v → Value.okWide Tryd.prog W .any base t v := hval0
  have hW' := hW
  obtain ⟨p, q, hA0, hV, rfl, _, _⟩ := hW
  have hA : DataW.TrodAll enc Tryd.prog W 0 (fun _ => true) true Tryd.f3.params.toList args.toList ds p := hA0
  rw [Tryd.params3] at hA hval
  have hK := hA
  obtain ⟨v0, vs0, d0, ds0, p0, q0, hargs, rfl, rfl, h0, r0⟩ := trodAll_cons hA
  obtain ⟨v1, vs1, d1, ds1, p1, q1, rfl, rfl, rfl, h1, r1⟩ := trodAll_cons r0
  obtain ⟨rfl, rfl, rfl⟩ := trodAll_nil r1
  obtain rfl : args = #[v0, v1] := by cases args; simp_all
  obtain ⟨rfl, rfl⟩ := trodVars_none hV
  obtain ⟨x0, hx0⟩ := open_table (hval 0 22 v0 rfl rfl) h0
  obtain ⟨s1, rfl, rfl, rfl, hs1⟩ := Go.ChangeMaps.open_string Tryd.underlying9 (hval 1 9 v1 rfl rfl) h1
  clear hA0 hval0
  simp only [List.append_nil] at hW'
  obtain ⟨pp, hpp, hlt⟩ := keep_ex hK (fun x hx => hW'.lt x (by simpa using hx))
  clear hK
  refine (TideTexts_walk v0 x0 s1 W hx0 hs1 (vars hL)).mono fun e W' ⟨he, hb⟩ => ?_
  subst he
  refine ⟨_, rfl, _, _, _, [], pp, [], hW', trodAll_mk1 (shut_bool Tryd.underlying4 _), ?_, rfl, hb.frame _, fun h => by cases h⟩
  exact trodAll_keep Tryd.laidOut hb _ _ _ _ (by rw [Tryd.params3]; intro t ht; simp at ht; rcases ht with rfl | rfl <;> exact ⟨by kernel_rfl, of_decide_eq_true (by kernel_rfl)⟩) hpp hlt

theorem said : Rows.TideTextsSaid :=
  OpenClaim.holds_of_wide 3 Tryd.f3 rfl rfl rfl rfl rfl rfl rfl ⟨rfl, rfl, rfl, rfl, rfl⟩ rfl rfl rfl rfl rfl (by kernel_rfl) Tryd.func3 (by kernel_rfl)
    (of_decide_eq_true (by kernel_rfl)) (by unfold Func.isWrapper; first | (rw [if_pos (by decide +kernel)]; kernel_rfl) | (rw [if_neg (by decide +kernel)]; exact ⟨rfl, rfl⟩))
    (fun os started H enc _ => lifted os started H enc)

theorem plain (f : FuncId) (fn : Func) (hf : Tryd.pinned.checked.prog.funcNamed "skimmer/skimmerlaw01.TideTexts" = some f) (hfn : Tryd.pinned.checked.prog.funcs[f]? = some fn) :
    true = Tryd.pinned.checked.prog.looks [] ∧ ∀ (j : Nat) t, fn.params[j]? = some t → Tryd.pinned.checked.prog.wantsStandIn t = false := by
  obtain rfl : f = 3 := Option.some.inj ((show Tryd.prog.funcNamed "skimmer/skimmerlaw01.TideTexts" = some 3 by kernel_rfl).symm.trans hf) |>.symm
  obtain rfl : fn = Tryd.f3 := (Option.some.inj (Tryd.func3.symm.trans hfn)).symm
  refine ⟨by kernel_rfl, fun j t ht => ?_⟩
  rw [Tryd.params3] at ht
  have hm : t ∈ [22, 9] := by simpa using Array.mem_of_getElem? ht
  have hall : ([22, 9].all fun u => !Tryd.prog.wantsStandIn u) = true := by kernel_rfl
  exact (show Tryd.prog.wantsStandIn t = false by simpa using List.all_eq_true.1 hall t hm)

/-- THE CARD. -/
theorem proved : Rows.TideTextsCardSaid :=
  Claim7.holds_tied_plain_at .later [] _ _ _ _ said (fun _ h => by cases h) (by kernel_rfl) (fun _ h => by cases h) tideTexts_row_tie rfl ⟨rfl, rfl⟩ (by kernel_rfl) rfl plain (by kernel_rfl)
#print axioms proved
end Go.Proofs.YtbgflacfemeblaaDoor.tideTexts

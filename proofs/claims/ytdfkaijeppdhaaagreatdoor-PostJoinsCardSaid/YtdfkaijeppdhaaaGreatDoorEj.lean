/- What is asserted of a deed or a question; whose method is called. -/
import Derived.Test.YtdfkaijeppdhaaaGreatDoorEk
import Derived.Stop.Asserts
namespace Go.Proofs.YtdfkaijeppdhaaaGreatDoor
open Go.RowKit Go.Shelf

def Cmd.deedO : Option Cmd → Bool
  | some c => c.deed
  | none => false
def Cmd.askO : Option Cmd → Bool
  | some c => !c.deed
  | none => false
def ifV (b : Bool) (v : Value) : Value := if b then v else .nilIface
theorem assert_nil (w : World) : (Instr.typeAssert .nilIface 20 93 true).run Tryz.prog w = .ok (.tuple #[.nilIface, .bool false]) w := by kernel_rfl
theorem assert_put (p : Value) (w : World) : (Instr.typeAssert (.iface 136 p) 20 93 true).run Tryz.prog w = .ok (.tuple #[.iface 136 p, .bool true]) w := by kernel_rfl
theorem assert_drop (p : Value) (w : World) : (Instr.typeAssert (.iface 138 p) 20 93 true).run Tryz.prog w = .ok (.tuple #[.iface 138 p, .bool true]) w := by kernel_rfl
theorem assert_add (p : Value) (w : World) : (Instr.typeAssert (.iface 143 p) 20 93 true).run Tryz.prog w = .ok (.tuple #[.iface 143 p, .bool true]) w := by kernel_rfl
theorem assert_stock (p : Value) (w : World) : (Instr.typeAssert (.iface 139 p) 20 93 true).run Tryz.prog w = .ok (.tuple #[.nilIface, .bool false]) w := run_typeAssert_lacksB Tryz.underlying93 (by kernel_rfl) (by kernel_rfl) p _ w
theorem assert_share (p : Value) (w : World) : (Instr.typeAssert (.iface 146 p) 20 93 true).run Tryz.prog w = .ok (.tuple #[.nilIface, .bool false]) w := run_typeAssert_lacksB Tryz.underlying93 (by kernel_rfl) (by kernel_rfl) p _ w
theorem assert_asked (p : Value) (w : World) : (Instr.typeAssert (.iface 185 p) 20 93 true).run Tryz.prog w = .ok (.tuple #[.nilIface, .bool false]) w := run_typeAssert_lacksB Tryz.underlying93 (by kernel_rfl) (by kernel_rfl) p _ w
theorem ask_nil (w : World) : (Instr.typeAssert .nilIface 20 110 true).run Tryz.prog w = .ok (.tuple #[.nilIface, .bool false]) w := by kernel_rfl
theorem ask_put (p : Value) (w : World) : (Instr.typeAssert (.iface 136 p) 20 110 true).run Tryz.prog w = .ok (.tuple #[.nilIface, .bool false]) w := run_typeAssert_lacksB Tryz.underlying110 (by kernel_rfl) (by kernel_rfl) p _ w
theorem ask_drop (p : Value) (w : World) : (Instr.typeAssert (.iface 138 p) 20 110 true).run Tryz.prog w = .ok (.tuple #[.nilIface, .bool false]) w := run_typeAssert_lacksB Tryz.underlying110 (by kernel_rfl) (by kernel_rfl) p _ w
theorem ask_add (p : Value) (w : World) : (Instr.typeAssert (.iface 143 p) 20 110 true).run Tryz.prog w = .ok (.tuple #[.nilIface, .bool false]) w := run_typeAssert_lacksB Tryz.underlying110 (by kernel_rfl) (by kernel_rfl) p _ w
theorem ask_stock (p : Value) (w : World) : (Instr.typeAssert (.iface 139 p) 20 110 true).run Tryz.prog w = .ok (.tuple #[.iface 139 p, .bool true]) w := by kernel_rfl
theorem ask_share (p : Value) (w : World) : (Instr.typeAssert (.iface 146 p) 20 110 true).run Tryz.prog w = .ok (.tuple #[.iface 146 p, .bool true]) w := by kernel_rfl
theorem ask_asked (p : Value) (w : World) : (Instr.typeAssert (.iface 185 p) 20 110 true).run Tryz.prog w = .ok (.tuple #[.iface 185 p, .bool true]) w := by kernel_rfl
/-- A line's deed, asserted. -/
theorem assert_deed {w0 : World} {v : Value} {o : Option Cmd} (h : CmdO w0 v o) (w : World) : (Instr.typeAssert v 20 93 true).run Tryz.prog w = .ok (.tuple #[ifV (Cmd.deedO o) v, .bool (Cmd.deedO o)]) w := by
  cases o with
  | none => obtain rfl : v = .nilIface := h; exact assert_nil w
  | some c =>
    cases c with
    | put n t => obtain rfl : v = _ := h; exact assert_put _ w
    | drop n => obtain rfl : v = _ := h; exact assert_drop _ w
    | add n m => obtain rfl : v = _ := h; exact assert_add _ w
    | stock n => obtain rfl : v = _ := h; exact assert_stock _ w
    | share n l => obtain ⟨s, rfl, _⟩ := h; exact assert_share _ w
    | asked k l ns => obtain ⟨a, b, rfl, _⟩ := h; exact assert_asked _ w
/-- A line's question, asserted. -/
theorem assert_ask {w0 : World} {v : Value} {o : Option Cmd} (h : CmdO w0 v o) (w : World) : (Instr.typeAssert v 20 110 true).run Tryz.prog w = .ok (.tuple #[ifV (Cmd.askO o) v, .bool (Cmd.askO o)]) w := by
  cases o with
  | none => obtain rfl : v = .nilIface := h; exact ask_nil w
  | some c =>
    cases c with
    | put n t => obtain rfl : v = _ := h; exact ask_put _ w
    | drop n => obtain rfl : v = _ := h; exact ask_drop _ w
    | add n m => obtain rfl : v = _ := h; exact ask_add _ w
    | stock n => obtain rfl : v = _ := h; exact ask_stock _ w
    | share n l => obtain ⟨s, rfl, _⟩ := h; exact ask_share _ w
    | asked k l ns => obtain ⟨a, b, rfl, _⟩ := h; exact ask_asked _ w
/-! ### Whose method is called (462: the fuel as the walk shows it at this seat) -/
theorem method_put (p : Value) (w : World) : (method 462 136 p "skimmer/post.say").run Tryz.prog w = .ok (284, p) w := by kernel_rfl
theorem method_drop (p : Value) (w : World) : (method 462 138 p "skimmer/post.say").run Tryz.prog w = .ok (285, p) w := by kernel_rfl
theorem method_add (p : Value) (w : World) : (method 462 143 p "skimmer/post.say").run Tryz.prog w = .ok (287, p) w := by kernel_rfl
theorem method_stock (p : Value) (w : World) : (method 462 139 p "skimmer/post.ask").run Tryz.prog w = .ok (286, p) w := by kernel_rfl
theorem method_share (p : Value) (w : World) : (method 462 146 p "skimmer/post.ask").run Tryz.prog w = .ok (288, p) w := by kernel_rfl
theorem method_asked (p : Value) (w : World) : (method 462 185 p "skimmer/post.ask").run Tryz.prog w = .ok (338, p) w := by kernel_rfl
theorem ahead_put (p : Value) (w : World) : (nilAhead 462 136 p "skimmer/post.say").run Tryz.prog w = .ok (some false) w := by kernel_rfl
theorem ahead_drop (p : Value) (w : World) : (nilAhead 462 138 p "skimmer/post.say").run Tryz.prog w = .ok (some false) w := by kernel_rfl
theorem ahead_add (p : Value) (w : World) : (nilAhead 462 143 p "skimmer/post.say").run Tryz.prog w = .ok (some false) w := by kernel_rfl
theorem ahead_stock (p : Value) (w : World) : (nilAhead 462 139 p "skimmer/post.ask").run Tryz.prog w = .ok (some false) w := by kernel_rfl
theorem ahead_share (p : Value) (w : World) : (nilAhead 462 146 p "skimmer/post.ask").run Tryz.prog w = .ok (some false) w := by kernel_rfl
theorem ahead_asked (p : Value) (w : World) : (nilAhead 462 185 p "skimmer/post.ask").run Tryz.prog w = .ok (some false) w := by kernel_rfl
theorem Cmd.names_small {s : ByteArray} {c : Cmd} (h : parseB s = some c) : (∀ n t, c = .put n t → n.size ≤ 8) ∧ (∀ n, c = .drop n → n.size ≤ 8) ∧ (∀ n m, c = .add n m → n.size ≤ 8 ∧ -9999 ≤ m ∧ m ≤ 9999) ∧ (∀ n, c = .stock n → n.size ≤ 8) ∧ (∀ m l, c = .share m l → ∀ x ∈ l, x.size ≤ 8) ∧ (∀ k l ns, c = .asked k l ns → ∀ x ∈ l, x.size ≤ 8) := by
  have hn : ∀ x, isNameB x = true → x.size ≤ 8 := fun x hx => ((isNameB_iff x).1 hx).2.1
  unfold parseB at h
  split at h
  · rename_i w r0 rs _
    unfold lineB1 at h
    split at h
    · split at h
      · rename_i hc
        rw [Bool.and_eq_true, Bool.and_eq_true] at hc
        cases h
        exact ⟨fun n t e => by cases e; exact hn _ hc.1.1, by simp, by simp, by simp, by simp, by simp⟩
      · cases h
    · split at h
      · split at h
        · rename_i hc
          rw [Bool.and_eq_true] at hc
          cases h
          exact ⟨by simp, fun n e => by cases e; exact hn _ hc.2, by simp, by simp, by simp, by simp⟩
        · cases h
      · split at h
        · split at h
          · rename_i hc
            rw [Bool.and_eq_true] at hc
            cases h
            exact ⟨by simp, by simp, by simp, fun n e => by cases e; exact hn _ hc.2, by simp, by simp⟩
          · cases h
        · split at h
          · split at h
            · rename_i n2 hn2
              split at h
              · rename_i hc
                cases h
                obtain ⟨r, _, hr⟩ := allS_one hn2
                exact ⟨by simp, by simp, fun n m e => by cases e; exact ⟨hn _ hc, (numV_some hr).2⟩, by simp, by simp, by simp⟩
              · cases h
            · cases h
          · split at h
            · split at h
              · split at h
                · rename_i hc
                  rw [Bool.and_eq_true] at hc
                  cases h
                  exact ⟨by simp, by simp, by simp, by simp, fun m l e x hx => by cases e; exact hn _ (List.all_eq_true.1 hc.1 x hx), by simp⟩
                · cases h
              · cases h
            · unfold aboutB at h
              split at h
              · cases h
              · split at h
                · cases h
                · split at h
                  · rename_i hall _
                    cases h
                    exact ⟨by simp, by simp, by simp, by simp, by simp, fun k l ns e x hx => by cases e; exact hn _ (List.all_eq_true.1 hall x hx)⟩
                  · cases h
  · cases h
end Go.Proofs.YtdfkaijeppdhaaaGreatDoor

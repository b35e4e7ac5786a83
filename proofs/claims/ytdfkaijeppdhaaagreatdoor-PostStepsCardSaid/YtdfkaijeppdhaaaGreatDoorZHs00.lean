/- Short names for lemmas. -/
import Derived.Below
namespace Go.Proofs.YtdfkaijeppdhaaaGreatDoor
open Go Go.RowKit
abbrev aof := @Nat.le_refl
abbrev aoh := @List.getD_eq_getElem?_getD
abbrev aog := @Array.getElem?_eq_some_iff
abbrev aoi := @Below.refl
abbrev aoj := @List.getElem?_eq_getElem
abbrev aok := @Below.heap_setCell
abbrev aol := @List.length_append
abbrev aom := @List.length_cons
abbrev aon := @List.take_succ_eq_append_getElem
abbrev aoo := @Int.mul_le_mul_of_nonneg_right
abbrev aop := @Below.heap_alloc
abbrev aos := @World.size_setCell
abbrev aoq := @World.size_alloc
abbrev aot := @Nat.zero_le
abbrev aor := @Nat.le_trans
abbrev aou := @List.take_of_length_le
abbrev aow := @List.length_nil
abbrev aov := @List.mem_cons
abbrev aox := @Nat.lt_of_lt_of_le
abbrev aoy := @List.length_take
abbrev aoz := @List.length_eq_zero_iff
abbrev aoA := @List.cons_append
abbrev aoB := @List.length_map
abbrev aoC := @Int.mul_left_comm
abbrev aoD := @Array.getElem?_eq_getElem
abbrev aoE := @List.map_append
abbrev aoF := @List.setIfInBounds_toArray
abbrev aoG := @List.length_drop
abbrev aoH := @Int.eq_ofNat_of_zero_le
abbrev aoI := @List.mem_append
abbrev aoJ := @List.map_cons
abbrev aoK := @List.take_length
abbrev aoL := @List.drop_eq_getElem_cons
abbrev aoM := @List.nil_append
abbrev aoN := @List.set_cons_succ
abbrev aoO := @Nat.lt_succ_iff_lt_or_eq
abbrev aoP := @List.getElem_cons_zero
abbrev aoQ := @Nat.lt_succ_self
abbrev aoR := @Int.le_refl
abbrev aoT := @List.append_assoc
abbrev aoU := @List.set_cons_zero
abbrev aoV := @List.getD_cons_zero
abbrev aoW := @Option.getD_some
abbrev aoS := @Nat.le_succ
abbrev aoX := @List.getElem?_append_right
abbrev aoZ := @List.getElem_mem
abbrev ap0 := @Array.getElem_modify_self
abbrev ap1 := @List.mem_map
abbrev ap2 := @List.mem_of_mem_take
abbrev ap3 := @Array.replicate_succ
abbrev ap4 := @Array.replicate_zero
abbrev ap5 := @Nat.zero_add
abbrev ap6 := @List.all_eq_true
abbrev ap7 := @List.append_toArray
abbrev aoY := @Int.toNat_natCast
abbrev ap8 := @List.length_set
abbrev ap9 := @List.take_append_drop
abbrev apa := @List.getElem?_eq_none
abbrev apb := @Array.getElem?_setIfInBounds_ne
abbrev apc := @List.getElem_of_mem
abbrev apd := @List.getElem_cons_succ
abbrev ape := @List.size_toArray
abbrev apf := @List.push_toArray
abbrev apg := @List.pairwise_cons
abbrev aph := @Int.mul_le_mul_of_nonneg_left
abbrev api := @List.getElem?_eq_some_iff
abbrev apj := @List.append_nil
abbrev apk := @Int.mul_nonneg
abbrev apl := @List.foldl_append
abbrev apm := @Array.size_modify
abbrev apn := @List.getElem?_append_left
abbrev apo := @List.pairwise_iff_getElem
abbrev app := @Array.getElem?_setIfInBounds_self_of_lt
abbrev apq := @Int.mul_assoc
abbrev apr := @List.getElem?_map
abbrev apt := @Int.natCast_emod
abbrev apu := @List.length_singleton
abbrev aps := @Int.mul_comm
abbrev apv := @List.foldl_cons
abbrev apw := @List.prefix_iff_eq_take
abbrev apx := @List.map_map
abbrev apy := @List.drop_eq_nil_of_le
abbrev apz := @Array.getElem?_eq_none
abbrev apA := @List.getElem_append_left
abbrev apB := @List.getElem_toArray
abbrev apC := @Nat.mul_le_mul_right
abbrev apD := @List.map_eq_nil_iff
abbrev apE := @List.length_pos_iff
abbrev apF := @Int.toNat_of_nonneg
abbrev apG := @Nat.le_of_lt
abbrev apI := @Nat.eq_zero_or_pos
abbrev apK := @List.length_modify
abbrev apL := @List.pairwise_append
abbrev apM := @Nat.add_zero
abbrev apN := @List.map_congr_left
abbrev apO := @Array.length_toList
abbrev apP := @List.getElem_modify
abbrev apQ := @Int.min_eq_right
abbrev apR := @Int.mul_le_mul
abbrev apS := @Int.add_mul
abbrev apT := @Int.sub_mul
abbrev apU := @Option.isSome_none
abbrev apV := @Option.isSome_some
abbrev apJ := @List.mem_singleton
abbrev apW := @Int.emod_lt_of_pos
abbrev apX := @Int.mul_right_comm
abbrev apY := @List.singleton_append
abbrev apZ := @Int.emod_nonneg
abbrev aq0 := @Int.min_eq_left
abbrev aq1 := @List.map_take
abbrev aq2 := @Int.tmod_eq_emod_of_nonneg
abbrev aq3 := @List.any_eq_false
abbrev aq4 := @List.getElem?_set
abbrev aq5 := @List.mem_of_mem_drop
abbrev aq6 := @List.count_le_length
abbrev aq7 := @Nat.add_mul
abbrev aq8 := @Nat.sub_self
abbrev aq9 := @Nat.mul_comm
abbrev apH := @List.prefix_refl
abbrev aqa := @List.getD_cons_succ
end Go.Proofs.YtdfkaijeppdhaaaGreatDoor
namespace Go.Proofs
theorem om{p:Prop}(h:p:=by omega):p:=h
theorem ot{p:Prop}(h:p:=by kernel_rfl):p:=h
theorem oz{p:Prop}(h:p:=by simp):p:=h
theorem ox{p:Prop}(h:p:=by decide):p:=h
theorem oy{p:Prop}(h:p:=by rfl):p:=h
theorem km{p:Prop}(h:p:=by simp;omega):p:=h
theorem oq{α:Type}{a b:α}(h:a=b:=by kernel_rfl):some a=some b:=congrArg some h
end Go.Proofs
namespace Go.Proofs.YtdfkaijeppdhaaaGreatDoor
end Go.Proofs.YtdfkaijeppdhaaaGreatDoor

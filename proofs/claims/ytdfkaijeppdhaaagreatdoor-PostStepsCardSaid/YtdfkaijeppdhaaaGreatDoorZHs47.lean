/- Part of the proof. -/
import Derived.Test.YtdfkaijeppdhaaaGreatDoorCards
import Derived.Test.YtdfkaijeppdhaaaGreatDoorTie
import Derived.Test.YtdfkaijeppdhaaaGreatDoorZHs04
import Derived.ProofKit
import Derived.OpenShut
import Derived.LaidMore
import Derived.Stop.LaidErr
import Derived.HandedShaped
set_option maxRecDepth 100000
set_option maxHeartbeats 8000000

namespace Go.Proofs.YtdfkaijeppdhaaaGreatDoor
open Proofs.Tryz Go.ChangeShapes Go.WideShapes Go.ChangeAt Go.RowKit Go.Deep
theorem Tryz.own:ownKnob prog.godebug=none:=ot
theorem Tryz.laidOut:laidOutB prog=true:=ot
theorem trodAll_keep{H:Type}{enc:TypeId×Value->H}{P:Program}(hl:laidOutB P=true){W W':World}(hb:Below W.heap.size W W'):
  ∀(ts:List TypeId) (vs:List Value) (ds:List (DataW H)) (ps:List MemPlace),(∀t∈ts,P.readableRec t=true/\t<P.types.size)->
   DataW.TrodAll enc P W 0 (fun _=>true) true ts vs ds ps->(∀x∈ps,x.block<W.heap.size)->DataW.TrodAll enc P W' 0 (fun b=>decide (b<W.heap.size)) true ts vs ds ps
 |[],vs,ds,ps,_,h,_=>by
  obtain⟨rfl,rfl,rfl⟩:=trodAll_nil h;exact trodAll_mk0
 | t::ts,vs,ds,ps,hr,h,hlt=>by
  obtain⟨v,vs',d,ds',p,q,rfl,rfl,rfl,h0,hrest⟩:=trodAll_cons h
  exact trodAll_cons_mk (Below.trod hl (hr t oz).1 (hr t oz).2 h0 hb (fun x hx=>hlt x (by simp[hx])))
   (trodAll_keep hl hb ts vs' ds' q (fun t ht=>hr t (by simp[ht])) hrest (fun x hx=>hlt x (by simp[hx])))
theorem keep_ex{H:Type}{enc:TypeId×Value->H}{P:Program}{W:World}{ts:List TypeId}{vs:List Value}{ds:List (DataW H)}{ps:List MemPlace}
  (h:DataW.TrodAll enc P W 0 (fun _=>true) true ts vs ds ps)(hlt:∀x∈ps,x.block<W.heap.size):
  ∃pp,DataW.TrodAll enc P W 0 (fun _=>true) true ts vs ds pp/\∀x∈pp,x.block<W.heap.size:=⟨ps,h,hlt⟩
theorem gTab:prog.globalNamed "internal/strconv.uint64pow10" =some 1:=ot
theorem amd:(prog.globals[1]?).map (·.type)=some 243:=ot
theorem ame:prog.cellsOf 243=20:=ot
theorem amf:prog.cellsOf 211=1:=ot
theorem gSyn:prog.globalNamed "strconv.ErrSyntax" =some 2:=ot
theorem amg:(prog.globals[2]?).map (·.type)=some 153:=ot
theorem gRan:prog.globalNamed "strconv.ErrRange" =some 3:=ot
theorem amh:(prog.globals[3]?).map (·.type)=some 153:=ot
theorem aeR:prog.cellsOf 298=1:=ot
theorem aeS:prog.cellsOf 9=1:=ot
theorem star: "*" ++ "errors.errorString" = "*errors.errorString" :=by decide
theorem akw(u:TypeId)(h:prog.typeName? 3 u=some "*errors.errorString"):u=296:=
 typeName_ptr_named (nm:= "errors.errorString") (by rw[star];kernel_rfl) ot ox u (by rw[star];exact h)
theorem ami{W:World}(h:W.ShapedOpen prog):∃m,W.cell? ⟨0,0,none⟩=some (.int .i64 m):=
 cell_of_shapedOpen_int (zero:=#[.int .i64 0]) (t:=3) h (of_decide_eq_true ot) ot rfl ot ot underlying3
theorem vars_of{W:World}(h:laidMetH prog Rows.postNewsRow.laid W)(hs:W.ShapedOpen prog):Vars W:=by
 have h0:laidMet prog Rows.postNewsRow.laid W:=h;have h2:=h0.tail.tail;have ht:Lib.TabIs prog W "internal/strconv.uint64pow10" .u64 Lib.pow10Tab:=Lib.tabIs_of_head gTab amd underlying243 underlying211 amf ame h2
 obtain⟨a1,s1,hv1,_⟩:=laid_sentinel h2.tail.tail gRan amh underlying153 akw underlying296 underlying298 rfl rfl underlying9 aeR aeS;obtain⟨a2,s2,hv2,_⟩:=laid_sentinel h2.tail.tail.tail gSyn amg underlying153 akw underlying296 underlying298 rfl rfl underlying9 aeR aeS;have hc1:=World.var?_cell gRan hv1 0;have hc2:=World.var?_cell gSyn hv2 0;exact⟨ami hs,ht,⟨_,by simpa using hc2,.inr ⟨_,_,rfl⟩⟩,⟨_,by simpa using hc1,.inr ⟨_,_,rfl⟩⟩⟩
noncomputable def laidWorld(os:Os):World:=
 { World.doorLaid prog 400 os with heap:=(World.doorLaid prog 400 os).heap.modify 6 fun
   | .cells _ t frozen=>.cells (Pinned.utf8FirstZ.map fun(n:Nat)=>Value.int .u8 n).toArray t frozen
   |o=>o}
theorem laid_met(os:Os)(args:Array Value):laidMetH prog Rows.postNewsRow.laid ((laidWorld os).forCall (fun _ _=>0) ⟨#[],args,[]⟩).memory:=
 laidMet_of_run' 8 ot ot
theorem handed_shaped{H:Type}{enc:TypeId×Value->H}{a:Assume}{C:Checked}{os:Os}{f:FuncId}{fn:Func}{s:ChangeSpec}{conds:List PathCond}{apart fresh handsOn again:Bool}{X:World->Array Value->Prop}
  (hX:∀(w w':World) (args:Array Value),w.heap=w'.heap->X w args->X w' args)
  (own:ownKnob C.prog.godebug=none)(started:os.Started)(noInit:C.prog.inits.idxOf? f=none)(hfn:C.prog.funcs[f]? =some fn)
  (witness:∃(w:World) (tape:Tape) (i:Input),w.os=os/\(w.forCall tape i).Shaped C.prog/\i.vars=[]/\Input.okWide C.prog (w.forCall tape i) .any w.heap.size f i/\
   ((s.pre enc C.prog fn conds apart (w.forCall tape i).memory i.args/\X (w.forCall tape i).memory i.args)/\sizedMet enc C.prog fn (OpenSpec.ofChange s) apart (w.forCall tape i).memory i.args)/\a.holds C.prog (lone (Frame.enter C.prog f i.args .normal) [] (w.forCall tape i)))
  (contract:∀(W:World) (base:Nat) (args:Array Value) (ds gs:List (DataW H)) (before:List MemPlace),
   (∀(j:Nat) t v,fn.params[j]? =some t->args[j]? =some v->Value.okWide C.prog W .any base t v)->
   DataW.Whole enc C.prog fn.params.toList s.vars apart W args.toList ds gs before->X W args->W.ShapedOpen C.prog->
   Calls C.prog f args W fun e W'=>∃v,e= .returned v/\s.post enc C.prog fn apart fresh handsOn again W args v W'):
  ReturnsInHanded a C os f .any (fun w args=>(s.pre enc C.prog fn conds apart w args/\X w args)/\sizedMet enc C.prog fn (OpenSpec.ofChange s) apart w args) (s.post enc C.prog fn apart fresh handsOn again):=by
 refine returnsInHanded_of_calls own started noInit witness ?_;intro w tape i _ hsh _ hok hpre _;obtain⟨_,_,_,fn',hfn',_,_,_,_,hval⟩:=hok;obtain rfl:fn'=fn:=Option.some.inj (hfn'.symm.trans hfn);obtain⟨⟨⟨ds,gs,before,hw,_⟩,hx⟩,_⟩:=hpre;refine(contract (w.forCall tape i) w.heap.size i.args ds gs before hval (DataW.Whole.of_heap (w':=w.forCall tape i) oy hw) (hX _ _ _ oy hx) hsh).mono fun e W' ⟨v,he,hp⟩=>?_
 subst he;exact ChangeSpec.post_blind hp
end Go.Proofs.YtdfkaijeppdhaaaGreatDoor

/- Part of the proof. -/
import Derived.Test.YtdfkaijeppdhaaaGreatDoorZHs11
import Derived.DeepKeys4

set_option maxRecDepth 100000
set_option maxHeartbeats 8000000

namespace Go.Proofs.YtdfkaijeppdhaaaGreatDoor
open Proofs.Tryz Go.RowKit Go.Shelf
theorem abm{x:Int}(h:0<=x/\x<=1000000):(Lit.int .i64 x).wf=true:=by
 have h1:IntKind.i64.min= -9223372036854775808:=rfl;have h2:IntKind.i64.max=9223372036854775807:=rfl;simp[Lit.wf];omega
theorem abn{a b c d:Int}(ha:0<=a/\a<=1000000)(hb:0<=b/\b<=1000000)(hc:0<=c/\c<=1000000)(hd:0<=d/\d<=1000000):
  keyOf prog 34 (.agg #[.int .i64 a,.int .i64 b,.int .i64 c,.int .i64 d])=some (.string (keyBytes [.int .i64 a,.int .i64 b,.int .i64 c,.int .i64 d])):=by
 obtain⟨n,hn⟩:∃n,prog.types.size+1=n+2:=⟨prog.types.size-1,by
  have:decide (1<=prog.types.size)=true:=ot;have:=of_decide_eq_true this;omega⟩
 have hk:prog.keyType 34=true:=ot;have hc4:prog.cellsOf 34=4:=ot;have hc1:prog.cellsOf 3=1:=ot;have hu:prog.underlying 34=some (.array 4 3):=ot;have hi:prog.underlying 3=some (.int .i64):=ot;have wa:=abm ha;have wb:=abm hb;have wc:=abm hc;have wd:=abm hd;unfold keyOf;rw[hu];simp only[hk,Value.formed,hu,hc4,hn];have h4:List.range 4=[0,1,2,3]:=rfl;simp[Program.keyLits,hu,hi,hc4,hc1,wa,wb,wc,wd,h4,Value.cells]
theorem akm{a b c d:Int}(ha:0<=a/\a<=1000000)(hb:0<=b/\b<=1000000)(hc:0<=c/\c<=1000000)(hd:0<=d/\d<=1000000)(W:World):
  (binOp .eql 34 (.agg #[.int .i64 a,.int .i64 b,.int .i64 c,.int .i64 d]) (.agg #[.int .i64 a,.int .i64 b,.int .i64 c,.int .i64 d])).run prog W= .ok (.bool true) W:=by
 obtain⟨r,h1,h2⟩:=run_equal_deep (P:=prog) W (m:=3) om (k:=34) ot ot (abn ha hb hc hd) (abn ha hb hc hd);obtain rfl:r=true:=h2.2 rfl;show (do pure (Value.bool (<-Op.equal 34 _ _)):Sem Value).run prog W=_
 simp[h1]
theorem akn{b:a00}(hok:a02 b)(W:World):(binOp .eql 34 (aat b) (aat b)).run prog W= .ok (.bool true) W:=
 akm (by have:=(hok 0 om).len;omega) (by have:=(hok 1 om).len;omega) (by have:=(hok 2 om).len;omega) (by have:=(hok 3 om).len;omega) W
end Go.Proofs.YtdfkaijeppdhaaaGreatDoor

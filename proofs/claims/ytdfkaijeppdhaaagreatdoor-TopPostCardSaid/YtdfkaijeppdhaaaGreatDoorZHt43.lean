/- Part of the proof. -/
import Derived.Test.YtdfkaijeppdhaaaGreatDoorZHt11
import Derived.DeepKeys4

set_option maxRecDepth 100000
set_option maxHeartbeats 8000000
set_option linter.unusedSimpArgs false
set_option linter.unusedVariables false

namespace Go.Proofs.YtdfkaijeppdhaaaGreatDoor
open Go.RowKit Go.Shelf
theorem a9L{x:Int}(h:0<=x/\x<=1000000):(Lit.int .i64 x).wf=true:=by
 have h1:IntKind.i64.min= -9223372036854775808:=rfl;have h2:IntKind.i64.max=9223372036854775807:=rfl;simp[Lit.wf];omega
theorem a9M{a b c d:Int}(ha:0<=a/\a<=1000000)(hb:0<=b/\b<=1000000)(hc:0<=c/\c<=1000000)(hd:0<=d/\d<=1000000):
  keyOf Tryz.prog 34 (.agg #[.int .i64 a,.int .i64 b,.int .i64 c,.int .i64 d])=some (.string (keyBytes [.int .i64 a,.int .i64 b,.int .i64 c,.int .i64 d])):=by
 obtain⟨n,hn⟩:∃n,Tryz.prog.types.size+1=n+2:=⟨Tryz.prog.types.size-1,by
  have:decide (1<=Tryz.prog.types.size)=true:=by kernel_rfl
  have:=of_decide_eq_true this;omega⟩
 have hk:Tryz.prog.keyType 34=true:=by kernel_rfl
 have hc4:Tryz.prog.cellsOf 34=4:=by kernel_rfl
 have hc1:Tryz.prog.cellsOf 3=1:=by kernel_rfl
 have hu:Tryz.prog.underlying 34=some (.array 4 3):=by kernel_rfl
 have hi:Tryz.prog.underlying 3=some (.int .i64):=by kernel_rfl
 have wa:=a9L ha;have wb:=a9L hb;have wc:=a9L hc;have wd:=a9L hd;unfold keyOf;rw[hu];simp only[hk,Value.formed,hu,hc4,hn];have h4:List.range 4=[0,1,2,3]:=rfl;simp[Program.keyLits,hu,hi,hc4,hc1,wa,wb,wc,wd,h4,Value.cells]
theorem aiu{a b c d:Int}(ha:0<=a/\a<=1000000)(hb:0<=b/\b<=1000000)(hc:0<=c/\c<=1000000)(hd:0<=d/\d<=1000000)(W:World):
  (binOp .eql 34 (.agg #[.int .i64 a,.int .i64 b,.int .i64 c,.int .i64 d]) (.agg #[.int .i64 a,.int .i64 b,.int .i64 c,.int .i64 d])).run Tryz.prog W= .ok (.bool true) W:=by
 obtain⟨r,h1,h2⟩:=run_equal_deep (P:=Tryz.prog) W (m:=3) (by omega) (k:=34) (by kernel_rfl) (by kernel_rfl) (a9M ha hb hc hd) (a9M ha hb hc hd);obtain rfl:r=true:=h2.2 rfl;show (do pure (Value.bool (<-Op.equal 34 _ _)):Sem Value).run Tryz.prog W=_
 simp[h1]
theorem aiv{b:anl}(hok:a02 b)(W:World):(binOp .eql 34 (a8T b) (a8T b)).run Tryz.prog W= .ok (.bool true) W:=
 aiu (by have:=(hok 0 (by omega)).len;omega) (by have:=(hok 1 (by omega)).len;omega) (by have:=(hok 2 (by omega)).len;omega) (by have:=(hok 3 (by omega)).len;omega) W
end Go.Proofs.YtdfkaijeppdhaaaGreatDoor

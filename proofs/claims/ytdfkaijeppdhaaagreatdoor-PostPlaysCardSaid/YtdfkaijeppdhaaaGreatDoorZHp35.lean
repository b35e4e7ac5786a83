/- Texts of this claim, laid together: Pw, Ds. -/
import Derived.Test.YtdfkaijeppdhaaaGreatDoorZHp34
import Derived.Test.YtdfkaijeppdhaaaGreatDoorZHp05
import Derived.Test.YtdfkaijeppdhaaaGreatDoorZHp01

set_option maxRecDepth 100000
set_option maxHeartbeats 8000000
set_option linter.unusedSimpArgs false
set_option linter.unusedVariables false

namespace Go.Proofs.YtdfkaijeppdhaaaGreatDoor
open Go.RowKit Go.Shelf
open Lib (hid)
theorem acJ(w:World):
  Calls Tryz.prog 235 #[.agg #[.int .i64 1,.int .i64 1]] w fun e w'=>e= .returned (.bool true)/\Below w.heap.size w w':=by
 have HB:Hid (∀W,Calls Tryz.prog 252 #[.int .i64 1,.int .i64 1,.int .i64 9] W fun e w'=>e= .returned (.bool true)/\w'=W):=hid (fun W=>by
  go_enter Tryz.func252,Tryz.ntmps252;go_wp2;go_ret;exact⟨rfl,rfl⟩)
 go_enter Tryz.func235,Tryz.ntmps235;go_wp2_with (first|(go_at_call 252;refine(HB.out _).mono ?_;rintro e w1 ⟨rfl,rfl⟩)|fail)
 go_ret;exact⟨rfl,(Below.refl _ _).alloc (Nat.le_refl _) _⟩
def aeB(s t:ByteArray):Value:=.agg #[.string s,.string t,.int .i64 1,.int .i64 1]
def aeC:Value:=.agg #[.string ⟨#[]⟩,.string ⟨#[]⟩,.int .i64 0,.int .i64 0]
def a3e(s t:ByteArray):Bool:=a1m s&&a1m t
theorem acK(s t:ByteArray)(hs:s.size<=1000000)(ht:t.size<=1000000)(w:World):
  Calls Tryz.prog 198 #[.string s,.string t,.agg #[.int .i64 1,.int .i64 1]] w fun e w'=>e= .returned (.tuple #[if a3e s t then aeB s t else aeC,.int .i64 (if a3e s t then 0 else 90)])/\Below w.heap.size w w':=by
 have HS:=hid (fun W=>a4N s W hs);have HT:=hid (fun W=>a4N t W ht);have HC:=hid acJ;have HV:=hid (fun W (x:ByteArray) (hx:x.size<=1000000)=>a4N x W hx);clear HS HT;unfold a3e aeB aeC;obtain⟨w1,hw1⟩:∃w1,w1=(w.alloc (.cells #[.int .i64 1,.int .i64 1] 176)).alloc (.cells #[.string ⟨#[]⟩,.string ⟨#[]⟩,.int .i64 0,.int .i64 0] 253):=⟨_,rfl⟩
 have hb1:Below w.heap.size w w1:=by rw[hw1];exact((Below.refl _ w).alloc (Nat.le_refl _) _).alloc (by simp) _
 have HW1:=hid hw1;have HB1:=hid hb1;have HZ1:Hid (w1.heap.size=w.heap.size+2):=hid (by rw[hw1];simp)
 have HE1:Hid (w1.heap[w.heap.size]? =some (.cells #[.int .i64 1,.int .i64 1] 176 (0,0))):=hid (by
  rw[hw1];exact(Below.heap_alloc _ _ _ (by simp)).trans (World.alloc_heap_new w _))
 have HE2:Hid (w1.heap[w.heap.size+1]? =some (.cells #[.string ⟨#[]⟩,.string ⟨#[]⟩,.int .i64 0,.int .i64 0] 253 (0,0))):=hid (by
  have:=World.alloc_heap_new (w.alloc (.cells #[.int .i64 1,.int .i64 1] 176)) (.cells #[.string ⟨#[]⟩,.string ⟨#[]⟩,.int .i64 0,.int .i64 0] 253);rw[World.size_alloc]at this;rw[hw1];exact this)
 clear hw1 hb1;cases h1:a1m s with
 |false=>
  have H1:=hid h1;clear h1;simp only[Bool.false_and,Bool.false_eq_true,if_false];go_enter Tryz.func198,Tryz.ntmps198;go_upto_region 1 with fail
  rw[<-HW1.out];go_upto_region 2 with(first|(go_at_call 234;refine(HV.out _ _ hs).mono ?_;rintro e W2 ⟨rfl,hb2⟩;rw[H1.out])|fail)
  have HB2:=hid hb2;clear hb2;have hsz:w.heap.size+2<=W2.heap.size:=by have:=HB2.out.size;have:=HZ1.out;omega
  have hh:=(HB2.out.block _ (by have:=HZ1.out;omega)).trans HE2.out
  have c0:W2.cell? ⟨w.heap.size+1,0,none⟩=some (.string ⟨#[]⟩):=heap_cell (j:=0) hh rfl;have c1:W2.cell? ⟨w.heap.size+1,1,none⟩=some (.string ⟨#[]⟩):=heap_cell (j:=1) hh rfl;have c2:W2.cell? ⟨w.heap.size+1,2,none⟩=some (.int .i64 0):=heap_cell (j:=2) hh rfl;have c3:W2.cell? ⟨w.heap.size+1,3,none⟩=some (.int .i64 0):=heap_cell (j:=3) hh rfl;have f0:W2.frozen? ⟨w.heap.size+1,0,none⟩=false:=by simp[World.frozen?,hh]
  have f1:W2.frozen? ⟨w.heap.size+1,1,none⟩=false:=by simp[World.frozen?,hh]
  have f2:W2.frozen? ⟨w.heap.size+1,2,none⟩=false:=by simp[World.frozen?,hh]
  have f3:W2.frozen? ⟨w.heap.size+1,3,none⟩=false:=by simp[World.frozen?,hh]
  have HBW:=hid (HB1.out.trans (HB2.out.mono HB1.out.size));have hk:=(HB2.out.block _ (by have:=HZ1.out;omega)).trans HE1.out
  have d0:=heap_cell (j:=0) hk rfl;have d1:=heap_cell (j:=1) hk rfl;go_wp2;refine bodyPost_ret (v:=.tuple #[.agg #[.string ⟨#[]⟩,.string ⟨#[]⟩,.int .i64 0,.int .i64 0],.int .i64 90]) (by simp[results,Tryz.results198,go_sem,c0,c1,c2,c3]) rfl ⟨rfl,?_⟩;exact(((HBW.out.setCell (p:=⟨w.heap.size+1,0,none⟩) (Nat.le_succ _) _).setCell (p:=⟨w.heap.size+1,1,none⟩) (Nat.le_succ _) _).setCell (p:=⟨w.heap.size+1,2,none⟩) (Nat.le_succ _) _).setCell (p:=⟨w.heap.size+1,3,none⟩) (Nat.le_succ _) _
 | true=>
  have H1:=hid h1;clear h1;cases h2:a1m t with
  |false=>
   have H2:=hid h2;clear h2;simp only[Bool.and_false,Bool.false_eq_true,if_false];go_enter Tryz.func198,Tryz.ntmps198;go_upto_region 1 with fail
   rw[<-HW1.out];go_upto_region 2 with(first|(go_at_call 234;refine(HV.out _ _ (by assumption)).mono ?_;rintro e W2 ⟨rfl,hb2⟩;first|(rw[H1.out];have HBA:=hid hb2;clear hb2)|(rw[H2.out];have HB2:=hid (below_trans HBA.out hb2);clear hb2))|fail)
   have hsz:w.heap.size+2<=W2.heap.size:=by have:=HB2.out.size;have:=HZ1.out;omega
   have hh:=(HB2.out.block _ (by have:=HZ1.out;omega)).trans HE2.out
   have c0:W2.cell? ⟨w.heap.size+1,0,none⟩=some (.string ⟨#[]⟩):=heap_cell (j:=0) hh rfl;have c1:W2.cell? ⟨w.heap.size+1,1,none⟩=some (.string ⟨#[]⟩):=heap_cell (j:=1) hh rfl;have c2:W2.cell? ⟨w.heap.size+1,2,none⟩=some (.int .i64 0):=heap_cell (j:=2) hh rfl;have c3:W2.cell? ⟨w.heap.size+1,3,none⟩=some (.int .i64 0):=heap_cell (j:=3) hh rfl;have f0:W2.frozen? ⟨w.heap.size+1,0,none⟩=false:=by simp[World.frozen?,hh]
   have f1:W2.frozen? ⟨w.heap.size+1,1,none⟩=false:=by simp[World.frozen?,hh]
   have f2:W2.frozen? ⟨w.heap.size+1,2,none⟩=false:=by simp[World.frozen?,hh]
   have f3:W2.frozen? ⟨w.heap.size+1,3,none⟩=false:=by simp[World.frozen?,hh]
   have HBW:=hid (HB1.out.trans (HB2.out.mono HB1.out.size));have hk:=(HB2.out.block _ (by have:=HZ1.out;omega)).trans HE1.out
   have d0:=heap_cell (j:=0) hk rfl;have d1:=heap_cell (j:=1) hk rfl;go_wp2;refine bodyPost_ret (v:=.tuple #[.agg #[.string ⟨#[]⟩,.string ⟨#[]⟩,.int .i64 0,.int .i64 0],.int .i64 90]) (by simp[results,Tryz.results198,go_sem,c0,c1,c2,c3]) rfl ⟨rfl,?_⟩;exact(((HBW.out.setCell (p:=⟨w.heap.size+1,0,none⟩) (Nat.le_succ _) _).setCell (p:=⟨w.heap.size+1,1,none⟩) (Nat.le_succ _) _).setCell (p:=⟨w.heap.size+1,2,none⟩) (Nat.le_succ _) _).setCell (p:=⟨w.heap.size+1,3,none⟩) (Nat.le_succ _) _
  |true=>
   have H2:=hid h2;clear h2;simp only[Bool.and_self,if_true];go_enter Tryz.func198,Tryz.ntmps198;go_upto_region 1 with fail
   rw[<-HW1.out];go_upto_region 3 with(first|(go_at_call 234;refine(HV.out _ _ (by assumption)).mono ?_;rintro e W3 ⟨rfl,hb2⟩;first|(rw[H1.out];have HBA:=hid hb2;clear hb2)|(rw[H2.out];have HBC:=hid (below_trans HBA.out hb2);clear hb2))|fail)
   have hk3:=(HBC.out.block _ (by have:=HZ1.out;omega)).trans HE1.out
   have e0:=heap_cell (j:=0) hk3 rfl;have e1:=heap_cell (j:=1) hk3 rfl;go_upto_region 5 with(first|(go_at_call 235;refine(HC.out _).mono ?_;rintro e W2 ⟨rfl,hb4⟩;have HB2:=hid (below_trans HBC.out hb4);clear hb4)|fail)
   have hsz:w.heap.size+2<=W2.heap.size:=by have:=HB2.out.size;have:=HZ1.out;omega
   have hh:=(HB2.out.block _ (by have:=HZ1.out;omega)).trans HE2.out
   have c0:W2.cell? ⟨w.heap.size+1,0,none⟩=some (.string ⟨#[]⟩):=heap_cell (j:=0) hh rfl;have c1:W2.cell? ⟨w.heap.size+1,1,none⟩=some (.string ⟨#[]⟩):=heap_cell (j:=1) hh rfl;have c2:W2.cell? ⟨w.heap.size+1,2,none⟩=some (.int .i64 0):=heap_cell (j:=2) hh rfl;have c3:W2.cell? ⟨w.heap.size+1,3,none⟩=some (.int .i64 0):=heap_cell (j:=3) hh rfl;have f0:W2.frozen? ⟨w.heap.size+1,0,none⟩=false:=by simp[World.frozen?,hh]
   have f1:W2.frozen? ⟨w.heap.size+1,1,none⟩=false:=by simp[World.frozen?,hh]
   have f2:W2.frozen? ⟨w.heap.size+1,2,none⟩=false:=by simp[World.frozen?,hh]
   have f3:W2.frozen? ⟨w.heap.size+1,3,none⟩=false:=by simp[World.frozen?,hh]
   have HBW:=hid (HB1.out.trans (HB2.out.mono HB1.out.size));have hk:=(HB2.out.block _ (by have:=HZ1.out;omega)).trans HE1.out
   have d0:=heap_cell (j:=0) hk rfl;have d1:=heap_cell (j:=1) hk rfl;go_wp2;refine bodyPost_ret (v:=.tuple #[.agg #[.string s,.string t,.int .i64 1,.int .i64 1],.int .i64 0]) (by simp[results,Tryz.results198,go_sem,c0,c1,c2,c3]) rfl ⟨rfl,?_⟩;exact(((HBW.out.setCell (p:=⟨w.heap.size+1,0,none⟩) (Nat.le_succ _) _).setCell (p:=⟨w.heap.size+1,1,none⟩) (Nat.le_succ _) _).setCell (p:=⟨w.heap.size+1,2,none⟩) (Nat.le_succ _) _).setCell (p:=⟨w.heap.size+1,3,none⟩) (Nat.le_succ _) _
open Go
theorem aeD{s:ByteArray}{c:Cmd}(h:a02 s=some c)(hd:c.deed=true):4<=s.size/\
  ((∃r0 t,c= .put r0 t/\a01 r0=true/\s.data.toList=[112,117,116,32]++(r0.data.toList++32::t.data.toList))\/s.data.toList.take 4≠[112,117,116,32]):=by
 unfold a02 at h;split at h
 ·rename_i w r0 rs hs
  have he:=a2D hs (by simp);have hsz:s.size=w.data.toList.length+1+(a0i (r0::rs)).data.toList.length:=by rw[a03,he];simp;omega
  unfold a0B at h;split at h
  ·rename_i hw
   subst hw;have h3:putW.data.toList.length=3:=rfl;split at h
   ·rename_i hc
    rw[Bool.and_eq_true,Bool.and_eq_true]at hc;obtain⟨⟨h1,h2⟩,_⟩:=hc;cases h
    refine⟨by omega,.inl ⟨r0,a0i rs,rfl,h1,?_⟩⟩;cases rs with
    |nil=>simp[a0i,Lib.join,bsB]at h2
    |cons r1 rs=>
     rw[he,a5c];rfl
   cases h
  split at h
  ·rename_i hw
   subst hw;have h3:dropW.data.toList.length=4:=rfl;refine⟨by omega,.inr ?_⟩;rw[he,List.take_append_of_le_length (by omega)];decide
  split at h
  ·split at h
   ·cases h;cases hd
   cases h
  split at h
  ·rename_i hw
   subst hw;have h3:addW.data.toList.length=3:=rfl;refine⟨by omega,.inr ?_⟩;rw[he];show ([97,100,100]++32::_:List UInt8).take 4≠_
   simp
  split at h
  ·split at h
   ·split at h
    ·cases h;cases hd
    cases h
   cases h
  unfold a1x at h;split at h
  ·cases h
  split at h
  ·cases h
  split at h
  ·cases h;cases hd
  cases h
 cases h
theorem Cmd.put_size{s x u:ByteArray}(h:a02 s=some (.put x u)):u.size<=s.size:=by
 obtain⟨_,⟨r0,t,hc,_,he⟩|hne⟩:=aeD h rfl
 ·cases hc
  rw[a03,a03 s,he];simp;omega
 unfold a02 at h;split at h
 ·rename_i w r0 rs hs
  have he:=a2D hs (by simp);unfold a0B at h;split at h
  ·rename_i hw
   subst hw;exact absurd (by rw[he];rfl) hne
  split at h
  ·split at h<;>cases h
  split at h
  ·split at h<;>cases h
  split at h
  ·split at h
   ·split at h<;>cases h
   cases h
  split at h
  ·split at h
   ·split at h<;>cases h
   cases h
  unfold a1x at h;split at h
  ·cases h
  split at h
  ·cases h
  split at h<;>cases h
 cases h
end Go.Proofs.YtdfkaijeppdhaaaGreatDoor

/- Part of the proof. -/
import Derived.Test.YtdfkaijeppdhaaaGreatDoorZHs01
import Derived.Test.YtdfkaijeppdhaaaGreatDoorProg
import Derived.RangeFuncWrites
import Derived.BigQuiet
set_option maxRecDepth 100000
set_option maxHeartbeats 8000000

namespace Go.Proofs.YtdfkaijeppdhaaaGreatDoor
open Lib (hid)
open Proofs.Tryz Go.RowKit
theorem between_any(a b c:Int)(w:World):
  Calls prog 64 #[.int .i64 a,.int .i64 b,.int .i64 c] w fun e w'=>e= .returned (.bool (betw a b c))/\w=w':=by
 unfold betw;by_cases h1:a<=b
 ·by_cases h2:b<=c
  ·go_enter func64,ntmps64;go_wp2;go_ret;exact⟨by simp[h1,h2],rfl⟩
  go_enter func64,ntmps64;go_wp2;go_ret;exact⟨by simp[h2],rfl⟩
 go_enter func64,ntmps64;go_wp2;go_ret;exact⟨by rw[decide_eq_false (show¬a<=b by omega)];rfl,rfl⟩
theorem a0T(P K:Nat)(n:Int)(T:TypeId)(w:World)(h:w.heap[P]? =some (.cells #[.pointer (some ⟨K,0,none⟩),.int .i64 n] T (0,0))):
  Calls prog 51 #[.pointer (some ⟨P,0,none⟩)] w fun e w'=>e= .returned (.bool false)/\w=w':=by
 have c0:w.cell? ⟨P,0,none⟩=some (.pointer (some ⟨K,0,none⟩)):=heap_cell h rfl;clear h;go_enter func51,ntmps51;go_wp2;go_ret;exact⟨rfl,rfl⟩
theorem a2W(w:World):ListAt w (.slice none 0 0) []:=⟨rfl,.inl ⟨rfl,rfl⟩⟩
theorem adl(n:Nat)(w:World):PostAt ((w.alloc (.cells #[.slice none 0 0,.slice none 0 0,.slice none 0 0,.slice none 0 0] 96)).alloc (.cells #[.pointer (some ⟨w.heap.size,0,none⟩),.int .i64 n] 81))
  (w.heap.size+1) [w.heap.size+1,w.heap.size] n a1G:=by
 have h1:=World.alloc_heap_new w (.cells #[.slice none 0 0,.slice none 0 0,.slice none 0 0,.slice none 0 0] 96);have h2:=World.alloc_heap_new (w.alloc (.cells #[.slice none 0 0,.slice none 0 0,.slice none 0 0,.slice none 0 0] 96)) (.cells #[.pointer (some ⟨w.heap.size,0,none⟩),.int .i64 n] 81);rw[aoq]at h2;exact⟨w.heap.size,[],h2,⟨_,_,_,_,(aop _ _ _ oz).trans h1,a2W _,a2W _,a2W _,a2W _,rfl,List.nodup_nil⟩,rfl⟩
theorem afL(n:Nat)(hn:n<4)(w:World):Calls prog 34 #[.int .i64 n] w fun e w'=>e= .returned (.tuple #[.pointer (some ⟨w.heap.size+1,0,none⟩),.int .i64 0])/\
  w'=(w.alloc (.cells #[.slice none 0 0,.slice none 0 0,.slice none 0 0,.slice none 0 0] 96)).alloc (.cells #[.pointer (some ⟨w.heap.size,0,none⟩),.int .i64 n] 81):=by
 have hb:=(betw_iff 0 n 3).2 ⟨om,om⟩
 have HB:=hid hb;clear hb;go_enter func34,ntmps34;go_wp2_with fail
 refine(between_any _ _ _ _).mono ?_
 rintro e w' ⟨rfl,rfl⟩;rw[HB.out];go_wp2;go_ret2;exact⟨rfl,rfl⟩
def a2x(b:a00):Nat->Int
 |0=>0
 |k+1=>max (a2x b k) (a0o (b k))
theorem afM(b:a00):a1f b=a2x b 4:=rfl
theorem a7Q(b:a00):∀k,0<=a2x b k
 |0=>aoR _
 |k+1=>by have:=a7Q b k;unfold a2x;omega
theorem ac0:a0o []=0:=rfl
theorem aik{l:List Ent}(h:0<l.length):a0o l=a0a (l.getD (l.length-1) (0,0,0,⟨#[]⟩)):=by
 unfold a0o;rw[List.getLast?_eq_getElem?,aoh,aoj om];rfl
theorem BookAt.cell{w:World}{K:Nat}{F:List Nat}{b:a00}(h:BookAt w K F b){i:Nat}(hi:i<4):∃v,w.cell? ⟨K,i,none⟩=some v/\ListAt w v (b i):=by
 obtain⟨v0,v1,v2,v3,hK,h0,h1,h2,h3,_⟩:=h;rcases (show i=0\/i=1\/i=2\/i=3 by omega)with rfl|rfl|rfl|rfl
 ·exact⟨v0,heap_cell hK rfl,h0⟩
 ·exact⟨v1,heap_cell hK rfl,h1⟩
 ·exact⟨v2,heap_cell hK rfl,h2⟩
 exact⟨v3,heap_cell hK rfl,h3⟩
theorem EntsAt.cells{w:World}{v:Value}{l:List Ent}(h:EntsAt w v l)(h0:0<l.length):∃bk off cap,v= .slice (some ⟨bk,off,none⟩) l.length cap/\
  ∀j,j<l.length->w.cell? ⟨bk,off+j * 4,none⟩=some (.int .i64 (a07 (l.getD j (0,0,0,⟨#[]⟩))))/\w.cell? ⟨bk,off+j * 4+1,none⟩=some (.int .i64 (a0r (l.getD j (0,0,0,⟨#[]⟩))))/\
   w.cell? ⟨bk,off+j * 4+2,none⟩=some (.int .i64 (a0a (l.getD j (0,0,0,⟨#[]⟩))))/\w.cell? ⟨bk,off+j * 4+3,none⟩=some (.string (a0b (l.getD j (0,0,0,⟨#[]⟩)))):=by
 obtain⟨a,cap,rfl,hl,hq⟩:=h;obtain⟨bk,off,rfl,hc⟩:=hq h0;refine⟨bk,off,cap,rfl,fun j hj=>?_⟩;have he:l.getD j (0,0,0,⟨#[]⟩)=l[j]:=by rw[aoh,aoj hj];rfl
 rw[he];exact⟨hc j 0 _ om (a3b l j 0 hj om),hc j 1 _ om (a3b l j 1 hj om),hc j 2 _ om (a3b l j 2 hj om),hc j 3 _ om (a3b l j 3 hj om)⟩
theorem a4V(K:Nat)(F:List Nat)(b:a00)(w:World)(h:BookAt w K F b)(hl:∀i,i<4->(b i).length<=60):
  Calls prog 53 #[.pointer (some ⟨K,0,none⟩)] w fun e w'=>e= .returned (.int .i64 (a1f b))/\w=w':=by
 have H:=hid h;clear h;go_enter func53,ntmps53;go_wp2;go_loop [3,8] (fun n i=>∃k:Nat,k<=4/\i= .int .i64 k/\n= .int .i64 (a2x b k)) (fun _ i=>4-(intOf i).toNat)
 case atStart=>exact⟨0,om,rfl,rfl⟩
 case round=>
  obtain⟨k,hk,rfl,rfl⟩:=hrel;by_cases hlt:k<4
  ·obtain⟨v,hv,hlist⟩:=H.out.cell hlt;have hlen:=hl k hlt;have HS:=hid (show a2x b (k+1)=max (a2x b k) (a0o (b k))from rfl);have hlt2:(k:Int)<4:=om;by_cases h0:0<(b k).length
   ·obtain⟨bk,off,cap,rfl,hc⟩:=(hlist.ents om).cells h0
    have hcc:=(hc ((b k).length-1) om).2.2.1
    have HL:=hid (aik h0);generalize (b k).getD ((b k).length-1) (0,0,0,⟨#[]⟩)=ex at *
    clear hlist hc;have HM:=hid (show (if a2x b k<a0a ex then a0a ex else a2x b k)=a2x b (k+1) by rw[HS.out,HL.out];omega);go_wp2;go_round
    case rel=>exact⟨k+1,om,by go_num,by rw[HM.out]⟩
    case measure=>simp[intOf];omega
   have hz:b k=[]:=aoz.1 om;have HM:=hid (show a2x b k=a2x b (k+1) by rw[HS.out,hz,ac0];have:=a7Q b k;omega);rw[hz]at hlist;obtain⟨a0,c0,rfl,_⟩:=hlist.ents oz;clear hlist h0 hz hlen;go_wp2;go_round
   case rel=>exact⟨k+1,om,by go_num,by rw[<-HM.out]⟩
   case measure=>simp[intOf];omega
  have e:k=4:=om;subst e;go_wp2;go_ret;exact⟨by rw[afM];rfl,rfl⟩
end Go.Proofs.YtdfkaijeppdhaaaGreatDoor

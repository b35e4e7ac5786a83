/- Part of the proof. -/
import Derived.Test.YtdfkaijeppdhaaaGreatDoorZHs03
import Derived.Deep.RegionHeld3

set_option maxRecDepth 100000
set_option maxHeartbeats 8000000

namespace Go.Proofs.YtdfkaijeppdhaaaGreatDoor
open Lib (hid)
open Proofs.Tryz Go.RowKit Go.Shelf
theorem a7F(x y:Int):Lib.compareInt x y=if x<y then-1 else if y<x then 1 else 0:=by
 unfold Lib.compareInt;simp
def orV(x y:Int):Int:=if x=0 then y else x
def OrI(x y:Int)(i:Value):Prop:=i= .int .i64 0\/(i= .int .i64 1/\x=0)\/(i= .int .i64 2/\x=0/\y=0)
theorem anw(b:Nat)(x y:Int)(w:World)(h0:w.cell? ⟨b,0,none⟩=some (.int .i64 x))(h1:w.cell? ⟨b,1,none⟩=some (.int .i64 y)):
  Calls prog 123 #[.slice (some ⟨b,0,none⟩) 2 2] w fun e w'=>e= .returned (.int .i64 (orV x y))/\w=w':=by
 go_enter func123,ntmps123;go_wp2;go_loop [8] (fun i=>OrI x y i) (fun i=>2-(intOf i).toNat)
 case atStart=>exact .inl rfl
 case round=>
  rcases hrel with rfl|⟨rfl,rfl⟩|⟨rfl,rfl,rfl⟩
  ·by_cases hx:x=0
   ·subst hx;have hb:((0:Int) != 0)=false:=by decide
    go_wp2;go_round
    case rel=>exact .inr (.inl ⟨rfl,rfl⟩)
    case measure=>simp[intOf]
   have hb:(x != 0)=true:=by simpa using hx
   have HX:=hid hx;clear hx;go_wp2;go_ret;exact⟨by unfold orV;rw[if_neg HX.out];rfl,rfl⟩
  ·by_cases hy:y=0
   ·subst hy;go_wp2;go_round
    case rel=>exact .inr (.inr ⟨rfl,rfl,rfl⟩)
    case measure=>simp[intOf]
   have hb:(y != 0)=true:=by simpa using hy
   clear hy;go_wp2;go_ret;exact⟨by unfold orV;simp,rfl⟩
  go_wp2;go_ret;exact⟨by unfold orV;simp,rfl⟩
def KB(w W:World):Prop:=Below w.heap.size w W
theorem KB.refl(w:World):KB w w:=aoi _ _
theorem KB.alloc{w W:World}(h:KB w W)(o:Obj):KB w (W.alloc o):=Below.alloc h h.size o
theorem KB.call{w W W':World}(h:KB w W)(k:Below W.heap.size W W'):KB w W':=h.trans (k.mono h.size)
theorem KB.drew{w W:World}(h:KB w W):KB w W.drew:=Below.drew h
theorem ac5(w:World)(x y:Value)(t:TypeId):((w.alloc (.cells #[x,y] t)).drew).cell? ⟨w.heap.size,0,none⟩=some x/\((w.alloc (.cells #[x,y] t)).drew).cell? ⟨w.heap.size,1,none⟩=some y:=by
 constructor
 ·show (w.alloc _).cell? _=_;simp
 show (w.alloc _).cell? _=_;simp
theorem amu(a b:Ent):orV (Lib.compareInt (a0a a) (a0a b)) (Lib.compareInt (a07 a) (a07 b))=a7I a b:=by
 unfold orV;rw[a7F,a7F];unfold a7I eLt;repeat' split
 all_goals omega
theorem agD{w w1:World}{a b:Obj}(h:(w.alloc a).alloc b=w1)(c:Obj):∃q os,(w1.alloc c).drew=Go.Sort.grow (w.drewN q) os:=
 ⟨1,#[a,b,c],by rw[<-h,Go.Sort.alloc_eq_grow,Go.Sort.alloc_eq_grow,Go.Sort.alloc_eq_grow,Go.Sort.grow_grow,Go.Sort.grow_grow];rfl⟩
theorem aiG(a b:Ent)(w:World):Calls prog 95 #[a3j a,a3j b] w fun e w'=>e= .returned (.int .i64 (a7I a b))/\∃q os,w'=Go.Sort.grow (w.drewN q) os:=by
 have E:=hid (amu a b);unfold a3j;generalize a0a a=ca at *;generalize a0a b=cb at *;generalize a07 a=pa at *;generalize a07 b=pb at *;go_enter func95,ntmps95;go_wp2_with fail
 obtain⟨w1,hw1⟩:∃w1,(w.alloc (.cells #[.int .i64 pa,.int .i64 (a0r a),.int .i64 ca,.string (a0b a)] 43)).alloc (.cells #[.int .i64 pb,.int .i64 (a0r b),.int .i64 cb,.string (a0b b)] 43)=w1:=⟨_,rfl⟩
 rw[hw1];have hs1:w1.heap.size=w.heap.size+2:=by rw[<-hw1];simp
 have hb1:Below w.heap.size w w1:=by rw[<-hw1];exact((aoi _ w).alloc (aof _) _).alloc oz _
 have ha:w1.heap[w.heap.size]? =some (.cells #[.int .i64 pa,.int .i64 (a0r a),.int .i64 ca,.string (a0b a)] 43 (0,0)):=by
  rw[<-hw1];exact(aop _ _ _ oz).trans (World.alloc_heap_new w _)
 have hbb:w1.heap[w.heap.size+1]? =some (.cells #[.int .i64 pb,.int .i64 (a0r b),.int .i64 cb,.string (a0b b)] 43 (0,0)):=by
  have:=World.alloc_heap_new (w.alloc (.cells #[.int .i64 pa,.int .i64 (a0r a),.int .i64 ca,.string (a0b a)] 43)) (.cells #[.int .i64 pb,.int .i64 (a0r b),.int .i64 cb,.string (a0b b)] 43);rw[aoq]at this;rw[<-hw1];exact this
 have r0:∀W,KB w1 W->W.cell? ⟨w.heap.size,0,none⟩=some (.int .i64 pa):=fun W h=>keep_cell h (heap_cell ha rfl);have r1:∀W,KB w1 W->W.cell? ⟨w.heap.size,2,none⟩=some (.int .i64 ca):=fun W h=>keep_cell h (heap_cell ha rfl);have r2:∀W,KB w1 W->W.cell? ⟨w.heap.size+1,0,none⟩=some (.int .i64 pb):=fun W h=>keep_cell h (heap_cell hbb rfl);have r3:∀W,KB w1 W->W.cell? ⟨w.heap.size+1,2,none⟩=some (.int .i64 cb):=fun W h=>keep_cell h (heap_cell hbb rfl);have HB1:=hid hb1;have HW1:=hid hw1;clear hw1 ha hbb hb1 hs1
 go_region_held3 (fun W=>KB w1 W) (first|exact KB.drew (KB.refl _)|assumption|(unfold KB at *;repeat (first|assumption|exact aoi _ _|refine Below.drew ?_ |refine Below.alloc ?_ (by first|omega|(simp;done)|(simp;omega)) _))|fail) (first
  |(go_at_call 124;refine(Tryz.cmp_Compare_int _ _ _).mono ?_;rintro e w' ⟨rfl,rfl⟩)
  |(go_at_call 123;refine(anw w1.heap.size (Lib.compareInt ca cb) (Lib.compareInt pa pb) _ (ac5 _ _ _ _).1 (ac5 _ _ _ _).2).mono ?_;rintro e w2 ⟨rfl,rfl⟩)
  |fail)
 all_goals go_wp2
 all_goals go_ret
 all_goals exact⟨by rw[E.out];rfl,agD HW1.out _⟩
end Go.Proofs.YtdfkaijeppdhaaaGreatDoor

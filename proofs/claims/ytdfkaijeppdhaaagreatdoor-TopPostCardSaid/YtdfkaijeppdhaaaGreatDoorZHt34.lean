/- Part of the proof. -/
import Derived.Test.YtdfkaijeppdhaaaGreatDoorZHt33

set_option maxRecDepth 100000
set_option maxHeartbeats 8000000
set_option linter.unusedSimpArgs false
set_option linter.unusedVariables false

namespace Go.Proofs.YtdfkaijeppdhaaaGreatDoor
open Go.RowKit Go.Shelf
def aoM(G:List Int)(j i:Nat):Bool:=decide (G.getD i 0<G.getD j 0)||(decide (G.getD i 0=G.getD j 0)&&decide (j<i))
theorem befB_iff{G:List Int}{j i:Nat}:aoM G j i=true↔Fd.Bef G j i:=by
 unfold aoM Fd.Bef;simp
theorem ajT{G:List Int}{j i:Nat}(h:Fd.Bef G j i):¬Fd.Bef G i j:=by
 unfold Fd.Bef at *;omega
theorem aia{G:List Int}{j i:Nat}(h:¬Fd.Bef G j i)(hne:j≠i):Fd.Bef G i j:=by
 unfold Fd.Bef at *;omega
theorem aib{G:List Int}{i j k:Nat}(h:Fd.Bef G i j)(h':Fd.Bef G j k):Fd.Bef G i k:=by
 unfold Fd.Bef at *;omega
theorem aen{G:List Int}:∀{l m:List Nat},l.Pairwise (Fd.Bef G)->m.Pairwise (Fd.Bef G)->l.Perm m->l=m
 |[],m,_,_,hp=>(List.nil_perm.1 hp).symm▸rfl
 |a::l,[],_,_,hp=>by simpa using hp.length_eq
 | a::l,b::m,hl,hm,hp=>by
  have h1:=amr.1 hl;have h2:=amr.1 hm
  have hab:a=b:=by
   have ha:a∈b::m:=hp.mem_iff.1 (by simp);have hb:b∈a::l:=hp.mem_iff.2 (by simp);rcases alI.1 ha with e|e
   ·exact e
   rcases alI.1 hb with e'|e'
   ·exact e'.symm
   exact absurd (h1.1 _ e') (ajT (h2.1 _ e))
  subst hab;rw[aen h1.2 h2.2 (List.Perm.cons_inv hp)]
def aou(G:List Int)(i:Nat):List Nat->List Nat
 |[]=>[i]
 |x::r=>if aoM G i x then i::x::r else x::aou G i r
theorem a7e(G:List Int)(i:Nat):∀l,(aou G i l).Perm (i::l)
 |[]=>.refl _
 |x::r=>by
  unfold aou;split
  ·exact .refl _
  exact((a7e G i r).cons x).trans (.swap i x r)
theorem acH{G:List Int}{i:Nat}:∀{l:List Nat},l.Pairwise (Fd.Bef G)->i∉l->(aou G i l).Pairwise (Fd.Bef G)
 |[],_,_=>by simp[aou]
 | x::r,h,hi=>by
  have h1:=amr.1 h;unfold aou;split
  ·rename_i hb
   have hb:=befB_iff.1 hb;exact amr.2 ⟨fun y hy=>(alI.1 hy).elim (fun e=>e▸hb) (fun e=>aib hb (h1.1 y e)),h⟩
  rename_i hb
  have hb:Fd.Bef G x i:=aia (fun h=>hb (befB_iff.2 h)) (fun e=>hi (e▸List.mem_cons_self));exact amr.2 ⟨fun y hy=>(alI.1 ((a7e G i r).mem_iff.1 hy)).elim (fun e=>e▸hb) (h1.1 y),acH h1.2 fun h=>hi (List.mem_cons_of_mem _ h)⟩
def aoI(G:List Int):List Nat->List Nat
 |[]=>[]
 |i::r=>aou G i (aoI G r)
theorem a7f(G:List Int):∀l,(aoI G l).Perm l
 |[]=>.refl _
 |i::r=>(a7e G i _).trans ((a7f G r).cons i)
theorem acI{G:List Int}:∀{l:List Nat},l.Nodup->(aoI G l).Pairwise (Fd.Bef G)
 |[],_=>List.Pairwise.nil
 |i::r,h=>acH (acI (List.nodup_cons.1 h).2) fun hm=>(List.nodup_cons.1 h).1 ((a7f G r).mem_iff.1 hm)
def aov(G:List Int):List Nat:=aoI G (List.range G.length)
theorem a4Z(G:List Int):Fd.Orde G (aov G):=⟨a7f G _,acI List.nodup_range⟩
theorem alm{G:List Int}{L:List Nat}(h:Fd.Orde G L):L=aov G:=aen h.sorted (a4Z G).sorted (h.perm.trans (a4Z G).perm.symm)
def a1A(c:List Int)(n:Int):List Int:=if Fd.shareE c n 4=0 then Fd.incL (Fd.qsL (Fd.shareL c n 4)) ((aov (Fd.gL c n 4)).take (Fd.whN n (Fd.shareL c n 4)))else []
theorem ajU{c:List Int}{n:Int}{w:World}{e:Ending}{w':World}(h:Fd.GivesH c n 4 w e w'):∃ov,e= .returned (.tuple #[ov,.int .i64 (Fd.shareE c n 4)])/\Fd.IntsAt w' ov (a1A c n)/\Below w.heap.size w w':=by
 obtain⟨ov,res,h1,h2,h3,h4,h5⟩:=h;refine⟨ov,h1,?_,h3⟩
 have:res=a1A c n:=by
  unfold a1A;split
  ·rename_i h0
   obtain⟨L,hL,hr⟩:=h5 h0;rw[hr,alm hL]
  rename_i h0;exact h4 h0
 rw[<-this];exact h2
end Go.Proofs.YtdfkaijeppdhaaaGreatDoor

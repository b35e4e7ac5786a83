/- Part of the proof. -/
import Derived.Test.YtdfkaijeppdhaaaGreatDoorZHs33

set_option maxRecDepth 100000
set_option maxHeartbeats 8000000
set_option linter.unusedSimpArgs false
set_option linter.unusedVariables false

namespace Go.Proofs.YtdfkaijeppdhaaaGreatDoor
open Go.RowKit Go.Shelf
def alN(G:List Int)(j i:Nat):Bool:=decide (G.getD i 0<G.getD j 0)||(decide (G.getD i 0=G.getD j 0)&&decide (j<i))
theorem befB_iff{G:List Int}{j i:Nat}:alN G j i=true↔Fd.Bef G j i:=by
 unfold alN Fd.Bef;simp
theorem alO{G:List Int}{j i:Nat}(h:Fd.Bef G j i):¬Fd.Bef G i j:=by
 unfold Fd.Bef at *;omega
theorem ak2{G:List Int}{j i:Nat}(h:¬Fd.Bef G j i)(hne:j≠i):Fd.Bef G i j:=by
 unfold Fd.Bef at *;omega
theorem ak3{G:List Int}{i j k:Nat}(h:Fd.Bef G i j)(h':Fd.Bef G j k):Fd.Bef G i k:=by
 unfold Fd.Bef at *;omega
theorem agf{G:List Int}:∀{l m:List Nat},l.Pairwise (Fd.Bef G)->m.Pairwise (Fd.Bef G)->l.Perm m->l=m
 |[],m,_,_,hp=>(List.nil_perm.1 hp).symm▸rfl
 |a::l,[],_,_,hp=>by simpa using hp.length_eq
 | a::l,b::m,hl,hm,hp=>by
  have h1:=apg.1 hl;have h2:=apg.1 hm
  have hab:a=b:=by
   have ha:a∈b::m:=hp.mem_iff.1 oz;have hb:b∈a::l:=hp.mem_iff.2 oz;rcases aov.1 ha with e|e
   ·exact e
   rcases aov.1 hb with e'|e'
   ·exact e'.symm
   exact absurd (h1.1 _ e') (alO (h2.1 _ e))
  subst hab;rw[agf h1.2 h2.2 (List.Perm.cons_inv hp)]
def a9P(G:List Int)(i:Nat):List Nat->List Nat
 |[]=>[i]
 |x::r=>if alN G i x then i::x::r else x::a9P G i r
theorem a8E(G:List Int)(i:Nat):∀l,(a9P G i l).Perm (i::l)
 |[]=>.refl _
 |x::r=>by
  unfold a9P;split
  ·exact .refl _
  exact((a8E G i r).cons x).trans (.swap i x r)
theorem aeu{G:List Int}{i:Nat}:∀{l:List Nat},l.Pairwise (Fd.Bef G)->i∉l->(a9P G i l).Pairwise (Fd.Bef G)
 |[],_,_=>by simp[a9P]
 | x::r,h,hi=>by
  have h1:=apg.1 h;unfold a9P;split
  ·rename_i hb
   have hb:=befB_iff.1 hb;exact apg.2 ⟨fun y hy=>(aov.1 hy).elim (fun e=>e▸hb) (fun e=>ak3 hb (h1.1 y e)),h⟩
  rename_i hb
  have hb:Fd.Bef G x i:=ak2 (fun h=>hb (befB_iff.2 h)) (fun e=>hi (e▸List.mem_cons_self));exact apg.2 ⟨fun y hy=>(aov.1 ((a8E G i r).mem_iff.1 hy)).elim (fun e=>e▸hb) (h1.1 y),aeu h1.2 fun h=>hi (List.mem_cons_of_mem _ h)⟩
def ahG(G:List Int):List Nat->List Nat
 |[]=>[]
 |i::r=>a9P G i (ahG G r)
theorem a8F(G:List Int):∀l,(ahG G l).Perm l
 |[]=>.refl _
 |i::r=>(a8E G i _).trans ((a8F G r).cons i)
theorem aev{G:List Int}:∀{l:List Nat},l.Nodup->(ahG G l).Pairwise (Fd.Bef G)
 |[],_=>List.Pairwise.nil
 |i::r,h=>aeu (aev (List.nodup_cons.1 h).2) fun hm=>(List.nodup_cons.1 h).1 ((a8F G r).mem_iff.1 hm)
def a9Q(G:List Int):List Nat:=ahG G (List.range G.length)
theorem a6e(G:List Int):Fd.Orde G (a9Q G):=⟨a8F G _,aev List.nodup_range⟩
theorem ank{G:List Int}{L:List Nat}(h:Fd.Orde G L):L=a9Q G:=agf h.sorted (a6e G).sorted (h.perm.trans (a6e G).perm.symm)
def a2c(c:List Int)(n:Int):List Int:=if Fd.shareE c n 4=0 then Fd.incL (Fd.qsL (Fd.shareL c n 4)) ((a9Q (Fd.gL c n 4)).take (Fd.whN n (Fd.shareL c n 4)))else []
theorem alP{c:List Int}{n:Int}{w:World}{e:Ending}{w':World}(h:Fd.GivesH c n 4 w e w'):∃ov,e= .returned (.tuple #[ov,.int .i64 (Fd.shareE c n 4)])/\Fd.IntsAt w' ov (a2c c n)/\Below w.heap.size w w':=by
 obtain⟨ov,res,h1,h2,h3,h4,h5⟩:=h;refine⟨ov,h1,?_,h3⟩
 have:res=a2c c n:=by
  unfold a2c;split
  ·rename_i h0
   obtain⟨L,hL,hr⟩:=h5 h0;rw[hr,ank hL]
  rename_i h0;exact h4 h0
 rw[<-this];exact h2
end Go.Proofs.YtdfkaijeppdhaaaGreatDoor

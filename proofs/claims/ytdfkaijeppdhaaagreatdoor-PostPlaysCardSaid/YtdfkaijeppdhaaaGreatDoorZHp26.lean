/- Texts of this claim, laid together: Am. -/
import Derived.Test.YtdfkaijeppdhaaaGreatDoorZHp01
import Derived.Test.YtdfkaijeppdhaaaGreatDoorZHp25

set_option maxRecDepth 100000
set_option maxHeartbeats 8000000
set_option linter.unusedSimpArgs false
set_option linter.unusedVariables false

namespace Go.Proofs.YtdfkaijeppdhaaaGreatDoor
open Go.RowKit Go.Shelf
def befB(G:List Int)(j i:Nat):Bool:=decide (G.getD i 0<G.getD j 0)||(decide (G.getD i 0=G.getD j 0)&&decide (j<i))
theorem befB_iff{G:List Int}{j i:Nat}:befB G j i=true↔Fd.Bef G j i:=by
 unfold befB Fd.Bef;simp
theorem ai4{G:List Int}{j i:Nat}(h:Fd.Bef G j i):¬Fd.Bef G i j:=by
 unfold Fd.Bef at *;omega
theorem agp{G:List Int}{j i:Nat}(h:¬Fd.Bef G j i)(hne:j≠i):Fd.Bef G i j:=by
 unfold Fd.Bef at *;omega
theorem agq{G:List Int}{i j k:Nat}(h:Fd.Bef G i j)(h':Fd.Bef G j k):Fd.Bef G i k:=by
 unfold Fd.Bef at *;omega
theorem ade{G:List Int}:∀{l m:List Nat},l.Pairwise (Fd.Bef G)->m.Pairwise (Fd.Bef G)->l.Perm m->l=m
 |[],m,_,_,hp=>(List.nil_perm.1 hp).symm▸rfl
 |a::l,[],_,_,hp=>by simpa using hp.length_eq
 | a::l,b::m,hl,hm,hp=>by
  have h1:=List.pairwise_cons.1 hl;have h2:=List.pairwise_cons.1 hm
  have hab:a=b:=by
   have ha:a∈b::m:=hp.mem_iff.1 (by simp);have hb:b∈a::l:=hp.mem_iff.2 (by simp);rcases List.mem_cons.1 ha with e|e
   ·exact e
   rcases List.mem_cons.1 hb with e'|e'
   ·exact e'.symm
   exact absurd (h1.1 _ e') (ai4 (h2.1 _ e))
  subst hab;rw[ade h1.2 h2.2 (List.Perm.cons_inv hp)]
def insN(G:List Int)(i:Nat):List Nat->List Nat
 |[]=>[i]
 |x::r=>if befB G i x then i::x::r else x::insN G i r
theorem a6r(G:List Int)(i:Nat):∀l,(insN G i l).Perm (i::l)
 |[]=>.refl _
 |x::r=>by
  unfold insN;split
  ·exact .refl _
  exact((a6r G i r).cons x).trans (.swap i x r)
theorem abw{G:List Int}{i:Nat}:∀{l:List Nat},l.Pairwise (Fd.Bef G)->i∉l->(insN G i l).Pairwise (Fd.Bef G)
 |[],_,_=>by simp[insN]
 | x::r,h,hi=>by
  have h1:=List.pairwise_cons.1 h;unfold insN;split
  ·rename_i hb
   have hb:=befB_iff.1 hb;exact List.pairwise_cons.2 ⟨fun y hy=>(List.mem_cons.1 hy).elim (fun e=>e▸hb) (fun e=>agq hb (h1.1 y e)),h⟩
  rename_i hb
  have hb:Fd.Bef G x i:=agp (fun h=>hb (befB_iff.2 h)) (fun e=>hi (e▸List.mem_cons_self));exact List.pairwise_cons.2 ⟨fun y hy=>(List.mem_cons.1 ((a6r G i r).mem_iff.1 hy)).elim (fun e=>e▸hb) (h1.1 y),abw h1.2 fun h=>hi (List.mem_cons_of_mem _ h)⟩
def srtN(G:List Int):List Nat->List Nat
 |[]=>[]
 |i::r=>insN G i (srtN G r)
theorem a6s(G:List Int):∀l,(srtN G l).Perm l
 |[]=>.refl _
 |i::r=>(a6r G i _).trans ((a6s G r).cons i)
theorem abx{G:List Int}:∀{l:List Nat},l.Nodup->(srtN G l).Pairwise (Fd.Bef G)
 |[],_=>List.Pairwise.nil
 |i::r,h=>abw (abx (List.nodup_cons.1 h).2) fun hm=>(List.nodup_cons.1 h).1 ((a6s G r).mem_iff.1 hm)
def ordN(G:List Int):List Nat:=srtN G (List.range G.length)
theorem a4A(G:List Int):Fd.Orde G (ordN G):=⟨a6s G _,abx List.nodup_range⟩
theorem ajl{G:List Int}{L:List Nat}(h:Fd.Orde G L):L=ordN G:=ade h.sorted (a4A G).sorted (h.perm.trans (a4A G).perm.symm)
def a1l(c:List Int)(n:Int):List Int:=if Fd.shareE c n 4=0 then Fd.incL (Fd.qsL (Fd.shareL c n 4)) ((ordN (Fd.gL c n 4)).take (Fd.whN n (Fd.shareL c n 4)))else []
theorem ai5{c:List Int}{n:Int}{w:World}{e:Ending}{w':World}(h:Fd.GivesH c n 4 w e w'):∃ov,e= .returned (.tuple #[ov,.int .i64 (Fd.shareE c n 4)])/\Fd.IntsAt w' ov (a1l c n)/\Below w.heap.size w w':=by
 obtain⟨ov,res,h1,h2,h3,h4,h5⟩:=h;refine⟨ov,h1,?_,h3⟩
 have:res=a1l c n:=by
  unfold a1l;split
  ·rename_i h0
   obtain⟨L,hL,hr⟩:=h5 h0;rw[hr,ajl hL]
  rename_i h0;exact h4 h0
 rw[<-this];exact h2
end Go.Proofs.YtdfkaijeppdhaaaGreatDoor

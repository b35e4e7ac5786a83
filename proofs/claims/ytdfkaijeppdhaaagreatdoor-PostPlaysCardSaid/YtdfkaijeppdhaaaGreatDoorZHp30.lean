/- Texts of this claim, laid together: Tk, Pd. -/
import Derived.OrdersHeld
import Derived.Deep.RegionHeld
import Derived.Test.YtdfkaijeppdhaaaGreatDoorZHp01

set_option maxRecDepth 100000
set_option maxHeartbeats 8000000
set_option linter.unusedSimpArgs false
set_option linter.unusedVariables false

namespace Go.Proofs.YtdfkaijeppdhaaaGreatDoor
open Go
theorem exq{α:Type}{p q:α->Prop}(v:α)(h1:p v)(h2:q v):∃v,p v/\q v:=⟨v,h1,h2⟩
theorem gS:(∀(a:Act) (t:Tmp) (v:Value),a.put (some t) v={a with tmps:=a.tmps.setIfInBounds t v})/\(∀(a:Act) (v:Value),a.put none v=a)/\(∀{α:Type} {l:List α} {i:Nat} (h:i<l.toArray.size),l.toArray[i]=l[i]'(by simpa using h))/\(∀{α:Type} {a:α} {l:List α} {h:0<(a::l).length},(a::l)[0]=a)/\
  (∀{α:Type} {a:α} {l:List α} {i:Nat} {h:i+1<(a::l).length},(a::l)[i+1]=l[i]'(by simpa using h))/\(∀{α:Type} {l:List α} {i:Nat} {a:α},l.toArray.setIfInBounds i a=(l.set i a).toArray)/\
  (∀{α:Type} {a b:α} {l:List α},(a::l).set 0 b=b::l)/\∀{α:Type} {a b:α} {l:List α} {n:Nat},(a::l).set (n+1) b=a::l.set n b:=
 ⟨fun _ _ _=>rfl,fun _ _=>rfl,fun h=>List.getElem_toArray h,rfl,rfl,List.setIfInBounds_toArray ..,rfl,rfl⟩
def TK(_:List Nat)(p:Prop):Prop:=p
theorem tk(is:List Nat){p:Prop}(h:TK is p):p:=h
theorem tkE{p:Prop}(h:p):TK [] p:=h
section
variable{P:Program}{ops:Array Oper}{Q:Exit->Act->World->Prop}{md:Region.Mode}{S:World->Prop}{is:List Nat}{oi:Oper}{fuel:Nat}{listed:Array Bool}{a:Act}{w:World}
theorem tkC{i:Nat}(hS:S w)(hi:ops[i]? =some oi:=by rfl)
  (hs:Region.noSelect ops=true:=by kernel_rfl)(hf:Region.free md ops listed i=true:=by kernel_rfl)(hr:(Region.ready md ops listed).contains i=true:=by kernel_rfl)
  (hQ:∀v c a w,Q (.panic c) (a.put oi.dst v) w->Q (.panic c) a w:=by first|exact fun _ _ _ _ h=>h|exact fun _ _ _ _ h=>nomatch h.1)(hw:Region.wanted oi (yielded ops a.tmps)=true:=by rfl)
  (h:∃v,(∀W,S W->(execOp a.eval oi).run P W= .ok (.value v) W)/\TK is (wpAnyH P md ops Q S fuel (listed.setIfInBounds i true) (a.put oi.dst v) w)):TK (i::is) (wpAnyH P md ops Q S (fuel+1) listed a w):=by
 obtain⟨v,h1,h2⟩:=h;exact wpAnyH_take hi hs hf hr (hQ v) (Or.inl ⟨hw,h1⟩) hS h2
theorem tkS{i:Nat}(hS:S w)(hi:ops[i]? =some oi:=by rfl)
  (hs:Region.noSelect ops=true:=by kernel_rfl)(hf:Region.free md ops listed i=true:=by kernel_rfl)(hr:(Region.ready md ops listed).contains i=true:=by kernel_rfl)
  (hQ:∀v c a w,Q (.panic c) (a.put oi.dst v) w->Q (.panic c) a w:=by first|exact fun _ _ _ _ h=>h|exact fun _ _ _ _ h=>nomatch h.1)(hw:Region.wanted oi (yielded ops a.tmps)=false:=by rfl)
  (h:TK is (wpAnyH P md ops Q S fuel (listed.setIfInBounds i true) (a.put oi.dst undef) w)):TK (i::is) (wpAnyH P md ops Q S (fuel+1) listed a w):=
 wpAnyH_take hi hs hf hr (hQ undef) (Or.inr ⟨hw,rfl⟩) hS h
theorem rdy(i:Nat)(hr:Region.ready md ops listed=[i]:=by kernel_rfl)(hi:ops[i]? =some oi:=by rfl)
  (h:∀K':Act->World->Prop,Shut (∀a w,S w->(S w->wpAnyH P md ops Q S fuel (listed.setIfInBounds i true) a w)->K' a w)->if Region.wanted oi (yielded ops a.tmps)=true then Oper.wp P oi a w K' Q else K' (a.put oi.dst undef) w):wpAnyH P md ops Q S (fuel+1) listed a w:=
 wpAnyH_ready hr (by simp) (AllReadyH.cons hi h AllReadyH.nil)
end
def dist:List UInt8->List UInt8->Nat
 |[],[]=>0
 |[],_::t=>1+dist [] t
 |_::s,[]=>1+dist s []
 |x::s,y::t=>min (min ((if x=y then 0 else 1)+dist s t) (1+dist s (y::t))) (1+dist (x::s) t)
termination_by s t=>s.length+t.length
theorem a4Z:∀s t:List UInt8,dist s t<=s.length+t.length
 |[],[]=>by simp[dist]
 |[],_::t=>by have:=a4Z [] t;simp only[dist,List.length_nil,List.length_cons]at *;omega
 |_::s,[]=>by have:=a4Z s [];simp only[dist,List.length_nil,List.length_cons]at *;omega
 |x::s,y::t=>by
  have:=a4Z (x::s) t;simp only[dist,List.length_cons]at *;omega
termination_by s t=>s.length+t.length
def cst(s t:List UInt8)(i k:Nat):Nat:=dist (s.drop i) (t.drop k)
theorem adf(s t:List UInt8):cst s t s.length t.length=0:=by unfold cst;simp[dist]
theorem aia{s t:List UInt8}{i:Nat}(hi:i<s.length):cst s t i t.length=1+cst s t (i+1) t.length:=by
 unfold cst;rw[List.drop_eq_getElem_cons hi,List.drop_length,dist]
theorem agC{s t:List UInt8}{k:Nat}(hk:k<t.length):cst s t s.length k=1+cst s t s.length (k+1):=by
 unfold cst;rw[List.drop_eq_getElem_cons hk,List.drop_length,dist]
theorem aib{s t:List UInt8}{i k:Nat}(hi:i<s.length)(hk:k<t.length):cst s t i k=min (min ((if s[i]=t[k]then 0 else 1)+cst s t (i+1) (k+1)) (1+cst s t (i+1) k)) (1+cst s t i (k+1)):=by
 unfold cst;rw[List.drop_eq_getElem_cons hi,List.drop_eq_getElem_cons hk,dist]
theorem agD(s t:List UInt8)(i k:Nat):cst s t i k<=s.length+t.length:=by
 have:=a4Z (s.drop i) (t.drop k);unfold cst;simp only[List.length_drop]at this;omega
structure Stp where
 edit:Nat
 i:Nat
 k:Nat
 cost:Nat
def a0c(s t:List UInt8)(i k:Nat):List Stp:=
 (if i<s.length/\k<t.length then [if s.getD i 0=t.getD k 0 then ⟨1,i+1,k+1,0⟩else ⟨2,i+1,k+1,1⟩]else [])++
 ((if i<s.length then [⟨3,i+1,k,1⟩]else [])++(if k<t.length then [⟨4,i,k+1,1⟩]else []))
def a13(o:Option Nat)(n:Nat):Option Nat:=some (match o with
 |none=>n
 |some b=>if n<b then n else b)
def a0Y(s t:List UInt8)(l:List Stp):Option Nat:=l.foldl (fun o x=>a13 o (cst s t x.i x.k+x.cost)) none
theorem a3c(s t:List UInt8)(l:List Stp)(x:Stp):a0Y s t (l++[x])=a13 (a0Y s t l) (cst s t x.i x.k+x.cost):=by simp[a0Y,List.foldl_append]
theorem adg{s t:List UInt8}{i k:Nat}(hi:i<=s.length)(hk:k<=t.length):(a0Y s t (a0c s t i k)).getD 0=cst s t i k:=by
 unfold a0c;by_cases h1:i<s.length
 ·by_cases h2:k<t.length
  ·rw[if_pos ⟨h1,h2⟩,if_pos h1,if_pos h2,aib h1 h2];rw[List.getD_eq_getElem?_getD,List.getElem?_eq_getElem h1,List.getD_eq_getElem?_getD,List.getElem?_eq_getElem h2,Option.getD_some,Option.getD_some];by_cases h3:s[i]=t[k]
   ·simp only[h3,if_true,a0Y,a13,List.cons_append,List.nil_append,List.foldl_cons,List.foldl_nil,Option.getD_some];split<;>split<;>omega
   simp only[h3,if_false,a0Y,a13,List.cons_append,List.nil_append,List.foldl_cons,List.foldl_nil,Option.getD_some];split<;>split<;>omega
  obtain rfl:k=t.length:=by omega
  rw[if_neg (by omega),if_pos h1,if_neg h2,aia h1];simp[a0Y,a13];omega
 obtain rfl:i=s.length:=by omega
 by_cases h2:k<t.length
 ·rw[if_neg (by omega),if_neg h1,if_pos h2,agC h2];simp[a0Y,a13];omega
 obtain rfl:k=t.length:=by omega
 rw[if_neg (by omega),if_neg h1,if_neg h2,adf];rfl
end Go.Proofs.YtdfkaijeppdhaaaGreatDoor

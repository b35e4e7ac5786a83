/- Part of the proof. -/
import Derived.Test.YtdfkaijeppdhaaaGreatDoorZHt44
set_option maxRecDepth 100000
set_option maxHeartbeats 8000000
set_option linter.unusedSimpArgs false
set_option linter.unusedVariables false

namespace Go.Proofs.YtdfkaijeppdhaaaGreatDoor
open Go.RowKit Go.Shelf
theorem akg(b:anl){c d:anl}(h:BookEq c d):(a0x b c).1=(a0x b d).1/\BookEq (a0x b c).2 (a0x b d).2:=by
 have hc:(anx (b 0) (c 0)&&anx (b 1) (c 1)&&anx (b 2) (c 2)&&anx (b 3) (c 3))=(anx (b 0) (d 0)&&anx (b 1) (d 1)&&anx (b 2) (d 2)&&anx (b 3) (d 3)):=by
  rw[h 0 (by omega),h 1 (by omega),h 2 (by omega),h 3 (by omega)]
 unfold a0x a2v;rw[hc];by_cases hd:(anx (b 0) (d 0)&&anx (b 1) (d 1)&&anx (b 2) (d 2)&&anx (b 3) (d 3))=true
 ·rw[if_pos hd,if_pos hd];exact⟨rfl,fun i hi=>by show a0N (b i) (c i)=a0N (b i) (d i);rw[h i hi]⟩
 rw[if_neg hd,if_neg hd];exact⟨rfl,fun _ _=>rfl⟩
theorem agd{b:anl}(hb:a02 b):(a0F b).size<=48000:=by
 have h1:=a6I (l:=ann b) (fun e he=>a5c ⟨(a0q hb he).1,(a0q hb he).2.1,(a0q hb he).2.2.1⟩ (a0q hb he).2.2.2);have h2:(ann b).length<=240:=by rw[a0X];exact a1t hb
 rw[a03];show (a0O (ann b)).length<=48000
 have h3:=amL 200 h2;omega
open Go
def a0y(bs:Nat->anl):Nat->Nat->anl
 |0=>bs
 |s+1=>setP (a0y bs s) (s % 3) (a1u (a0y bs s (s % 3)) (a0y bs s ((s+1) % 3)))
theorem a2f{bs:Nat->anl}(h:Sys bs):∀s,Sys (a0y bs s)
 |0=>h
 |s+1=>(a2f h s).join (amI _ (by omega)) (amI _ (by omega))
theorem a7q{bs:Nat->anl}(h:Sys bs){i:Nat}(hi:i<3):∀s,a0y bs s i i=bs i i
 |0=>rfl
 |s+1=>by
  show setP (a0y bs s) (s % 3) _ i i=_;by_cases e:i=s % 3
  ·subst e;rw[a1D,<-a7q h hi s];exact a8s ((a2f h s).own _ (amI _ (by omega)) _ hi)
  rw[a1d _ _ e];exact a7q h hi s
theorem aki{bs:Nat->anl}(h:Sys bs){i j:Nat}(hi:i<3)(hj:j<3)(s:Nat):(a0y bs s j i).length<=(bs i i).length:=by
 rw[<-a7q h hi s];exact((a2f h s).own j hj i hi).length_le
theorem ab7{bs:Nat->anl}(h:Sys bs){i j:Nat}(hi:i<3)(hj:j<3):(a0y bs 6 j i).length=(bs i i).length:=by
 have a:=aki h hi hj 6
 have b:(bs i i).length<=(a0y bs 6 j i).length:=by
  rcases (show i=0\/i=1\/i=2 by omega)with rfl|rfl|rfl<;>rcases (show j=0\/j=1\/j=2 by omega)with rfl|rfl|rfl<;>simp[a0y,setP,join_len]<;>omega
 omega
theorem aiy{bs:Nat->anl}(h:Sys bs){j k:Nat}(hj:j<3)(hk:k<3):BookEq (a0y bs 6 j) (a0y bs 6 k):=fun i hi=>by
 by_cases h3:i<3
 ·have a:=(a2f h 6).own j hj i h3
  have b:=(a2f h 6).own k hk i h3
  exact aex a b (by rw[ab7 h h3 hj,ab7 h h3 hk])
 obtain rfl:i=3:=by omega
 rw[(a2f h 6).none j hj,(a2f h 6).none k hk]
end Go.Proofs.YtdfkaijeppdhaaaGreatDoor

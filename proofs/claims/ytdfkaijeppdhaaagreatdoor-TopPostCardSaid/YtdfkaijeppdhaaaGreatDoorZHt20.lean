/- Part of the proof. -/
import Derived.Shelf.Utf8.RuneCount
import Derived.Shelf.Strings.Builder2Cap
import Derived.Shelf.Strconv.ParseUintEmpty
import Derived.Shelf.Strconv.ParseUint10b64
import Derived.Shelf.Strconv.ParseUint10b32
import Derived.Shelf.Strconv.ParseUint10b16
import Derived.Shelf.Strconv.ParseUint10b8
import Derived.Shelf.Sort.Plain
import Derived.Shelf.Strings.Explode
import Derived.Shelf.Slices.SearchI
import Derived.Shelf.Slices.In.SortNone
import Derived.Shelf.SlSortCmp.NoneTotal
import Derived.Test.YtdfkaijeppdhaaaGreatDoorZHt03
import Derived.Shelf.Strings.SlTrimAscii
set_option maxRecDepth 100000
set_option maxHeartbeats 8000000
set_option linter.unusedSimpArgs false
set_option linter.unusedVariables false

namespace Go.Proofs
open Go.Shelf
def Tryz.lays160_ren:Go.Shelf.Ren:=⟨fun|160=>251|232=>257|231=>256|227=>258|234=>260|233=>259|236=>262|235=>261|228=>263|271=>265|151=>264|197=>211|120=>267|152=>266|260=>239|137=>126|119=>268|224=>185|225=>184|217=>165|266=>209|n=>n,fun|9=>9|4=>4|3=>3|5=>5|117=>312|116=>311|0=>0|124=>315|21=>21|105=>267|46=>189|119=>304|139=>307|138=>306|n=>n,fun|3=>6|4=>7|n=>n⟩
theorem Tryz.lays160:Go.Proofs.Lays.n160 Tryz.prog Tryz.lays160_ren:={
 mixed:=by kernel_rfl
 f119:=Tryz.func268.trans (congrArg some (by kernel_rfl))
 f120:=Tryz.func267.trans (congrArg some (by kernel_rfl))
 f137:=Tryz.func126.trans (congrArg some (by kernel_rfl))
 f151:=Tryz.func264.trans (congrArg some (by kernel_rfl))
 f152:=Tryz.func266.trans (congrArg some (by kernel_rfl))
 f160:=Tryz.func251.trans (congrArg some (by kernel_rfl))
 f197:=Tryz.func211.trans (congrArg some (by kernel_rfl))
 f217:=Tryz.func165.trans (congrArg some (by kernel_rfl))
 f224:=Tryz.func185.trans (congrArg some (by kernel_rfl))
 f225:=Tryz.func184.trans (congrArg some (by kernel_rfl))
 f227:=Tryz.func258.trans (congrArg some (by kernel_rfl))
 f228:=Tryz.func263.trans (congrArg some (by kernel_rfl))
 f231:=Tryz.func256.trans (congrArg some (by kernel_rfl))
 f232:=Tryz.func257.trans (congrArg some (by kernel_rfl))
 f233:=Tryz.func259.trans (congrArg some (by kernel_rfl))
 f234:=Tryz.func260.trans (congrArg some (by kernel_rfl))
 f235:=Tryz.func261.trans (congrArg some (by kernel_rfl))
 f236:=Tryz.func262.trans (congrArg some (by kernel_rfl))
 f260:=Tryz.func239.trans (congrArg some (by kernel_rfl))
 f266:=Tryz.func209.trans (congrArg some (by kernel_rfl))
 f271:=Tryz.func265.trans (congrArg some (by kernel_rfl))
 t0:=Tryz.underlying0
 a0:=Tryz.isAgg0
 z0:=Tryz.sizeOf0
 v0:=Tryz.zeroValue0
 t3:=Tryz.underlying3
 a3:=Tryz.isAgg3
 z3:=Tryz.sizeOf3
 v3:=Tryz.zeroValue3
 t4:=Tryz.underlying4
 a4:=Tryz.isAgg4
 z4:=Tryz.sizeOf4
 v4:=Tryz.zeroValue4
 t5:=Tryz.underlying5
 a5:=Tryz.isAgg5
 z5:=Tryz.sizeOf5
 v5:=Tryz.zeroValue5
 t9:=Tryz.underlying9
 a9:=Tryz.isAgg9
 z9:=Tryz.sizeOf9
 v9:=Tryz.zeroValue9
 t21:=Tryz.underlying21
 a21:=Tryz.isAgg21
 z21:=Tryz.sizeOf21
 v21:=Tryz.zeroValue21
 t46:=Tryz.underlying189
 a46:=Tryz.isAgg189
 z46:=Tryz.sizeOf189
 v46:=Tryz.zeroValue189
 t105:=Tryz.underlying267
 a105:=Tryz.isAgg267
 z105:=Tryz.sizeOf267
 v105:=Tryz.zeroValue267
 t116:=Tryz.underlying311
 a116:=Tryz.isAgg311
 z116:=Tryz.sizeOf311
 t117:=Tryz.underlying312
 a117:=Tryz.isAgg312
 z117:=Tryz.sizeOf312
 v117:=Tryz.zeroValue312
 t119:=Tryz.underlying304
 a119:=Tryz.isAgg304
 z119:=Tryz.sizeOf304
 t124:=Tryz.underlying315
 a124:=Tryz.isAgg315
 z124:=Tryz.sizeOf315
 v124:=Tryz.zeroValue315
 t138:=Tryz.underlying306
 a138:=Tryz.isAgg306
 z138:=Tryz.sizeOf306
 v138:=Tryz.zeroValue306
 t139:=Tryz.underlying307
 a139:=Tryz.isAgg307
 z139:=Tryz.sizeOf307
 v139:=Tryz.zeroValue307
 g3:=by kernel_rfl
 g4:=by kernel_rfl}
end Go.Proofs
namespace Go.Proofs.YtdfkaijeppdhaaaGreatDoor
open Go.RowKit Go.Shelf
open Lib (hid)
def peaksL:List UInt8:=[97,98,99,100,101,102,103,104]
def a1z(s:ByteArray):Bool:=decide (s.size<=20)&&(Lib.trimS s.data.toList peaksL).isEmpty
theorem af5(s:ByteArray)(w:World)(hs:s.size<=1000000):
  Calls Tryz.prog 251 #[.string s,.string ⟨#[97,98,99,100,101,102,103,104]⟩] w fun e w'=>e= .returned (.string ⟨(Lib.trimS s.data.toList peaksL).toArray⟩)/\Below w.heap.size w w':=by
 have H:=Any.strings_Trim_laid Tryz.lays160 (by kernel_rfl) s ⟨#[97,98,99,100,101,102,103,104]⟩ w (by omega) (by decide) (ascii_of_all (by decide));exact H
def a3r(c:UInt8):Bool:=peaksL.contains c
theorem drop_nil{α:Type}(p:α->Bool):∀l:List α,l.dropWhile p=[]↔∀x∈l,p x=true
 |[]=>by simp
 |x::r=>by
  have ih:=drop_nil p r;rw[List.dropWhile_cons];cases hp:p x with
  |true=>simp[ih,hp]
  |false=>simp[hp]
theorem af6(l:List UInt8):(Lib.trimS l peaksL).isEmpty=l.all a3r:=by
 unfold Lib.trimS Lib.trimLeftS Lib.trimRightS;rw[Bool.eq_iff_iff,List.isEmpty_iff,drop_nil,amh];constructor
 ·intro h x hx;by_cases hm:x∈(l.reverse.dropWhile (peaksL.contains ·)).reverse
  ·exact h x hm
  rw[List.mem_reverse]at hm;have h1:x∈l.reverse:=by simpa using hx
  rw[<-List.takeWhile_append_dropWhile (p:=(peaksL.contains ·)) (l:=l.reverse)]at h1;rcases alU.1 h1 with h2|h2
  ·exact amh.1 (List.all_takeWhile) x h2
  exact absurd h2 hm
 intro h x hx;rw[List.mem_reverse]at hx;exact h x (by simpa using (List.dropWhile_sublist _).subset hx)
theorem a5e(s:ByteArray)(w:World)(hs:s.size<=1000000):
  Calls Tryz.prog 234 #[.string s] w fun e w'=>e= .returned (.bool (a1z s))/\Below w.heap.size w w':=by
 have HT:=hid (af5 s w hs);obtain⟨T,hT⟩:∃T,T=Lib.trimS s.data.toList peaksL:=⟨_,rfl⟩
 unfold a1z;rw[<-hT]at HT⊢;clear hT;by_cases h:s.size<=20
 ·have h1:(s.size:Int)<=20:=by omega
  go_enter Tryz.func234,Tryz.ntmps234;go_wp2_with (first|(go_at_call 251;refine HT.out.mono ?_;rintro e w1 ⟨rfl,hb1⟩)|fail)
  go_ret;cases T<;>exact⟨by simp[h],hb1⟩
 have h1:¬(s.size:Int)<=20:=by omega
 go_enter Tryz.func234,Tryz.ntmps234;go_wp2_with fail
 go_ret;exact⟨by simp[h],apC _ _⟩
end Go.Proofs.YtdfkaijeppdhaaaGreatDoor

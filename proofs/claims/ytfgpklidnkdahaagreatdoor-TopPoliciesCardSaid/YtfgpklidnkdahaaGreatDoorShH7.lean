/-
  The library functions that the tables name answer as the tables say; the tables are true. No conditions beyond those that stand in the theorems.
-/
import Derived.KernelRfl
import Derived.Shelf.SlGeneric
import Derived.Shelf.Strings.Shaped
import Derived.Shelf.Small.Strs
import Derived.Shelf.Strings.OnBuilder
import Derived.Shelf.Strings.Repeat
import Derived.Shelf.SlIter.Nil
import Derived.Shelf.SortM.Plain
import Derived.Shelf.SortM.SortNone
import Derived.Ground.GgzProg
import Derived.Ground.SlgmProg
import Derived.Ground.NamesProg
import Derived.Test.YtfgpklidnkdahaaGreatDoorProg
import Derived.Test.YtfgpklidnkdahaaGreatDoorShB5
import Derived.Test.YtfgpklidnkdahaaGreatDoorShA4
import Derived.Lib.Strings
import Derived.Lib.Join
import Derived.Lib.Index
import Derived.Lib.Bytealg
import Derived.Lib.Repeat
import Derived.Recover
import Derived.Tactics2
set_option linter.all false
set_option maxHeartbeats 20000000
set_option maxRecDepth 10000
section
namespace Go.Proofs
open Go.Shelf
def Tryz.Nz:Go.Shelf.Ren:=⟨fun|143=>91|219=>165|217=>181|225=>243|224=>244|267=>245|266=>251|314=>324|n=>n,fun|9=>9|3=>3|4=>4|5=>5|46=>113|146=>388|51=>173|n=>n,fun|1=>0|n=>n⟩
theorem Tryz.Ny:Go.Proofs.LaysM.n143 Tryz.prog Tryz.Nz:={
 mixed:=by kernel_rfl
 f143:=Tryz.func91.trans (congrArg some (by kernel_rfl))
 f217:=Tryz.func181.trans (congrArg some (by kernel_rfl))
 f219:=Tryz.func165.trans (congrArg some (by kernel_rfl))
 f224:=Tryz.func244.trans (congrArg some (by kernel_rfl))
 f225:=Tryz.func243.trans (congrArg some (by kernel_rfl))
 f266:=Tryz.func251.trans (congrArg some (by kernel_rfl))
 f267:=Tryz.func245.trans (congrArg some (by kernel_rfl))
 f314:=Tryz.func324.trans (congrArg some (by kernel_rfl))
 t3:=Tryz.underlying3
 a3:=Tryz.isAgg3
 z3:=Tryz.sizeOf3
 v3:=Tryz.zeroValue3
 t4:=Tryz.underlying4
 a4:=Tryz.isAgg4
 z4:=Tryz.sizeOf4
 v4:=Tryz.zeroValue4
 t5:=Tryz.underlying5
 a5:=Tryz.isAgg5
 z5:=Tryz.sizeOf5
 v5:=Tryz.zeroValue5
 t9:=Tryz.underlying9
 a9:=Tryz.isAgg9
 z9:=Tryz.sizeOf9
 v9:=Tryz.zeroValue9
 t46:=Tryz.underlying113
 a46:=Tryz.isAgg113
 z46:=Tryz.sizeOf113
 v46:=Tryz.zeroValue113
 t51:=Tryz.underlying173
 a51:=Tryz.isAgg173
 z51:=Tryz.sizeOf173
 v51:=Tryz.zeroValue173
 t146:=Tryz.underlying388
 a146:=Tryz.isAgg388
 z146:=Tryz.sizeOf388
 v146:=Tryz.zeroValue388
 g1:=by kernel_rfl
 i3:=by kernel_rfl
 i4:=by kernel_rfl
 i5:=by kernel_rfl
 i9:=by kernel_rfl
 i46:=by kernel_rfl
 i51:=by kernel_rfl
 i146:=by kernel_rfl
 m1:=by kernel_rfl
 s1_3:=fun w h=>Go.Proofs.cell_of_shapedOpen_int (zero:=#[.int .i64 0]) (t:=3) h (of_decide_eq_true (by kernel_rfl)) (by kernel_rfl) rfl (by kernel_rfl) (by kernel_rfl) Tryz.underlying3}
def Tryz.Gw:Go.Shelf.Ren:=⟨fun|156=>123|165=>196|166=>21|169=>26|240=>50|241=>261|276=>88|277=>341|n=>n,fun|31=>36|9=>9|3=>3|4=>4|0=>0|20=>20|72=>63|76=>66|70=>60|37=>61|75=>65|127=>104|164=>154|5=>5|80=>38|n=>n,fun|n=>n⟩
theorem Tryz.V1:Go.Proofs.Lays.n156 Tryz.prog Tryz.Gw:={
 mixed:=by kernel_rfl
 f156:=Tryz.func123.trans (congrArg some (by kernel_rfl))
 f165:=Tryz.func196.trans (congrArg some (by kernel_rfl))
 f166:=Tryz.func21.trans (congrArg some (by kernel_rfl))
 f169:=Tryz.func26.trans (congrArg some (by kernel_rfl))
 f240:=Tryz.func50.trans (congrArg some (by kernel_rfl))
 f241:=Tryz.func261.trans (congrArg some (by kernel_rfl))
 f276:=Tryz.func88.trans (congrArg some (by kernel_rfl))
 f277:=Tryz.func341.trans (congrArg some (by kernel_rfl))
 t0:=Tryz.underlying0
 a0:=Tryz.isAgg0
 z0:=Tryz.sizeOf0
 v0:=Tryz.zeroValue0
 t3:=Tryz.underlying3
 a3:=Tryz.isAgg3
 z3:=Tryz.sizeOf3
 v3:=Tryz.zeroValue3
 t4:=Tryz.underlying4
 a4:=Tryz.isAgg4
 z4:=Tryz.sizeOf4
 v4:=Tryz.zeroValue4
 t9:=Tryz.underlying9
 a9:=Tryz.isAgg9
 z9:=Tryz.sizeOf9
 v9:=Tryz.zeroValue9
 t20:=Tryz.underlying20
 a20:=Tryz.isAgg20
 z20:=Tryz.sizeOf20
 v20:=Tryz.zeroValue20
 t31:=Tryz.underlying36
 a31:=Tryz.isAgg36
 z31:=Tryz.sizeOf36
 v31:=Tryz.zeroValue36
 t37:=Tryz.underlying61
 a37:=Tryz.isAgg61
 z37:=Tryz.sizeOf61
 v37:=Tryz.zeroValue61
 t70:=Tryz.underlying60
 a70:=Tryz.isAgg60
 z70:=Tryz.sizeOf60
 v70:=Tryz.zeroValue60
 t72:=Tryz.underlying63
 a72:=Tryz.isAgg63
 z72:=Tryz.sizeOf63
 v72:=Tryz.zeroValue63
 t75:=Tryz.underlying65
 a75:=Tryz.isAgg65
 z75:=Tryz.sizeOf65
 v75:=Tryz.zeroValue65
 t76:=Tryz.underlying66
 a76:=Tryz.isAgg66
 z76:=Tryz.sizeOf66
 v76:=Tryz.zeroValue66
 t127:=Tryz.underlying104
 a127:=Tryz.isAgg104
 z127:=Tryz.sizeOf104
 v127:=Tryz.zeroValue104
 t164:=Tryz.underlying154
 a164:=Tryz.isAgg154
 z164:=Tryz.sizeOf154
 v164:=Tryz.zeroValue154}
def Tryz.Nx:Go.Shelf.Ren:=⟨fun|105=>278|212=>348|99=>171|165=>196|166=>21|170=>25|169=>26|263=>379|264=>380|206=>239|240=>50|241=>261|276=>88|277=>341|n=>n,fun|9=>9|3=>3|4=>4|20=>20|0=>0|46=>113|109=>401|5=>5|72=>63|76=>66|51=>173|146=>388|53=>175|148=>436|70=>60|37=>61|75=>65|127=>104|164=>154|80=>38|n=>n,fun|n=>n⟩
theorem Tryz.agD:Go.Proofs.Lays.n105 Tryz.prog Tryz.Nx:={
 mixed:=by kernel_rfl
 f99:=Tryz.func171.trans (congrArg some (by kernel_rfl))
 f105:=Tryz.func278.trans (congrArg some (by kernel_rfl))
 f165:=Tryz.func196.trans (congrArg some (by kernel_rfl))
 f166:=Tryz.func21.trans (congrArg some (by kernel_rfl))
 f169:=Tryz.func26.trans (congrArg some (by kernel_rfl))
 f170:=Tryz.func25.trans (congrArg some (by kernel_rfl))
 f206:=Tryz.func239.trans (congrArg some (by kernel_rfl))
 f212:=Tryz.func348.trans (congrArg some (by kernel_rfl))
 f240:=Tryz.func50.trans (congrArg some (by kernel_rfl))
 f241:=Tryz.func261.trans (congrArg some (by kernel_rfl))
 f263:=Tryz.func379.trans (congrArg some (by kernel_rfl))
 f264:=Tryz.func380.trans (congrArg some (by kernel_rfl))
 f276:=Tryz.func88.trans (congrArg some (by kernel_rfl))
 f277:=Tryz.func341.trans (congrArg some (by kernel_rfl))
 t0:=Tryz.underlying0
 a0:=Tryz.isAgg0
 z0:=Tryz.sizeOf0
 v0:=Tryz.zeroValue0
 t3:=Tryz.underlying3
 a3:=Tryz.isAgg3
 z3:=Tryz.sizeOf3
 v3:=Tryz.zeroValue3
 t4:=Tryz.underlying4
 a4:=Tryz.isAgg4
 z4:=Tryz.sizeOf4
 v4:=Tryz.zeroValue4
 t5:=Tryz.underlying5
 a5:=Tryz.isAgg5
 z5:=Tryz.sizeOf5
 v5:=Tryz.zeroValue5
 t9:=Tryz.underlying9
 a9:=Tryz.isAgg9
 z9:=Tryz.sizeOf9
 v9:=Tryz.zeroValue9
 t20:=Tryz.underlying20
 a20:=Tryz.isAgg20
 z20:=Tryz.sizeOf20
 v20:=Tryz.zeroValue20
 t37:=Tryz.underlying61
 a37:=Tryz.isAgg61
 z37:=Tryz.sizeOf61
 v37:=Tryz.zeroValue61
 t46:=Tryz.underlying113
 a46:=Tryz.isAgg113
 z46:=Tryz.sizeOf113
 v46:=Tryz.zeroValue113
 t51:=Tryz.underlying173
 a51:=Tryz.isAgg173
 z51:=Tryz.sizeOf173
 v51:=Tryz.zeroValue173
 t53:=Tryz.underlying175
 a53:=Tryz.isAgg175
 z53:=Tryz.sizeOf175
 v53:=Tryz.zeroValue175
 t70:=Tryz.underlying60
 a70:=Tryz.isAgg60
 z70:=Tryz.sizeOf60
 v70:=Tryz.zeroValue60
 t72:=Tryz.underlying63
 a72:=Tryz.isAgg63
 z72:=Tryz.sizeOf63
 v72:=Tryz.zeroValue63
 t75:=Tryz.underlying65
 a75:=Tryz.isAgg65
 z75:=Tryz.sizeOf65
 v75:=Tryz.zeroValue65
 t76:=Tryz.underlying66
 a76:=Tryz.isAgg66
 z76:=Tryz.sizeOf66
 v76:=Tryz.zeroValue66
 t109:=Tryz.underlying401
 a109:=Tryz.isAgg401
 z109:=Tryz.sizeOf401
 v109:=Tryz.zeroValue401
 t127:=Tryz.underlying104
 a127:=Tryz.isAgg104
 z127:=Tryz.sizeOf104
 v127:=Tryz.zeroValue104
 t146:=Tryz.underlying388
 a146:=Tryz.isAgg388
 z146:=Tryz.sizeOf388
 v146:=Tryz.zeroValue388
 t148:=Tryz.underlying436
 a148:=Tryz.isAgg436
 z148:=Tryz.sizeOf436
 v148:=Tryz.zeroValue436
 t164:=Tryz.underlying154
 a164:=Tryz.isAgg154
 z164:=Tryz.sizeOf154
 v164:=Tryz.zeroValue154}
def Tryz.Nn:Go.Shelf.Ren:=⟨fun|7=>469|10=>509|n=>n,fun|23=>526|26=>9|3=>9|28=>529|0=>0|27=>528|33=>75|4=>4|n=>n,fun|n=>n⟩
theorem Tryz.agA:Go.Proofs.SlLaysZ.n7 Tryz.prog Tryz.Nn:={
 mixed:=by kernel_rfl
 f7:=⟨Tryz.f469.name,by decide,Tryz.func469.trans (congrArg some (by kernel_rfl))⟩
 f10:=⟨Tryz.f509.name,by decide,Tryz.func509.trans (congrArg some (by kernel_rfl))⟩
 t0:=Tryz.underlying0
 a0:=Tryz.isAgg0
 z0:=Tryz.sizeOf0
 v0:=Tryz.zeroValue0
 t4:=Tryz.underlying4
 a4:=Tryz.isAgg4
 z4:=Tryz.sizeOf4
 v4:=Tryz.zeroValue4
 t23:=Tryz.underlying526
 a23:=Tryz.isAgg526
 z23:=Tryz.sizeOf526
 v23:=Tryz.zeroValue526
 t26:=Tryz.underlying9
 a26:=Tryz.isAgg9
 z26:=Tryz.sizeOf9
 v26:=Tryz.zeroValue9
 t27:=Tryz.underlying528
 a27:=Tryz.isAgg528
 z27:=Tryz.sizeOf528
 v27:=Tryz.zeroValue528
 t28:=Tryz.underlying529
 a28:=Tryz.isAgg529
 z28:=Tryz.sizeOf529
 v28:=Tryz.zeroValue529
 t33:=Tryz.underlying75
 a33:=Tryz.isAgg75
 z33:=Tryz.sizeOf75
 v33:=Tryz.zeroValue75}
def Tryz.Yh:Go.Shelf.Ren:=⟨fun|6=>468|8=>508|9=>33|11=>551|13=>61|12=>60|23=>106|24=>107|14=>97|15=>98|16=>99|17=>100|18=>101|19=>102|20=>103|21=>104|22=>105|25=>175|26=>176|27=>177|28=>178|29=>179|30=>180|31=>250|n=>n,fun|26=>9|28=>529|24=>36|0=>0|3=>3|37=>113|48=>173|50=>175|4=>4|40=>166|39=>165|45=>170|5=>5|9=>9|51=>256|55=>260|57=>336|58=>121|33=>75|n=>n,fun|n=>n⟩
theorem Tryz.akz:Go.Proofs.SlLaysZ.n6 Tryz.prog Tryz.Yh:={
 mixed:=by kernel_rfl
 f6:=⟨Tryz.f468.name,by decide,Tryz.func468.trans (congrArg some (by kernel_rfl))⟩
 f8:=⟨Tryz.f508.name,by decide,Tryz.func508.trans (congrArg some (by kernel_rfl))⟩
 f11:=⟨Tryz.f551.name,by decide,Tryz.func551.trans (congrArg some (by kernel_rfl))⟩
 t0:=Tryz.underlying0
 a0:=Tryz.isAgg0
 z0:=Tryz.sizeOf0
 v0:=Tryz.zeroValue0
 t24:=Tryz.underlying36
 a24:=Tryz.isAgg36
 z24:=Tryz.sizeOf36
 v24:=Tryz.zeroValue36
 t26:=Tryz.underlying9
 a26:=Tryz.isAgg9
 z26:=Tryz.sizeOf9
 v26:=Tryz.zeroValue9
 t28:=Tryz.underlying529
 a28:=Tryz.isAgg529
 z28:=Tryz.sizeOf529
 v28:=Tryz.zeroValue529
 i26:=by kernel_rfl}
def Tryz.akx:Go.Shelf.Ren:=⟨fun|6=>33|8=>61|9=>60|19=>106|20=>107|21=>97|22=>98|23=>99|24=>100|25=>101|26=>102|27=>103|28=>104|29=>105|36=>175|31=>176|32=>177|37=>178|38=>179|39=>180|41=>250|n=>n,fun|27=>36|29=>9|3=>3|32=>113|26=>36|0=>0|44=>173|46=>175|4=>4|36=>166|35=>165|41=>170|5=>5|9=>9|53=>256|57=>260|63=>336|64=>121|n=>n,fun|n=>n⟩
theorem Tryz.Yg:Go.Proofs.SlLaysM.n6 Tryz.prog Tryz.akx:={
 mixed:=by kernel_rfl
 f6:=⟨Tryz.f33.name,by decide,Tryz.func33.trans (congrArg some (by kernel_rfl))⟩
 f8:=Tryz.func61.trans (congrArg some (by kernel_rfl))
 f9:=⟨Tryz.f60.name,by decide,Tryz.func60.trans (congrArg some (by kernel_rfl))⟩
 f19:=Tryz.func106.trans (congrArg some (by kernel_rfl))
 f20:=Tryz.func107.trans (congrArg some (by kernel_rfl))
 f21:=⟨Tryz.f97.name,by decide,Tryz.func97.trans (congrArg some (by kernel_rfl))⟩
 f22:=⟨Tryz.f98.name,by decide,Tryz.func98.trans (congrArg some (by kernel_rfl))⟩
 f23:=⟨Tryz.f99.name,by decide,Tryz.func99.trans (congrArg some (by kernel_rfl))⟩
 f24:=⟨Tryz.f100.name,by decide,Tryz.func100.trans (congrArg some (by kernel_rfl))⟩
 f25:=⟨Tryz.f101.name,by decide,Tryz.func101.trans (congrArg some (by kernel_rfl))⟩
 f26:=⟨Tryz.f102.name,by decide,Tryz.func102.trans (congrArg some (by kernel_rfl))⟩
 f27:=⟨Tryz.f103.name,by decide,Tryz.func103.trans (congrArg some (by kernel_rfl))⟩
 f28:=⟨Tryz.f104.name,by decide,Tryz.func104.trans (congrArg some (by kernel_rfl))⟩
 f29:=⟨Tryz.f105.name,by decide,Tryz.func105.trans (congrArg some (by kernel_rfl))⟩
 f31:=Tryz.func176.trans (congrArg some (by kernel_rfl))
 f32:=Tryz.func177.trans (congrArg some (by kernel_rfl))
 f36:=⟨Tryz.f175.name,by decide,Tryz.func175.trans (congrArg some (by kernel_rfl))⟩
 f37:=⟨Tryz.f178.name,by decide,Tryz.func178.trans (congrArg some (by kernel_rfl))⟩
 f38:=⟨Tryz.f179.name,by decide,Tryz.func179.trans (congrArg some (by kernel_rfl))⟩
 f39:=⟨Tryz.f180.name,by decide,Tryz.func180.trans (congrArg some (by kernel_rfl))⟩
 f41:=⟨Tryz.f250.name,by decide,Tryz.func250.trans (congrArg some (by kernel_rfl))⟩
 t0:=Tryz.underlying0
 a0:=Tryz.isAgg0
 z0:=Tryz.sizeOf0
 v0:=Tryz.zeroValue0
 t3:=Tryz.underlying3
 a3:=Tryz.isAgg3
 z3:=Tryz.sizeOf3
 v3:=Tryz.zeroValue3
 t4:=Tryz.underlying4
 a4:=Tryz.isAgg4
 z4:=Tryz.sizeOf4
 v4:=Tryz.zeroValue4
 t5:=Tryz.underlying5
 a5:=Tryz.isAgg5
 z5:=Tryz.sizeOf5
 v5:=Tryz.zeroValue5
 t9:=Tryz.underlying9
 a9:=Tryz.isAgg9
 z9:=Tryz.sizeOf9
 v9:=Tryz.zeroValue9
 t26:=Tryz.underlying36
 a26:=Tryz.isAgg36
 z26:=Tryz.sizeOf36
 v26:=Tryz.zeroValue36
 t27:=Tryz.underlying36
 a27:=Tryz.isAgg36
 z27:=Tryz.sizeOf36
 v27:=Tryz.zeroValue36
 t29:=Tryz.underlying9
 a29:=Tryz.isAgg9
 z29:=Tryz.sizeOf9
 v29:=Tryz.zeroValue9
 t32:=Tryz.underlying113
 a32:=Tryz.isAgg113
 z32:=Tryz.sizeOf113
 v32:=Tryz.zeroValue113
 t35:=Tryz.underlying165
 a35:=Tryz.isAgg165
 z35:=Tryz.sizeOf165
 v35:=Tryz.zeroValue165
 t36:=Tryz.underlying166
 a36:=Tryz.isAgg166
 z36:=Tryz.sizeOf166
 v36:=Tryz.zeroValue166
 t41:=Tryz.underlying170
 a41:=Tryz.isAgg170
 z41:=Tryz.sizeOf170
 v41:=Tryz.zeroValue170
 t44:=Tryz.underlying173
 a44:=Tryz.isAgg173
 z44:=Tryz.sizeOf173
 v44:=Tryz.zeroValue173
 t46:=Tryz.underlying175
 a46:=Tryz.isAgg175
 z46:=Tryz.sizeOf175
 v46:=Tryz.zeroValue175
 t53:=Tryz.underlying256
 a53:=Tryz.isAgg256
 z53:=Tryz.sizeOf256
 v53:=Tryz.zeroValue256
 t57:=Tryz.underlying260
 a57:=Tryz.isAgg260
 z57:=Tryz.sizeOf260
 v57:=Tryz.zeroValue260
 t63:=Tryz.underlying336
 a63:=Tryz.isAgg336
 z63:=Tryz.sizeOf336
 v63:=Tryz.zeroValue336
 t64:=Tryz.underlying121
 a64:=Tryz.isAgg121
 z64:=Tryz.sizeOf121
 v64:=Tryz.zeroValue121}
theorem Tryz.SW:Builder.Extra Tryz.prog Tryz.Gw:={
 sizeBuilder:=by kernel_rfl
 liesBuilder:=by kernel_rfl
 t5:=Tryz.underlying5
 a5:=Tryz.isAgg5
 z5:=Tryz.sizeOf5
 v5:=Tryz.zeroValue5
 infoByte:=by kernel_rfl
 cellsByte:=by kernel_rfl
 sizeByte:=by kernel_rfl
 neB5:=by decide}
theorem Tryz.acI:Builder.Extra Tryz.prog Tryz.Nx:={
 sizeBuilder:=by kernel_rfl
 liesBuilder:=by kernel_rfl
 t5:=Tryz.underlying5
 a5:=Tryz.isAgg5
 z5:=Tryz.sizeOf5
 v5:=Tryz.zeroValue5
 infoByte:=by kernel_rfl
 cellsByte:=by kernel_rfl
 sizeByte:=by kernel_rfl
 neB5:=by decide}
end Go.Proofs
end
namespace Go.Sh
section
open Go.Proofs
open Go.RowKit (Below)
def ground:Ground where
 p:=fun _ B w=>0<B/\∃m,w.cell? ⟨0,0,none⟩=some (.int .i64 m)
 st:=fun _ _ _ _ _ h _ hb=>⟨h.1,h.2.elim fun m hm=>⟨m,(hb.cell (p:=⟨0,0,none⟩) h.1).trans hm⟩⟩
theorem Th:ground.up:=fun _ _ _ _ _ h _ hp=>⟨Nat.lt_of_lt_of_le hp.1 h,hp.2⟩
def pC (P:Program) (f:FuncId) (g:List SV->ag->Option (SV×ag)):Prop:=
 jF P f=true/\∀args H v H',g args H=some (v,H')->∀φ B w (args':Array Value),aE φ args args'.toList->HG ground φ B H w->Calls P f args' w (uM φ B H w v H')
theorem aaP (a b:UInt8):Nat.beq a.toNat b.toNat=(a==b):=by
 rw[Bool.eq_iff_iff,Nat.beq_eq,beq_iff_eq];exact⟨fun h=>UInt8.toNat.inj h,fun h=>by rw[h]⟩
theorem N7:∀(sub s:List UInt8),pre (sub.map UInt8.toNat) (s.map UInt8.toNat)=sub.isPrefixOf s
 |[],_=>by simp[pre]
 |_::_,[]=>by simp[pre]
 |a::l,b::s=>by
  simp only[List.map_cons,pre,aaP,N7 l s,List.isPrefixOf]
theorem af0 (sub:List Nat) (i:Nat):jy [] sub i=match pre sub []with|true=>Int.ofNat i|false=> -1:=by
 rw[jy.eq_def];cases h:pre sub []<;>simp[h]
theorem afY (b:Nat) (s sub:List Nat) (i:Nat):jy (b::s) sub i=match pre sub (b::s)with|true=>Int.ofNat i|false=>jy s sub (i+1):=by
 rw[jy.eq_def];cases h:pre sub (b::s)<;>simp[h]
theorem VW:∀(s sub:List UInt8) (i:Nat),jy (s.map UInt8.toNat) (sub.map UInt8.toNat) i=if Lib.index s sub== -1 then -1 else Lib.index s sub+i
 |[],sub,i=>by
  have h:=N7 sub [];rw[List.map_nil]at h;rw[List.map_nil,af0,h,Lib.index];cases sub with
  |nil=>simp
  |cons a l=>simp
 |b::s,sub,i=>by
  have h:=N7 sub (b::s);rw[List.map_cons]at h;rw[List.map_cons,afY,h,VW s sub (i+1),Lib.index];cases h:sub.isPrefixOf (b::s)with
  |true=>simp
  |false=>
   have hg:=Lib.index_ge s sub;simp only[Bool.false_eq_true,if_false];by_cases h1:Lib.index s sub= -1
   ·simp[h1]
   ·have h2:¬Lib.index s sub+1= -1:=om;simp only[beq_iff_eq,h1,h2,if_false];omega
theorem afZ (s sub:List UInt8):jy (s.map UInt8.toNat) (sub.map UInt8.toNat) 0=Lib.index s sub:=by
 rw[VW];split
 ·rename_i h;exact(eq_of_beq h).symm
 ·simp
theorem Ww {P:Program} {f:FuncId} (he:jF P f=true)
 (hc:∀(s sub:ByteArray) (m:Int) (w:World),s.size<4294967281->w.cell? ⟨0,0,none⟩=some (.int .i64 m)->Calls P f #[.string s,.string sub] w fun e w'=>e=.returned (.int .i64 (Lib.index s.data.toList sub.data.toList))/\w'=w):
 pC P f sQ:=by
 refine⟨he,fun args H v H' hv φ B w args' ha hh=>?_⟩;unfold sQ at hv;split at hv
 ·rename_i s sub;split at hv
  ·rename_i hlt;cases hv;obtain⟨l⟩:=args';cases ha with
   |cons h1 h2=>
    cases h2 with
    |cons h3 h4=>
     cases h4;cases h1 with
     |str h5=>
      cases h3 with
      |str h6=>
       rename_i a b;subst h5 h6;obtain⟨_,m,hm⟩:=hh.2;refine(hc a b m w ?_ hm).mono ?_
       ·rw[Nat.blt_eq,List.length_map]at hlt;exact hlt
       ·rintro e w' ⟨rfl,rfl⟩;rw[afZ];exact⟨Nat.le_refl _,φ,_,aI.ext.refl φ _,rfl,.int _ _,hh.1,Below.refl _ _⟩
  ·cases hv
 ·cases hv
def NG (b:ByteArray):List Nat:=b.data.toList.map UInt8.toNat
theorem Yz {φ:aI}:∀{cs:List SV} {xs:List (List Nat)} {f:Nat->Option Value},HQ cs=some xs->(∀i x,cs[i]? =some x->∃v,f i=some v/\VR φ x v)->
 ∃bs:List ByteArray,bs.length=cs.length/\xs=bs.map NG/\∀i b,bs[i]? =some b->f i=some (.string b)
 |[],_,_,h,_=>by
  cases h;exact⟨[],rfl,rfl,fun i b h=>by simp at h⟩
 |c::cs,xs,f,h,hf=>by
  obtain⟨v,hv,hr⟩:=hf 0 c rfl;cases c with
  |str s=>
   simp only[HQ]at h;split at h
   ·rename_i r hs;cases h;obtain⟨bs,h1,h2,h3⟩:=Yz (f:=fun i=>f (i+1)) hs fun i x hx=>hf (i+1) x hx
    cases hr with
    |str hr=>
     rename_i b;refine⟨b::bs,by simp[h1],by rw[List.map_cons,<-h2,hr];rfl,fun i b' hb=>?_⟩;cases i with
     |zero=>cases hb;exact hv
     |succ i=>exact h3 i b' hb
   ·cases h
  |_=>cases h
theorem af1 (sep:List UInt8) (bs:List ByteArray):Gn (sep.map UInt8.toNat) (bs.map NG)=(Lib.join (bs.map (·.data.toList)) sep).map UInt8.toNat:=by
 cases bs with
 |nil=>rfl
 |cons b r=>
  rw[List.map_cons,List.map_cons,Lib.join_cons,Gn,List.map_append,Lib.joinTail,List.map_flatten];congr 2;simp only[List.map_map];apply List.map_congr_left;intro x _;simp[NG]
theorem ag5 {P:Program} {f:FuncId} (he:jF P f=true)
 (h0:∀(a:Option Addr) (c:Nat) (sep:ByteArray) (w:World),Calls P f #[.slice a 0 c,.string sep] w fun e w'=>e=.returned (.string ⟨#[]⟩)/\w'=w)
 (hj:∀(bk o c:Nat) (xs:List ByteArray) (sep:ByteArray) (w:World),(∀(j:Nat) x,xs[j]? =some x->w.cell? ⟨bk,o+j,none⟩=some (.string x))->bk<w.heap.size->xs.length<=140737488355328->xs.length<=c->
  (Lib.join (xs.map (·.data.toList)) sep.data.toList).length<=140737488355328->
  Calls P f #[.slice (some ⟨bk,o,none⟩) xs.length c,.string sep] w fun e w'=>e=.returned (.string ⟨(Lib.join (xs.map (·.data.toList)) sep.data.toList).toArray⟩)/\Below w.heap.size w w'):
 pC P f GH:=by
 refine⟨he,fun args H v H' hv φ B w args' ha hh=>?_⟩;unfold GH at hv;split at hv
 ·rename_i b n c sep;split at hv
  ·rename_i cs e ex ro frz hb;split at hv
   ·rename_i hn;simp only[Bool.and_eq_true,Nat.blt_eq,Nat.beq_eq]at hn;obtain⟨ca,dc⟩:=hn;split at hv
    ·rename_i xs vy;split at hv
     ·rename_i kI;cases hv;rw[Nat.blt_eq]at kI;obtain⟨l⟩:=args';cases ha with
      |cons h1 h2=>
       cases h2 with
       |cons h3 h4=>
        cases h4;cases h3 with
        |str h6=>
         rename_i sp;subst h6;cases h1 with
         |slice k1 k2 k3 k4=>
          rename_i cap l;have ho:=hh.1.obj b l k1;have hd:=hh.1.dD b l k1;rw[hb]at ho;cases ho with
          |row q1 q2 q3 q4 q5 q6 q7=>
           rename_i C lo hi;obtain⟨bs,b1,b2,b3⟩:=Yz vy q3;subst b2;rw[af1]at kI ⊢;rw[List.length_map]at kI;obtain rfl:n=bs.length:=om;refine(hj l.rb (l.base+0) cap bs sp w (fun j x hx=>?_) hd.2 om k3 om).mono ?_
           ·rw[wy w l.rb _ C e (lo,hi) q1,Nat.add_zero];exact b3 j x hx
           ·rintro e' w' ⟨rfl,eI⟩;exact⟨Nat.le_refl _,φ,_,aI.ext.refl φ _,rfl,.str rfl,hh.1.world eI.size fun k hk=>eI.block k hk,eI.mono hh.1.sz⟩
         |kQ k1=>
          rename_i cap;obtain rfl:cs=[]:=List.length_eq_zero_iff.1 dc;cases vy;refine(h0 _ _ _ w).mono ?_;rintro e' w' ⟨rfl,rfl⟩;exact⟨Nat.le_refl _,φ,_,aI.ext.refl φ _,rfl,.str rfl,hh.1,Below.refl _ _⟩
     ·cases hv
    ·cases hv
   ·cases hv
  ·cases hv
 ·cases hv
theorem Xl (x:UInt8):∀c,(Lib.repeatL [x] c).map UInt8.toNat=List.replicate c x.toNat
 |0=>rfl
 |c+1=>by rw[Lib.repeatL,List.map_append,Xl x c,List.replicate_succ];rfl
theorem ag7 {P:Program} {f:FuncId} (he:jF P f=true)
 (hc:∀(s:ByteArray) (c:Nat) (w:World),c<=9223372036854775807->s.size*c<=140737488355328->Calls P f #[.string s,.int .i64 c] w fun e w'=>e=.returned (.string ⟨(Lib.repeatL s.data.toList c).toArray⟩)/\Below w.heap.size w w'):
 pC P f Ag:=by
 refine⟨he,fun args H v H' hv φ B w args' ha hh=>?_⟩;unfold Ag at hv;split at hv
 ·rename_i b n;split at hv
  ·rename_i hlt;cases hv;rw[Nat.blt_eq]at hlt;obtain⟨l⟩:=args';cases ha with
   |cons h1 h2=>
    cases h2 with
    |cons h3 h4=>
     cases h4;cases h3;cases h1 with
     |str h5=>
      rename_i s;obtain⟨x,hx,hb⟩:∃x,s.data.toList=[x]/\b=x.toNat:=by
       match s.data.toList,h5 with
       |[x],h5=>exact⟨x,rfl,by simpa using h5⟩
       |[],h5=>simp at h5
       |x::y::r,h5=>simp at h5
      have dY:s.size=1:=by
       have:s.data.toList.length=1:=by rw[hx];rfl
       simpa using this
      refine(hc s n w om (by rw[dY];omega)).mono ?_;rintro e' w' ⟨rfl,eI⟩;refine⟨Nat.le_refl _,φ,_,aI.ext.refl φ _,rfl,.str ?_,hh.1.world eI.size fun k hk=>eI.block k hk,eI.mono hh.1.sz⟩;rw[hx,hb];exact(Xl x n).symm
  ·cases hv
 ·cases hv
end
section
open Go.Proofs
open Go Go.RowKit Go.Maps Go.Sort Go.Shelf
theorem Wv:pC Tryz.prog 91 sQ:=
 Ww (by kernel_rfl) fun s sub m w hs hm=>Any.strings_Index (ρ:=Tryz.Nz) {Tryz.Ny with} s sub m w hs hm
theorem Wt:pC Tryz.prog 165 sQ:=
 Ww (by kernel_rfl) fun s sub m w hs hm=>Any.stringslite_Index (ρ:=Tryz.Nz) {Tryz.Ny with} s sub m w hs hm
theorem ag2:pC Tryz.prog 123 GH:=
 ag5 (by kernel_rfl) (fun a c sep w=>Any.strings_Join_none (ρ:=Tryz.Gw) Tryz.V1 Tryz.SW a c sep w)
  fun bk o c xs sep w h1 h2 h3 h4 h5=>Any.strings_Join (ρ:=Tryz.Gw) Tryz.V1 Tryz.SW bk o c xs sep w h1 h2 h3 h4 h5
theorem Wu:pC Tryz.prog 278 Ag:=
 ag7 (by kernel_rfl) fun s c w h1 h2=>Any.strings_Repeat (ρ:=Tryz.Nx) Tryz.agD Tryz.acI s c w h1 h2
theorem akA (m:Nat):AnyZ.SortsIn Tryz.prog Tryz.Yh Fence.wide m:=
 ⟨fun oP off cap ss W hH ad4 dY=>callsIn_wide.2 (AnyM.slices_Sort_string Tryz.Yg oP off cap ss W hH ad4 dY),
  fun p cap W=>callsIn_wide.2 (AnyM.slices_Sort_string_none Tryz.Yg p cap W)⟩
theorem ag3:pC Tryz.prog 468 NQ:=by
 refine⟨by kernel_rfl,fun args H v H' hv φ B w args' ha hh=>?_⟩;unfold NQ at hv;split at hv
 ·rename_i b;split at hv
  ·rename_i m e ro frz hb;split at hv
   ·rename_i ck hm;cases hv;obtain⟨l⟩:=args';cases ha with
    |cons h1 h2=>
     cases h2;cases h1 with
     |func h3 h4=>
      rename_i us vs;obtain⟨us⟩:=us;obtain⟨vs⟩:=vs;cases h3;cases h4 with
      |cons h5 h6=>
       cases h6;cases h5 with
       |ptr h7=>
        rename_i l;have ho:=hh.1.obj b l h7;have hd:=hh.1.dD b l h7;rw[hb]at ho;cases ho with
        |row k1 k2 k3 k4 k5 k6 k7=>
         obtain⟨u,hu,xI⟩:=k3 0 _ rfl;obtain⟨q1,q2⟩:=k5 rfl;cases xI with
         |map h8=>
          rename_i lm;have ig:=hh.1.obj m lm h8;rw[hm]at ig;cases ig with
          |map r1 r2 r3 r4=>
           rename_i ek;have tX:ek=#[]:=Array.size_eq_zero_iff.1 r2.symm
           subst tX;have hcell:w.cell? ⟨l.rb,0,none⟩=some (.map (some lm.rb)):=by
            rw[q1]at hu;exact(wy w l.rb 0 _ _ _ k1).trans hu
           have pf:w.ownsMap (H:=Unit) Tryz.prog (Tryz.Nn.t 26) (fun _=>none) lm.rb 0 (.map []):=⟨#[],ck,r1,⟨by simp,MapKept.stamped_empty ck,by simp⟩,Nat.le_refl _,rfl⟩
           have afk:SeqGives Fence.wide 2 Tryz.prog 509 #[.pointer (some ⟨l.rb,0,none⟩)] encStr (fun ss=>ss.Perm (strKeys (H:=Unit) (.map []))) (Maps.size (H:=Unit) (.map [])) w:=
            AnyZ.keys_gives (ρ:=Tryz.Nn) {Tryz.agA with} Fence.wide _ trivial rfl om l.rb lm.rb 0 (.map []) w hd.2 hcell pf
           have cS:=AnyZ.sorted_in Tryz.akz Fence.wide 5 trivial trivial trivial trivial rfl om (akA _) (enters_of Tryz.func33 (by kernel_rfl) rfl) 509 #[.pointer (some ⟨l.rb,0,none⟩)] trivial (enters_of Tryz.func509 (by kernel_rfl) rfl) _ _ (Nat.zero_le _) (by decide) w afk
           change CallsIn _ _ Tryz.prog 468 _ _ _ at cS;have c2:=callsIn_wide.1 cS;rw[q1];refine Calls.mono c2 ?_;rintro e2 w' ⟨v,ss,rfl,hp,_,hn,eo⟩;obtain rfl:=hn.2 (List.Perm.eq_nil hp);exact⟨Nat.le_refl _,φ,_,aI.ext.refl φ _,rfl,.ao,hh.1.world eo.size eo.block,eo.mono hh.1.sz⟩
   ·cases hv
  ·cases hv
 ·cases hv
theorem d203:jF Tryz.prog 203=true/\∀args,(fun _:List SV=>true) args=true->∀φ B H w (args':Array Value),aE φ args args'.toList->HG ground φ B H w->CallsD Tryz.prog 203 args' .returning w (A0 φ B H w H):=by
 refine⟨by kernel_rfl,fun args _ φ B H w args' _ hh=>?_⟩;refine callsD_of_wpS Tryz.func203 rfl fun acb cs hu=>?_
 obtain⟨A,hA⟩:∃A,args'++Array.replicate (Tryz.f203.ntmps-args'.size) Go.undef=A:=⟨_,rfl⟩;have hs:15<=A.size:=by
  rw[<-hA,Array.size_append,Array.size_replicate];have:Tryz.f203.ntmps=15:=rfl;omega
 rw[hA];apply wpS_seq;apply wpS_region;simp[wpOpsS,go_sem,recoverD,hu,Exit.thenS];rw[if_pos (by omega:4<A.size)];obtain⟨A2,wP⟩:∃A2,(A.setIfInBounds 4 Value.nilIface).setIfInBounds 1 Value.nilIface=A2:=⟨_,rfl⟩;have oe:15<=A2.size:=by
  rw[<-wP,Array.size_setIfInBounds,Array.size_setIfInBounds];exact hs
 have tF:A2[1]? =some Value.nilIface:=by
  rw[<-wP,Array.getElem?_setIfInBounds,if_pos rfl,if_pos (by rw[Array.size_setIfInBounds];omega)]
 rw[wP];apply wpS_seq;apply wpS_region;have h5:(if 5<A2.size then Value.nilIface else Go.undef)=Value.nilIface:=if_pos om;simp[wpOpsS,go_sem,Exit.thenS,tF,h5];refine wpS_cond (t:=false) (by simp[Act.eval];omega) ?_;simp only[Bool.false_eq_true,if_false];refine wpS_of_wp (wp_skip ?_);refine⟨rfl,.returning,?_,.tuple #[],?_,rfl,Nat.le_refl _,φ,_,aI.ext.refl φ _,rfl,hh.1,Below.refl _ _⟩
 ·cases acb;cases hu;rfl
 ·simp[results]
end
section
open Go.Proofs
def qx (p:Nat×dM):Prop:=match p.2 with
 |.code c=>yT p.1=some c
 |.native g=>pC Tryz.prog p.1 g
 |.qF g=>jF Tryz.prog p.1=true/\∀args,g args=true->∀φ B H w (args':Array Value),aE φ args args'.toList->HG ground φ B H w->CallsD Tryz.prog p.1 args' .returning w (A0 φ B H w H)
theorem SF {l:List (Nat×dM)} (hl:∀p∈l,qx p) (c:List (Σf,iv f)):∀p∈l++Kt c,qx p:=fun p h=>(List.mem_append.1 h).elim (hl p) fun h=>by
 obtain⟨e,_,rfl⟩:=List.mem_map.1 h;exact e.2.2
theorem SE:∀p∈([]:List (Nat×dM)),qx p:=fun _ h=>(by cases h)
theorem acq {f:Nat} {g:List SV->Bool} {l:List (Nat×dM)} (h:qx (f,.qF g)) (hl:∀p∈l,qx p):∀p∈(f,dM.qF g)::l,qx p:=List.forall_mem_cons.2 ⟨h,hl⟩
theorem sh {f:Nat} {g:List SV->ag->Option (SV×ag)} {l:List (Nat×dM)} (h:pC Tryz.prog f g) (hl:∀p∈l,qx p):∀p∈(f,dM.native g)::l,qx p:=List.forall_mem_cons.2 ⟨h,hl⟩
theorem abW {f:FuncId} {sf:s9} (h:yT f=some sf):∃fn,Tryz.prog.funcs[f]? =some fn/\Bg Tryz.prog fn=some sf/\(fn.name== "runtime.NumGoroutine")=false:=by
 unfold yT at h;split at h
 ·rename_i fn hfn;split at h
  ·cases h
  ·rename_i hn;exact⟨fn,hfn,h,hn⟩
 ·cases h
theorem alF (m:Nat) (b:dM) (l:List (Nat×dM)):uI ((m,b)::l)=(uI l).put m b:=by
 show rR (lu m) (uI l) b=_;unfold lu;rw[uA _ _ _ _ (Nat.lt_succ_self _)];rfl
theorem YN:∀(l:List (Nat×dM)) (n:Nat) (a:dM),(uI l).get n=some a->(n,a)∈l
 |[],n,a,h=>by
  have e:uI []=.leaf:=rfl;rw[e]at h;cases n<;>simp[Tr.get]at h
 |(m,b)::l,n,a,h=>by
  rw[alF,Tr.mV]at h;split at h
  ·rename_i e;cases h;subst e;exact List.mem_cons_self ..
  ·exact List.mem_cons_of_mem _ (YN l n a h)
theorem OS {l:List (Nat×dM)} {f:FuncId} {x:dM} (h:Dt (uI l) f=some x):(f,x)∈l:=by
 rw[alk]at h;exact YN _ _ _ h
theorem YF {l:List (Nat×dM)} (hl:∀p∈l,qx p):yH ground Tryz.prog (Dt (uI l)) where
 code:=fun _ _ h=>abW (hl _ (OS h))
 native:=fun _ _ h=>hl _ (OS h)
 qF:=fun _ _ h=>hl _ (OS h)
theorem Wk:Tryz.prog.follows .mixedOrders=true:=by kernel_rfl
theorem aco:∀p∈YD,qx p:=
 SF (sh Wv<|sh Wt<|sh ag3<|sh ag2<|sh Wu<|acq (g:=fun _=>true) d203 SE) _
theorem alj:yH ground Tryz.prog Ds:=YF aco
theorem RU:lV ground Tryz.prog ei:=X9 Wk alj 1000 30
theorem acU {f:FuncId} (he:jF Tryz.prog f=true):pC Tryz.prog f (gk ei h0 f):=
 ⟨he,fun _ _ _ _ hv φ B w args' ha hh=>ag4 Th RU hv φ B w args' ha hh⟩
theorem agW {f:FuncId} (he:jF Tryz.prog f=true):pC Tryz.prog f (pq ei h0 f):=
 ⟨he,fun _ _ _ _ hv φ B w args' ha hh=>ag6 Th RU hv φ B w args' ha hh⟩
theorem acp:∀p∈YE,qx p:=by
 refine SF (sh Wv<|sh Wt<|sh Wu ?_) _
 iterate 12 refine sh (acU (by kernel_rfl)) ?_
 iterate 3 refine sh (agW (by kernel_rfl)) ?_
 exact SE
theorem aln:yH ground Tryz.prog ak:=YF acp
end
end Go.Sh

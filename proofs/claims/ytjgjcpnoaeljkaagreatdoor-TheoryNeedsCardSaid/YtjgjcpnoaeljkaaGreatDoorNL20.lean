/- Part of the proof of TheoryNeeds: layer. -/
import Derived.Shelf.SlGeneric
import Derived.Shelf.Strings.FuncGrows
import Derived.Shelf.SlIterI.Nil
import Derived.Shelf.SortM.Plain
import Derived.Shelf.SortM.SortNone
import Derived.Ground.GgzProg
import Derived.Ground.SlgmProg
import Derived.Test.YtjgjcpnoaeljkaaGreatDoorProg
import Derived.Test.YtjgjcpnoaeljkaaGreatDoorNL19
set_option linter.all false
namespace Go.Proofs
open Go.Shelf
def Tryz.Ml:Go.Shelf.Ren:=⟨λ|272=>139|315=>192|n=>n,λ|9=>9|40=>152|4=>4|3=>3|0=>0|21=>21|n=>n,λ|n=>n⟩
def Tryz.Yk:Go.Proofs.Lays.n272 Tryz.prog Tryz.Ml:={
 mixed:=by kernel_rfl
 f272:=Tryz.func139.trans (congrArg some (by kernel_rfl))
 f315:=Tryz.func192.trans (congrArg some (by kernel_rfl))
 t0:=Tryz.underlying0
 a0:=Tryz.isAgg0
 z0:=Tryz.sizeOf0
 v0:=Tryz.zeroValue0
 t3:=Tryz.underlying3
 a3:=Tryz.isAgg3
 z3:=Tryz.sizeOf3
 v3:=Tryz.zeroValue3
 t4:=Tryz.underlying4
 a4:=Tryz.isAgg4
 z4:=Tryz.sizeOf4
 v4:=Tryz.zeroValue4
 t9:=Tryz.underlying9
 a9:=Tryz.isAgg9
 z9:=Tryz.sizeOf9
 v9:=Tryz.zeroValue9
 t21:=Tryz.underlying21
 a21:=Tryz.isAgg21
 z21:=Tryz.sizeOf21
 v21:=Tryz.zeroValue21
 t40:=Tryz.underlying152
 a40:=Tryz.isAgg152
 z40:=Tryz.sizeOf152
 v40:=Tryz.zeroValue152}
open Go.RowKit Go.Lib in
def Tryz.strings_TrimLeftFunc_grows(g:Nat)(a:Array Value)(b:∀args w,(callFunc g args).run Tryz.prog w=.ok (.enter g args) w)(p:Nat->Bool)(s:ByteArray)(w:World)(c:PredGrows Tryz.prog g a p w):Calls Tryz.prog 139 #[.string s,.func (.func g) #[] a] w λe w'=>e=.returned (.string (Lib.trimLeftF p s))/\Below w.heap.size w w':=Any.strings_TrimLeftFunc_grows Tryz.Yk g a b p s w c
def Tryz.Jb:Go.Shelf.Ren:=⟨λ|7=>137|10=>189|n=>n,λ|23=>101|26=>3|3=>4|28=>198|0=>0|27=>197|33=>114|4=>4|n=>n,λ|n=>n⟩
def Tryz.gG:Go.Proofs.SlLaysZI.n7 Tryz.prog Tryz.Jb:={
 mixed:=by kernel_rfl
 f7:=⟨Tryz.f137.name,aaB,Tryz.func137.trans (congrArg some (by kernel_rfl))⟩
 f10:=⟨Tryz.f189.name,aaB,Tryz.func189.trans (congrArg some (by kernel_rfl))⟩
 t0:=Tryz.underlying0
 a0:=Tryz.isAgg0
 z0:=Tryz.sizeOf0
 v0:=Tryz.zeroValue0
 t4:=Tryz.underlying4
 a4:=Tryz.isAgg4
 z4:=Tryz.sizeOf4
 v4:=Tryz.zeroValue4
 t23:=Tryz.underlying101
 a23:=Tryz.isAgg101
 z23:=Tryz.sizeOf101
 v23:=Tryz.zeroValue101
 t26:=Tryz.underlying3
 a26:=Tryz.isAgg3
 z26:=Tryz.sizeOf3
 v26:=Tryz.zeroValue3
 t27:=Tryz.underlying197
 a27:=Tryz.isAgg197
 z27:=Tryz.sizeOf197
 v27:=Tryz.zeroValue197
 t28:=Tryz.underlying198
 a28:=Tryz.isAgg198
 z28:=Tryz.sizeOf198
 v28:=Tryz.zeroValue198
 t33:=Tryz.underlying114
 a33:=Tryz.isAgg114
 z33:=Tryz.sizeOf114
 v33:=Tryz.zeroValue114}
def Tryz.DM:Go.Shelf.Ren:=⟨λ|6=>136|8=>187|9=>188|11=>238|13=>240|12=>239|23=>281|24=>282|14=>272|15=>273|16=>274|17=>275|18=>276|19=>277|20=>278|21=>279|22=>280|25=>310|26=>311|27=>312|28=>313|29=>314|30=>315|31=>331|n=>n,λ|26=>3|28=>198|24=>22|0=>0|3=>3|37=>251|48=>163|50=>296|4=>4|40=>289|39=>288|45=>55|5=>5|9=>9|51=>324|55=>328|57=>338|58=>332|33=>114|n=>n,λ|n=>n⟩
def Tryz.XB:Go.Proofs.SlLaysZI.n6 Tryz.prog Tryz.DM:={
 mixed:=by kernel_rfl
 f6:=⟨Tryz.f136.name,aaB,Tryz.func136.trans (congrArg some (by kernel_rfl))⟩
 f8:=⟨Tryz.f187.name,aaB,Tryz.func187.trans (congrArg some (by kernel_rfl))⟩
 f11:=⟨Tryz.f238.name,aaB,Tryz.func238.trans (congrArg some (by kernel_rfl))⟩
 t0:=Tryz.underlying0
 a0:=Tryz.isAgg0
 z0:=Tryz.sizeOf0
 v0:=Tryz.zeroValue0
 t24:=Tryz.underlying22
 a24:=Tryz.isAgg22
 z24:=Tryz.sizeOf22
 v24:=Tryz.zeroValue22
 t26:=Tryz.underlying3
 a26:=Tryz.isAgg3
 z26:=Tryz.sizeOf3
 v26:=Tryz.zeroValue3
 t28:=Tryz.underlying198
 a28:=Tryz.isAgg198
 z28:=Tryz.sizeOf198
 v28:=Tryz.zeroValue198
 i26:=by kernel_rfl}
def Tryz.RQ:Go.Shelf.Ren:=⟨λ|5=>188|8=>240|7=>239|19=>281|20=>282|10=>272|11=>273|12=>274|13=>275|14=>276|15=>277|16=>278|17=>279|18=>280|30=>310|31=>311|32=>312|33=>313|34=>314|35=>315|40=>331|n=>n,λ|23=>22|25=>3|3=>3|32=>251|22=>22|0=>0|44=>163|46=>296|4=>4|36=>289|35=>288|41=>55|5=>5|9=>9|53=>324|57=>328|63=>338|64=>332|n=>n,λ|n=>n⟩
def Tryz.Zt:Go.Proofs.SlLaysM.n5 Tryz.prog Tryz.RQ:={
 mixed:=by kernel_rfl
 f5:=⟨Tryz.f188.name,aaB,Tryz.func188.trans (congrArg some (by kernel_rfl))⟩
 f7:=⟨Tryz.f239.name,aaB,Tryz.func239.trans (congrArg some (by kernel_rfl))⟩
 f8:=Tryz.func240.trans (congrArg some (by kernel_rfl))
 f10:=⟨Tryz.f272.name,aaB,Tryz.func272.trans (congrArg some (by kernel_rfl))⟩
 f11:=⟨Tryz.f273.name,aaB,Tryz.func273.trans (congrArg some (by kernel_rfl))⟩
 f12:=⟨Tryz.f274.name,aaB,Tryz.func274.trans (congrArg some (by kernel_rfl))⟩
 f13:=⟨Tryz.f275.name,aaB,Tryz.func275.trans (congrArg some (by kernel_rfl))⟩
 f14:=⟨Tryz.f276.name,aaB,Tryz.func276.trans (congrArg some (by kernel_rfl))⟩
 f15:=⟨Tryz.f277.name,aaB,Tryz.func277.trans (congrArg some (by kernel_rfl))⟩
 f16:=⟨Tryz.f278.name,aaB,Tryz.func278.trans (congrArg some (by kernel_rfl))⟩
 f17:=⟨Tryz.f279.name,aaB,Tryz.func279.trans (congrArg some (by kernel_rfl))⟩
 f18:=⟨Tryz.f280.name,aaB,Tryz.func280.trans (congrArg some (by kernel_rfl))⟩
 f19:=Tryz.func281.trans (congrArg some (by kernel_rfl))
 f20:=Tryz.func282.trans (congrArg some (by kernel_rfl))
 f30:=⟨Tryz.f310.name,aaB,Tryz.func310.trans (congrArg some (by kernel_rfl))⟩
 f31:=Tryz.func311.trans (congrArg some (by kernel_rfl))
 f32:=Tryz.func312.trans (congrArg some (by kernel_rfl))
 f33:=⟨Tryz.f313.name,aaB,Tryz.func313.trans (congrArg some (by kernel_rfl))⟩
 f34:=⟨Tryz.f314.name,aaB,Tryz.func314.trans (congrArg some (by kernel_rfl))⟩
 f35:=⟨Tryz.f315.name,aaB,Tryz.func315.trans (congrArg some (by kernel_rfl))⟩
 f40:=⟨Tryz.f331.name,aaB,Tryz.func331.trans (congrArg some (by kernel_rfl))⟩
 t0:=Tryz.underlying0
 a0:=Tryz.isAgg0
 z0:=Tryz.sizeOf0
 v0:=Tryz.zeroValue0
 t3:=Tryz.underlying3
 a3:=Tryz.isAgg3
 z3:=Tryz.sizeOf3
 v3:=Tryz.zeroValue3
 t4:=Tryz.underlying4
 a4:=Tryz.isAgg4
 z4:=Tryz.sizeOf4
 v4:=Tryz.zeroValue4
 t5:=Tryz.underlying5
 a5:=Tryz.isAgg5
 z5:=Tryz.sizeOf5
 v5:=Tryz.zeroValue5
 t9:=Tryz.underlying9
 a9:=Tryz.isAgg9
 z9:=Tryz.sizeOf9
 v9:=Tryz.zeroValue9
 t22:=Tryz.underlying22
 a22:=Tryz.isAgg22
 z22:=Tryz.sizeOf22
 v22:=Tryz.zeroValue22
 t23:=Tryz.underlying22
 a23:=Tryz.isAgg22
 z23:=Tryz.sizeOf22
 v23:=Tryz.zeroValue22
 t25:=Tryz.underlying3
 a25:=Tryz.isAgg3
 z25:=Tryz.sizeOf3
 v25:=Tryz.zeroValue3
 t32:=Tryz.underlying251
 a32:=Tryz.isAgg251
 z32:=Tryz.sizeOf251
 v32:=Tryz.zeroValue251
 t35:=Tryz.underlying288
 a35:=Tryz.isAgg288
 z35:=Tryz.sizeOf288
 v35:=Tryz.zeroValue288
 t36:=Tryz.underlying289
 a36:=Tryz.isAgg289
 z36:=Tryz.sizeOf289
 v36:=Tryz.zeroValue289
 t41:=Tryz.underlying55
 a41:=Tryz.isAgg55
 z41:=Tryz.sizeOf55
 v41:=Tryz.zeroValue55
 t44:=Tryz.underlying163
 a44:=Tryz.isAgg163
 z44:=Tryz.sizeOf163
 v44:=Tryz.zeroValue163
 t46:=Tryz.underlying296
 a46:=Tryz.isAgg296
 z46:=Tryz.sizeOf296
 v46:=Tryz.zeroValue296
 t53:=Tryz.underlying324
 a53:=Tryz.isAgg324
 z53:=Tryz.sizeOf324
 v53:=Tryz.zeroValue324
 t57:=Tryz.underlying328
 a57:=Tryz.isAgg328
 z57:=Tryz.sizeOf328
 v57:=Tryz.zeroValue328
 t63:=Tryz.underlying338
 a63:=Tryz.isAgg338
 z63:=Tryz.sizeOf338
 v63:=Tryz.zeroValue338
 t64:=Tryz.underlying332
 a64:=Tryz.isAgg332
 z64:=Tryz.sizeOf332
 v64:=Tryz.zeroValue332}
end Go.Proofs

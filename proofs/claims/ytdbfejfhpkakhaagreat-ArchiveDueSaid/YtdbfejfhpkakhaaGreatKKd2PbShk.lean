/- Contracts and plain laws that the last text rests on. Conditions: each theorem states its own. -/
import Derived.Shelf.SlGeneric
import Derived.Shelf.SlIter.Nil
import Derived.Ground.GgzProg
import Derived.Test.YtdbfejfhpkakhaaGreatProg
set_option maxRecDepth 100000
set_option linter.unusedVariables false
set_option linter.unusedSimpArgs false
namespace Go.Proofs.YtdbfejfhpkakhaaGreat
open Go.Shelf
def Tryz.keysB_ren:Go.Shelf.Ren:=⟨fun|7=>58|10=>81|n=>n,fun|23=>102|26=>9|3=>116|28=>130|0=>0|27=>129|33=>72|4=>4|n=>n,fun|n=>n⟩
theorem Tryz.keysB:Go.Proofs.SlLaysZ.n7 Tryz.prog Tryz.keysB_ren:={
 mixed:=by kernel_rfl
 f7:=⟨Tryz.f58.name,by decide,Tryz.func58.trans (congrArg some (by kernel_rfl))⟩
 f10:=⟨Tryz.f81.name,by decide,Tryz.func81.trans (congrArg some (by kernel_rfl))⟩
 t0:=Tryz.underlying0
 a0:=Tryz.isAgg0
 z0:=Tryz.sizeOf0
 v0:=Tryz.zeroValue0
 t4:=Tryz.underlying4
 a4:=Tryz.isAgg4
 z4:=Tryz.sizeOf4
 v4:=Tryz.zeroValue4
 t23:=Tryz.underlying102
 a23:=Tryz.isAgg102
 z23:=Tryz.sizeOf102
 v23:=Tryz.zeroValue102
 t26:=Tryz.underlying9
 a26:=Tryz.isAgg9
 z26:=Tryz.sizeOf9
 v26:=Tryz.zeroValue9
 t27:=Tryz.underlying129
 a27:=Tryz.isAgg129
 z27:=Tryz.sizeOf129
 v27:=Tryz.zeroValue129
 t28:=Tryz.underlying130
 a28:=Tryz.isAgg130
 z28:=Tryz.sizeOf130
 v28:=Tryz.zeroValue130
 t33:=Tryz.underlying72
 a33:=Tryz.isAgg72
 z33:=Tryz.sizeOf72
 v33:=Tryz.zeroValue72}
def Tryz.sortedB_ren:Go.Shelf.Ren:=⟨fun|6=>57|8=>79|9=>80|11=>108|13=>110|12=>109|23=>160|24=>161|14=>151|15=>152|16=>153|17=>154|18=>155|19=>156|20=>157|21=>158|22=>159|25=>191|26=>192|27=>193|28=>194|29=>195|30=>115|31=>213|n=>n,fun|26=>9|28=>130|24=>22|0=>0|3=>3|37=>46|48=>139|50=>123|4=>4|40=>248|39=>247|45=>174|5=>5|9=>9|51=>280|55=>284|57=>301|58=>302|33=>72|n=>n,fun|n=>n⟩
theorem Tryz.sortedB:Go.Proofs.SlLaysZ.n6 Tryz.prog Tryz.sortedB_ren:={
 mixed:=by kernel_rfl
 f6:=⟨Tryz.f57.name,by decide,Tryz.func57.trans (congrArg some (by kernel_rfl))⟩
 f8:=⟨Tryz.f79.name,by decide,Tryz.func79.trans (congrArg some (by kernel_rfl))⟩
 f11:=⟨Tryz.f108.name,by decide,Tryz.func108.trans (congrArg some (by kernel_rfl))⟩
 t0:=Tryz.underlying0
 a0:=Tryz.isAgg0
 z0:=Tryz.sizeOf0
 v0:=Tryz.zeroValue0
 t24:=Tryz.underlying22
 a24:=Tryz.isAgg22
 z24:=Tryz.sizeOf22
 v24:=Tryz.zeroValue22
 t26:=Tryz.underlying9
 a26:=Tryz.isAgg9
 z26:=Tryz.sizeOf9
 v26:=Tryz.zeroValue9
 t28:=Tryz.underlying130
 a28:=Tryz.isAgg130
 z28:=Tryz.sizeOf130
 v28:=Tryz.zeroValue130
 i26:=by kernel_rfl}
end Go.Proofs.YtdbfejfhpkakhaaGreat

/- Contracts and plain laws that the last text rests on. Conditions: each theorem states its own. -/
import Derived.Shelf.SlGeneric
import Derived.Shelf.SlSortCmp.WholeK
import Derived.Ground.SlsfProg
import Derived.Test.YtpakjclpjcngmaaGreatProg
set_option maxRecDepth 100000
set_option linter.unusedVariables false
namespace Go.Proofs.YtpakjclpjcngmaaGreat
open Go.Shelf
def Tryz.sortG_ren:Go.Shelf.Ren:=⟨fun|6=>46|15=>112|14=>111|28=>186|29=>187|20=>178|21=>179|22=>180|23=>181|24=>182|25=>183|26=>184|27=>185|46=>229|47=>230|48=>231|49=>232|50=>233|57=>270|n=>n,fun|22=>47|24=>90|25=>92|3=>3|39=>62|0=>0|53=>104|55=>105|4=>4|46=>231|45=>230|50=>212|5=>5|9=>9|66=>274|70=>277|76=>310|77=>311|n=>n,fun|n=>n⟩
theorem Tryz.sortG:Go.Proofs.SlLaysF0.n6 Tryz.prog Tryz.sortG_ren:={
 mixed:=by kernel_rfl
 f6:=⟨Tryz.f46.name,by decide,Tryz.func46.trans (congrArg some (by kernel_rfl))⟩
 f14:=⟨Tryz.f111.name,by decide,Tryz.func111.trans (congrArg some (by kernel_rfl))⟩
 f15:=Tryz.func112.trans (congrArg some (by kernel_rfl))
 f20:=⟨Tryz.f178.name,by decide,Tryz.func178.trans (congrArg some (by kernel_rfl))⟩
 f21:=⟨Tryz.f179.name,by decide,Tryz.func179.trans (congrArg some (by kernel_rfl))⟩
 f22:=⟨Tryz.f180.name,by decide,Tryz.func180.trans (congrArg some (by kernel_rfl))⟩
 f23:=⟨Tryz.f181.name,by decide,Tryz.func181.trans (congrArg some (by kernel_rfl))⟩
 f24:=⟨Tryz.f182.name,by decide,Tryz.func182.trans (congrArg some (by kernel_rfl))⟩
 f25:=⟨Tryz.f183.name,by decide,Tryz.func183.trans (congrArg some (by kernel_rfl))⟩
 f26:=⟨Tryz.f184.name,by decide,Tryz.func184.trans (congrArg some (by kernel_rfl))⟩
 f27:=⟨Tryz.f185.name,by decide,Tryz.func185.trans (congrArg some (by kernel_rfl))⟩
 f28:=Tryz.func186.trans (congrArg some (by kernel_rfl))
 f29:=Tryz.func187.trans (congrArg some (by kernel_rfl))
 f46:=⟨Tryz.f229.name,by decide,Tryz.func229.trans (congrArg some (by kernel_rfl))⟩
 f47:=Tryz.func230.trans (congrArg some (by kernel_rfl))
 f48:=Tryz.func231.trans (congrArg some (by kernel_rfl))
 f49:=⟨Tryz.f232.name,by decide,Tryz.func232.trans (congrArg some (by kernel_rfl))⟩
 f50:=⟨Tryz.f233.name,by decide,Tryz.func233.trans (congrArg some (by kernel_rfl))⟩
 f57:=⟨Tryz.f270.name,by decide,Tryz.func270.trans (congrArg some (by kernel_rfl))⟩
 t0:=Tryz.underlying0
 a0:=Tryz.isAgg0
 z0:=Tryz.sizeOf0
 v0:=Tryz.zeroValue0
 t3:=Tryz.underlying3
 a3:=Tryz.isAgg3
 z3:=Tryz.sizeOf3
 v3:=Tryz.zeroValue3
 t4:=Tryz.underlying4
 a4:=Tryz.isAgg4
 z4:=Tryz.sizeOf4
 v4:=Tryz.zeroValue4
 t5:=Tryz.underlying5
 a5:=Tryz.isAgg5
 z5:=Tryz.sizeOf5
 v5:=Tryz.zeroValue5
 t9:=Tryz.underlying9
 a9:=Tryz.isAgg9
 z9:=Tryz.sizeOf9
 v9:=Tryz.zeroValue9
 t22:=Tryz.underlying47
 a22:=Tryz.isAgg47
 z22:=Tryz.sizeOf47
 v22:=Tryz.zeroValue47
 t25:=Tryz.underlying92
 a25:=Tryz.isAgg92
 z25:=Tryz.sizeOf92
 v25:=Tryz.zeroValue92
 t39:=Tryz.underlying62
 a39:=Tryz.isAgg62
 z39:=Tryz.sizeOf62
 v39:=Tryz.zeroValue62
 t45:=Tryz.underlying230
 a45:=Tryz.isAgg230
 z45:=Tryz.sizeOf230
 v45:=Tryz.zeroValue230
 t46:=Tryz.underlying231
 a46:=Tryz.isAgg231
 z46:=Tryz.sizeOf231
 v46:=Tryz.zeroValue231
 t50:=Tryz.underlying212
 a50:=Tryz.isAgg212
 z50:=Tryz.sizeOf212
 v50:=Tryz.zeroValue212
 t53:=Tryz.underlying104
 a53:=Tryz.isAgg104
 z53:=Tryz.sizeOf104
 v53:=Tryz.zeroValue104
 t55:=Tryz.underlying105
 a55:=Tryz.isAgg105
 z55:=Tryz.sizeOf105
 v55:=Tryz.zeroValue105
 t66:=Tryz.underlying274
 a66:=Tryz.isAgg274
 z66:=Tryz.sizeOf274
 v66:=Tryz.zeroValue274
 t70:=Tryz.underlying277
 a70:=Tryz.isAgg277
 z70:=Tryz.sizeOf277
 v70:=Tryz.zeroValue277
 t76:=Tryz.underlying310
 a76:=Tryz.isAgg310
 z76:=Tryz.sizeOf310
 v76:=Tryz.zeroValue310
 t77:=Tryz.underlying311
 a77:=Tryz.isAgg311
 z77:=Tryz.sizeOf311
 v77:=Tryz.zeroValue311}
end Go.Proofs.YtpakjclpjcngmaaGreat

/- Lemmas, layer 14. -/
import Derived.Shelf.SlSortCmp.WholeK
import Derived.Test.YtmbeahbgafkjfaaGreatDoorProg
set_option linter.unusedSimpArgs false
namespace Go.Proofs.YtmbeahbgafkjfaaGreatDoor
open Go.Proofs.Tryz
open Go.Shelf
def Jc1:Go.Shelf.Ren:=⟨fun | 6=>223 | 15=>227 | 14=>229 | 28=>238 | 29=>239 | 20=>241 | 21=>242 | 22=>243 | 23=>244 | 24=>245 | 25=>246 | 26=>247 | 27=>248 | 46=>254 | 47=>250 | 48=>251 | 49=>255 | 50=>256 | 57=>258 | n=>n,fun | 22=>23 | 24=>63 | 25=>252 | 3=>3 | 39=>186 | 0=>0 | 53=>266 | 55=>201 | 4=>4 | 46=>260 | 45=>259 | 50=>111 | 5=>5 | 9=>9 | 66=>273 | 70=>277 | 76=>281 | 77=>282 | n=>n,fun | n=>n⟩
theorem Jmx:Go.Proofs.SlLaysF0.n6 prog Jc1:={
 mixed:=by kernel_rfl
 f6:=⟨Tryz.f223.name,by decide,func223.trans (congrArg some (by kernel_rfl))⟩
 f14:=⟨Tryz.f229.name,by decide,func229.trans (congrArg some (by kernel_rfl))⟩
 f15:=func227.trans (congrArg some (by kernel_rfl))
 f20:=⟨Tryz.f241.name,by decide,func241.trans (congrArg some (by kernel_rfl))⟩
 f21:=⟨Tryz.f242.name,by decide,func242.trans (congrArg some (by kernel_rfl))⟩
 f22:=⟨Tryz.f243.name,by decide,func243.trans (congrArg some (by kernel_rfl))⟩
 f23:=⟨Tryz.f244.name,by decide,func244.trans (congrArg some (by kernel_rfl))⟩
 f24:=⟨Tryz.f245.name,by decide,func245.trans (congrArg some (by kernel_rfl))⟩
 f25:=⟨Tryz.f246.name,by decide,func246.trans (congrArg some (by kernel_rfl))⟩
 f26:=⟨Tryz.f247.name,by decide,func247.trans (congrArg some (by kernel_rfl))⟩
 f27:=⟨Tryz.f248.name,by decide,func248.trans (congrArg some (by kernel_rfl))⟩
 f28:=func238.trans (congrArg some (by kernel_rfl))
 f29:=func239.trans (congrArg some (by kernel_rfl))
 f46:=⟨Tryz.f254.name,by decide,func254.trans (congrArg some (by kernel_rfl))⟩
 f47:=func250.trans (congrArg some (by kernel_rfl))
 f48:=func251.trans (congrArg some (by kernel_rfl))
 f49:=⟨Tryz.f255.name,by decide,func255.trans (congrArg some (by kernel_rfl))⟩
 f50:=⟨Tryz.f256.name,by decide,func256.trans (congrArg some (by kernel_rfl))⟩
 f57:=⟨Tryz.f258.name,by decide,func258.trans (congrArg some (by kernel_rfl))⟩
 t0:=underlying0
 a0:=Tryz.isAgg0
 z0:=Tryz.sizeOf0
 v0:=Tryz.zeroValue0
 t3:=underlying3
 a3:=Tryz.isAgg3
 z3:=Tryz.sizeOf3
 v3:=Tryz.zeroValue3
 t4:=underlying4
 a4:=Tryz.isAgg4
 z4:=Tryz.sizeOf4
 v4:=Tryz.zeroValue4
 t5:=underlying5
 a5:=Tryz.isAgg5
 z5:=Tryz.sizeOf5
 v5:=Tryz.zeroValue5
 t9:=underlying9
 a9:=Tryz.isAgg9
 z9:=Tryz.sizeOf9
 v9:=Tryz.zeroValue9
 t22:=underlying23
 a22:=Tryz.isAgg23
 z22:=Tryz.sizeOf23
 v22:=Tryz.zeroValue23
 t25:=underlying252
 a25:=Tryz.isAgg252
 z25:=Tryz.sizeOf252
 v25:=Tryz.zeroValue252
 t39:=underlying186
 a39:=Tryz.isAgg186
 z39:=Tryz.sizeOf186
 v39:=Tryz.zeroValue186
 t45:=underlying259
 a45:=Tryz.isAgg259
 z45:=Tryz.sizeOf259
 v45:=Tryz.zeroValue259
 t46:=underlying260
 a46:=Tryz.isAgg260
 z46:=Tryz.sizeOf260
 v46:=Tryz.zeroValue260
 t50:=underlying111
 a50:=Tryz.isAgg111
 z50:=Tryz.sizeOf111
 v50:=Tryz.zeroValue111
 t53:=underlying266
 a53:=Tryz.isAgg266
 z53:=Tryz.sizeOf266
 v53:=Tryz.zeroValue266
 t55:=underlying201
 a55:=Tryz.isAgg201
 z55:=Tryz.sizeOf201
 v55:=Tryz.zeroValue201
 t66:=underlying273
 a66:=Tryz.isAgg273
 z66:=Tryz.sizeOf273
 v66:=Tryz.zeroValue273
 t70:=underlying277
 a70:=Tryz.isAgg277
 z70:=Tryz.sizeOf277
 v70:=Tryz.zeroValue277
 t76:=underlying281
 a76:=Tryz.isAgg281
 z76:=Tryz.sizeOf281
 v76:=Tryz.zeroValue281
 t77:=underlying282
 a77:=Tryz.isAgg282
 z77:=Tryz.sizeOf282
 v77:=Tryz.zeroValue282 }
end Go.Proofs.YtmbeahbgafkjfaaGreatDoor

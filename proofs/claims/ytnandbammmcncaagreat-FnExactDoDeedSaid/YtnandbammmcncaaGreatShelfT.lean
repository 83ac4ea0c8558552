/- DERIVED: THE SHELF's CONTRACTS AT THIS DUMP, IN PLAIN WORDS (tools/lay-plain. -/
import Derived.Shelf.SlGeneric
import Derived.Sort.EveryDepth
import Derived.Shelf.SortM.AssemblyIn
import Derived.Shelf.SlicesG.CompactI
import Derived.Ground.SlgmProg
import Derived.Ground.SlgnProg
import Derived.Test.YtnandbammmcncaaGreatProg
namespace Go.Proofs
open Go.Shelf
def Tryz.DV:Go.Shelf.Ren:=⟨fun|5=>179|8=>191|7=>190|19=>209|20=>210|10=>200|11=>201|12=>202|13=>203|14=>204|15=>205|16=>206|17=>207|18=>208|30=>215|31=>216|32=>217|33=>218|34=>219|35=>220|40=>222|n=>n,fun|23=>29|25=>2|3=>3|32=>200|22=>29|0=>0|44=>216|46=>218|4=>4|36=>209|35=>208|41=>86|5=>5|9=>9|53=>221|57=>225|63=>227|64=>228|n=>n,fun|n=>n⟩
theorem Tryz.NZ:Go.Proofs.SlLaysM.n5 Tryz.prog Tryz.DV:={
 mixed:=by kernel_rfl
 f5:=⟨Tryz.f179.name,by decide,Tryz.func179.trans (congrArg some (by kernel_rfl))⟩
 f7:=⟨Tryz.f190.name,by decide,Tryz.func190.trans (congrArg some (by kernel_rfl))⟩
 f8:=Tryz.func191.trans (congrArg some (by kernel_rfl))
 f10:=⟨Tryz.f200.name,by decide,Tryz.func200.trans (congrArg some (by kernel_rfl))⟩
 f11:=⟨Tryz.f201.name,by decide,Tryz.func201.trans (congrArg some (by kernel_rfl))⟩
 f12:=⟨Tryz.f202.name,by decide,Tryz.func202.trans (congrArg some (by kernel_rfl))⟩
 f13:=⟨Tryz.f203.name,by decide,Tryz.func203.trans (congrArg some (by kernel_rfl))⟩
 f14:=⟨Tryz.f204.name,by decide,Tryz.func204.trans (congrArg some (by kernel_rfl))⟩
 f15:=⟨Tryz.f205.name,by decide,Tryz.func205.trans (congrArg some (by kernel_rfl))⟩
 f16:=⟨Tryz.f206.name,by decide,Tryz.func206.trans (congrArg some (by kernel_rfl))⟩
 f17:=⟨Tryz.f207.name,by decide,Tryz.func207.trans (congrArg some (by kernel_rfl))⟩
 f18:=⟨Tryz.f208.name,by decide,Tryz.func208.trans (congrArg some (by kernel_rfl))⟩
 f19:=Tryz.func209.trans (congrArg some (by kernel_rfl))
 f20:=Tryz.func210.trans (congrArg some (by kernel_rfl))
 f30:=⟨Tryz.f215.name,by decide,Tryz.func215.trans (congrArg some (by kernel_rfl))⟩
 f31:=Tryz.func216.trans (congrArg some (by kernel_rfl))
 f32:=Tryz.func217.trans (congrArg some (by kernel_rfl))
 f33:=⟨Tryz.f218.name,by decide,Tryz.func218.trans (congrArg some (by kernel_rfl))⟩
 f34:=⟨Tryz.f219.name,by decide,Tryz.func219.trans (congrArg some (by kernel_rfl))⟩
 f35:=⟨Tryz.f220.name,by decide,Tryz.func220.trans (congrArg some (by kernel_rfl))⟩
 f40:=⟨Tryz.f222.name,by decide,Tryz.func222.trans (congrArg some (by kernel_rfl))⟩
 t0:=Tryz.underlying0
 a0:=Tryz.isAgg0
 z0:=Tryz.sizeOf0
 v0:=Tryz.zeroValue0
 t3:=Tryz.underlying3
 a3:=Tryz.isAgg3
 z3:=Tryz.sizeOf3
 v3:=Tryz.zeroValue3
 t4:=Tryz.underlying4
 a4:=Tryz.isAgg4
 z4:=Tryz.sizeOf4
 v4:=Tryz.zeroValue4
 t5:=Tryz.underlying5
 a5:=Tryz.isAgg5
 z5:=Tryz.sizeOf5
 v5:=Tryz.zeroValue5
 t9:=Tryz.underlying9
 a9:=Tryz.isAgg9
 z9:=Tryz.sizeOf9
 v9:=Tryz.zeroValue9
 t22:=Tryz.underlying29
 a22:=Tryz.isAgg29
 z22:=Tryz.sizeOf29
 v22:=Tryz.zeroValue29
 t23:=Tryz.underlying29
 a23:=Tryz.isAgg29
 z23:=Tryz.sizeOf29
 v23:=Tryz.zeroValue29
 t25:=Tryz.underlying2
 a25:=Tryz.isAgg2
 z25:=Tryz.sizeOf2
 v25:=Tryz.zeroValue2
 t32:=Tryz.underlying200
 a32:=Tryz.isAgg200
 z32:=Tryz.sizeOf200
 v32:=Tryz.zeroValue200
 t35:=Tryz.underlying208
 a35:=Tryz.isAgg208
 z35:=Tryz.sizeOf208
 v35:=Tryz.zeroValue208
 t36:=Tryz.underlying209
 a36:=Tryz.isAgg209
 z36:=Tryz.sizeOf209
 v36:=Tryz.zeroValue209
 t41:=Tryz.underlying86
 a41:=Tryz.isAgg86
 z41:=Tryz.sizeOf86
 v41:=Tryz.zeroValue86
 t44:=Tryz.underlying216
 a44:=Tryz.isAgg216
 z44:=Tryz.sizeOf216
 v44:=Tryz.zeroValue216
 t46:=Tryz.underlying218
 a46:=Tryz.isAgg218
 z46:=Tryz.sizeOf218
 v46:=Tryz.zeroValue218
 t53:=Tryz.underlying221
 a53:=Tryz.isAgg221
 z53:=Tryz.sizeOf221
 v53:=Tryz.zeroValue221
 t57:=Tryz.underlying225
 a57:=Tryz.isAgg225
 z57:=Tryz.sizeOf225
 v57:=Tryz.zeroValue225
 t63:=Tryz.underlying227
 a63:=Tryz.isAgg227
 z63:=Tryz.sizeOf227
 v63:=Tryz.zeroValue227
 t64:=Tryz.underlying228
 a64:=Tryz.isAgg228
 z64:=Tryz.sizeOf228
 v64:=Tryz.zeroValue228}
def Tryz.xL:Go.Shelf.Ren:=⟨fun|43=>185|n=>n,fun|22=>29|23=>2|3=>3|4=>4|0=>0|n=>n,fun|n=>n⟩
theorem Tryz.F2:Go.Proofs.SlLaysN.n43 Tryz.prog Tryz.xL:={
 mixed:=by kernel_rfl
 f43:=⟨Tryz.f185.name,by decide,Tryz.func185.trans (congrArg some (by kernel_rfl))⟩
 t0:=Tryz.underlying0
 a0:=Tryz.isAgg0
 z0:=Tryz.sizeOf0
 v0:=Tryz.zeroValue0
 t3:=Tryz.underlying3
 a3:=Tryz.isAgg3
 z3:=Tryz.sizeOf3
 v3:=Tryz.zeroValue3
 t4:=Tryz.underlying4
 a4:=Tryz.isAgg4
 z4:=Tryz.sizeOf4
 v4:=Tryz.zeroValue4
 t22:=Tryz.underlying29
 a22:=Tryz.isAgg29
 z22:=Tryz.sizeOf29
 v22:=Tryz.zeroValue29
 t23:=Tryz.underlying2
 a23:=Tryz.isAgg2
 z23:=Tryz.sizeOf2
 v23:=Tryz.zeroValue2
 i23:=by kernel_rfl}
end Go.Proofs

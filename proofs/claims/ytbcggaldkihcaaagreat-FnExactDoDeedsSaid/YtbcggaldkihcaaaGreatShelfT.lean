/- DERIVED: THE SHELF's CONTRACTS AT THIS DUMP, IN PLAIN WORDS (tools/lay-plain. -/
import Derived.Shelf.SlGeneric
import Derived.Sort.EveryDepth
import Derived.Shelf.SortM.AssemblyIn
import Derived.Shelf.SlicesG.CompactI
import Derived.Ground.SlgmProg
import Derived.Ground.SlgnProg
import Derived.Test.YtbcggaldkihcaaaGreatProg
namespace Go.Proofs
open Go.Shelf
def Tryz.DV:Go.Shelf.Ren:=⟨fun|5=>162|8=>189|7=>188|19=>209|20=>210|10=>200|11=>201|12=>202|13=>203|14=>204|15=>205|16=>206|17=>207|18=>208|30=>217|31=>218|32=>219|33=>220|34=>221|35=>222|40=>226|n=>n,fun|23=>33|25=>2|3=>3|32=>198|22=>33|0=>0|44=>227|46=>123|4=>4|36=>220|35=>219|41=>84|5=>5|9=>9|53=>232|57=>236|63=>239|64=>240|n=>n,fun|n=>n⟩
theorem Tryz.NZ:Go.Proofs.SlLaysM.n5 Tryz.prog Tryz.DV:={
 mixed:=by kernel_rfl
 f5:=⟨Tryz.f162.name,by decide,Tryz.func162.trans (congrArg some (by kernel_rfl))⟩
 f7:=⟨Tryz.f188.name,by decide,Tryz.func188.trans (congrArg some (by kernel_rfl))⟩
 f8:=Tryz.func189.trans (congrArg some (by kernel_rfl))
 f10:=⟨Tryz.f200.name,by decide,Tryz.func200.trans (congrArg some (by kernel_rfl))⟩
 f11:=⟨Tryz.f201.name,by decide,Tryz.func201.trans (congrArg some (by kernel_rfl))⟩
 f12:=⟨Tryz.f202.name,by decide,Tryz.func202.trans (congrArg some (by kernel_rfl))⟩
 f13:=⟨Tryz.f203.name,by decide,Tryz.func203.trans (congrArg some (by kernel_rfl))⟩
 f14:=⟨Tryz.f204.name,by decide,Tryz.func204.trans (congrArg some (by kernel_rfl))⟩
 f15:=⟨Tryz.f205.name,by decide,Tryz.func205.trans (congrArg some (by kernel_rfl))⟩
 f16:=⟨Tryz.f206.name,by decide,Tryz.func206.trans (congrArg some (by kernel_rfl))⟩
 f17:=⟨Tryz.f207.name,by decide,Tryz.func207.trans (congrArg some (by kernel_rfl))⟩
 f18:=⟨Tryz.f208.name,by decide,Tryz.func208.trans (congrArg some (by kernel_rfl))⟩
 f19:=Tryz.func209.trans (congrArg some (by kernel_rfl))
 f20:=Tryz.func210.trans (congrArg some (by kernel_rfl))
 f30:=⟨Tryz.f217.name,by decide,Tryz.func217.trans (congrArg some (by kernel_rfl))⟩
 f31:=Tryz.func218.trans (congrArg some (by kernel_rfl))
 f32:=Tryz.func219.trans (congrArg some (by kernel_rfl))
 f33:=⟨Tryz.f220.name,by decide,Tryz.func220.trans (congrArg some (by kernel_rfl))⟩
 f34:=⟨Tryz.f221.name,by decide,Tryz.func221.trans (congrArg some (by kernel_rfl))⟩
 f35:=⟨Tryz.f222.name,by decide,Tryz.func222.trans (congrArg some (by kernel_rfl))⟩
 f40:=⟨Tryz.f226.name,by decide,Tryz.func226.trans (congrArg some (by kernel_rfl))⟩
 t0:=Tryz.underlying0
 a0:=Tryz.isAgg0
 z0:=Tryz.sizeOf0
 v0:=Tryz.zeroValue0
 t3:=Tryz.underlying3
 a3:=Tryz.isAgg3
 z3:=Tryz.sizeOf3
 v3:=Tryz.zeroValue3
 t4:=Tryz.underlying4
 a4:=Tryz.isAgg4
 z4:=Tryz.sizeOf4
 v4:=Tryz.zeroValue4
 t5:=Tryz.underlying5
 a5:=Tryz.isAgg5
 z5:=Tryz.sizeOf5
 v5:=Tryz.zeroValue5
 t9:=Tryz.underlying9
 a9:=Tryz.isAgg9
 z9:=Tryz.sizeOf9
 v9:=Tryz.zeroValue9
 t22:=Tryz.underlying33
 a22:=Tryz.isAgg33
 z22:=Tryz.sizeOf33
 v22:=Tryz.zeroValue33
 t23:=Tryz.underlying33
 a23:=Tryz.isAgg33
 z23:=Tryz.sizeOf33
 v23:=Tryz.zeroValue33
 t25:=Tryz.underlying2
 a25:=Tryz.isAgg2
 z25:=Tryz.sizeOf2
 v25:=Tryz.zeroValue2
 t32:=Tryz.underlying198
 a32:=Tryz.isAgg198
 z32:=Tryz.sizeOf198
 v32:=Tryz.zeroValue198
 t35:=Tryz.underlying219
 a35:=Tryz.isAgg219
 z35:=Tryz.sizeOf219
 v35:=Tryz.zeroValue219
 t36:=Tryz.underlying220
 a36:=Tryz.isAgg220
 z36:=Tryz.sizeOf220
 v36:=Tryz.zeroValue220
 t41:=Tryz.underlying84
 a41:=Tryz.isAgg84
 z41:=Tryz.sizeOf84
 v41:=Tryz.zeroValue84
 t44:=Tryz.underlying227
 a44:=Tryz.isAgg227
 z44:=Tryz.sizeOf227
 v44:=Tryz.zeroValue227
 t46:=Tryz.underlying123
 a46:=Tryz.isAgg123
 z46:=Tryz.sizeOf123
 v46:=Tryz.zeroValue123
 t53:=Tryz.underlying232
 a53:=Tryz.isAgg232
 z53:=Tryz.sizeOf232
 v53:=Tryz.zeroValue232
 t57:=Tryz.underlying236
 a57:=Tryz.isAgg236
 z57:=Tryz.sizeOf236
 v57:=Tryz.zeroValue236
 t63:=Tryz.underlying239
 a63:=Tryz.isAgg239
 z63:=Tryz.sizeOf239
 v63:=Tryz.zeroValue239
 t64:=Tryz.underlying240
 a64:=Tryz.isAgg240
 z64:=Tryz.sizeOf240
 v64:=Tryz.zeroValue240}
def Tryz.xL:Go.Shelf.Ren:=⟨fun|43=>163|n=>n,fun|22=>33|23=>2|3=>3|4=>4|0=>0|n=>n,fun|n=>n⟩
theorem Tryz.F2:Go.Proofs.SlLaysN.n43 Tryz.prog Tryz.xL:={
 mixed:=by kernel_rfl
 f43:=⟨Tryz.f163.name,by decide,Tryz.func163.trans (congrArg some (by kernel_rfl))⟩
 t0:=Tryz.underlying0
 a0:=Tryz.isAgg0
 z0:=Tryz.sizeOf0
 v0:=Tryz.zeroValue0
 t3:=Tryz.underlying3
 a3:=Tryz.isAgg3
 z3:=Tryz.sizeOf3
 v3:=Tryz.zeroValue3
 t4:=Tryz.underlying4
 a4:=Tryz.isAgg4
 z4:=Tryz.sizeOf4
 v4:=Tryz.zeroValue4
 t22:=Tryz.underlying33
 a22:=Tryz.isAgg33
 z22:=Tryz.sizeOf33
 v22:=Tryz.zeroValue33
 t23:=Tryz.underlying2
 a23:=Tryz.isAgg2
 z23:=Tryz.sizeOf2
 v23:=Tryz.zeroValue2
 i23:=by kernel_rfl}
end Go.Proofs

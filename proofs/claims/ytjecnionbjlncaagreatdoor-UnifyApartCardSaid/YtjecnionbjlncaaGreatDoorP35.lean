/- Packed. -/
import Derived.Test.YtjecnionbjlncaaGreatDoorPS
import Derived.Shelf.Sort.Plain
import Derived.Shelf.Slices.In.SortNone
import Derived.Shelf.SlIterI.Keys
import Derived.Shelf.SlIterI.Sorted
set_option maxRecDepth 100000
set_option maxHeartbeats 6400000
namespace Go.Proofs
open Go.Shelf
def Tryz.keysA_ren:Go.Shelf.Ren:=⟨fun | 7=>36 | 10=>67|n=>n,fun | 23=>73 | 26=>3 | 3=>37 | 28=>83 | 0=>0 | 27=>82 | 33=>115 | 4=>4|n=>n,fun|n=>n⟩
theorem Tryz.keysA:Go.Proofs.SlLaysZI.n7 Tryz.prog Tryz.keysA_ren:={
 mixed:=by kernel_rfl
 f7:=⟨Tryz.f36.name,by decide,Tryz.func36.trans (congrArg some (by kernel_rfl))⟩
 f10:=⟨Tryz.f67.name,by decide,Tryz.func67.trans (congrArg some (by kernel_rfl))⟩
 t0:=Tryz.underlying0
 a0:=Tryz.isAgg0
 z0:=Tryz.sizeOf0
 v0:=Tryz.zeroValue0
 t4:=Tryz.underlying4
 a4:=Tryz.isAgg4
 z4:=Tryz.sizeOf4
 v4:=Tryz.zeroValue4
 t23:=Tryz.underlying73
 a23:=Tryz.isAgg73
 z23:=Tryz.sizeOf73
 v23:=Tryz.zeroValue73
 t26:=Tryz.underlying3
 a26:=Tryz.isAgg3
 z26:=Tryz.sizeOf3
 v26:=Tryz.zeroValue3
 t27:=Tryz.underlying82
 a27:=Tryz.isAgg82
 z27:=Tryz.sizeOf82
 v27:=Tryz.zeroValue82
 t28:=Tryz.underlying83
 a28:=Tryz.isAgg83
 z28:=Tryz.sizeOf83
 v28:=Tryz.zeroValue83
 t33:=Tryz.underlying115
 a33:=Tryz.isAgg115
 z33:=Tryz.sizeOf115
 v33:=Tryz.zeroValue115 }
def Tryz.sortedA_ren:Go.Shelf.Ren:=⟨fun | 6=>35 | 8=>65 | 9=>66 | 11=>102 | 13=>104 | 12=>103 | 23=>146 | 24=>147 | 14=>137 | 15=>138 | 16=>139 | 17=>140 | 18=>141 | 19=>142 | 20=>143 | 21=>144 | 22=>145 | 25=>159 | 26=>160 | 27=>161 | 28=>162 | 29=>163 | 30=>164 | 31=>173|n=>n,fun | 26=>3 | 28=>83 | 24=>50 | 0=>0 | 3=>3 | 37=>153 | 48=>188 | 50=>190 | 4=>4 | 40=>180 | 39=>179 | 45=>185 | 5=>5 | 9=>9 | 51=>197 | 55=>201 | 57=>210 | 58=>133 | 33=>115|n=>n,fun|n=>n⟩
theorem Tryz.sortedA:Go.Proofs.SlLaysZI.n6 Tryz.prog Tryz.sortedA_ren:={
 mixed:=by kernel_rfl
 f6:=⟨Tryz.f35.name,by decide,Tryz.func35.trans (congrArg some (by kernel_rfl))⟩
 f8:=⟨Tryz.f65.name,by decide,Tryz.func65.trans (congrArg some (by kernel_rfl))⟩
 f11:=⟨Tryz.f102.name,by decide,Tryz.func102.trans (congrArg some (by kernel_rfl))⟩
 t0:=Tryz.underlying0
 a0:=Tryz.isAgg0
 z0:=Tryz.sizeOf0
 v0:=Tryz.zeroValue0
 t24:=Tryz.underlying50
 a24:=Tryz.isAgg50
 z24:=Tryz.sizeOf50
 v24:=Tryz.zeroValue50
 t26:=Tryz.underlying3
 a26:=Tryz.isAgg3
 z26:=Tryz.sizeOf3
 v26:=Tryz.zeroValue3
 t28:=Tryz.underlying83
 a28:=Tryz.isAgg83
 z28:=Tryz.sizeOf83
 v28:=Tryz.zeroValue83
 i26:=by kernel_rfl }
end Go.Proofs

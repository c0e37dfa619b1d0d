/- Lemmas of this seat. Conditions: as stated. -/
import Derived.Test.YtjhmjiimpmmnhaaGreatSxC
import Derived.Test.YtjhmjiimpmmnhaaGreatChecked
import Derived.KernelRfl
import Derived.Test.YtjhmjiimpmmnhaaGreatRows
import Derived.WalkKit
import Derived.ProofKit
set_option linter.unusedVariables false
set_option linter.unusedSimpArgs false
set_option maxRecDepth 100000
namespace Go.Proofs.YtjhmjiimpmmnhaaGreat
section
open Go.Sx
def tys:List (Nat×TyD):=[
 (2,⟨1,8, .int .i64, .int .i64 0⟩),
 (3,⟨1,8, .int .i64, .int .i64 0⟩),
 (4,⟨1,1, .bool, .bool false⟩),
 (5,⟨1,1, .int .u8, .int .u8 0⟩),
 (9,⟨1,16, .string, .string ByteArray.empty⟩),
 (12,⟨1,8, .int .u64, .int .u64 0⟩),
 (15,⟨1,8, .pointer 282, .pointer none⟩),
 (16,⟨1,8, .pointer 285, .pointer none⟩),
 (17,⟨1,8, .pointer 293, .pointer none⟩),
 (21,⟨1,4, .int .i32, .int .i32 0⟩),
 (22,⟨1,24, .slice 3, .slice none 0 0⟩),
 (23,⟨3,40, .struct #[⟨ "Values",22,0,false, "", "",0⟩,⟨ "Period",3,1,false, "", "",24⟩,⟨ "Increment",3,2,false, "", "",32⟩], .agg #[.slice none 0 0, .int .i64 0, .int .i64 0]⟩),
 (24,⟨3,40, .struct #[⟨ "Values",22,0,false, "", "",0⟩,⟨ "Period",3,1,false, "", "",24⟩,⟨ "Increment",3,2,false, "", "",32⟩], .agg #[.slice none 0 0, .int .i64 0, .int .i64 0]⟩),
 (25,⟨1,24, .slice 82, .slice none 0 0⟩),
 (26,⟨4,48, .struct #[⟨ "Packets",25,0,false, "", "",0⟩,⟨ "Flow",3,1,false, "", "",24⟩,⟨ "Packet",3,2,false, "", "",32⟩,⟨ "Delay",3,3,false, "", "",40⟩], .agg #[.slice none 0 0, .int .i64 0, .int .i64 0, .int .i64 0]⟩),
 (27,⟨4,48, .struct #[⟨ "Packets",25,0,false, "", "",0⟩,⟨ "Flow",3,1,false, "", "",24⟩,⟨ "Packet",3,2,false, "", "",32⟩,⟨ "Delay",3,3,false, "", "",40⟩], .agg #[.slice none 0 0, .int .i64 0, .int .i64 0, .int .i64 0]⟩),
 (29,⟨1,8, .pointer 85, .pointer none⟩),
 (31,⟨1,24, .slice 9, .slice none 0 0⟩),
 (32,⟨1,24, .slice 68, .slice none 0 0⟩),
 (33,⟨1,24, .slice 73, .slice none 0 0⟩),
 (34,⟨3,72, .struct #[⟨ "Names",31,0,false, "", "",0⟩,⟨ "Lines",32,1,false, "", "",24⟩,⟨ "Flows",33,2,false, "", "",48⟩], .agg #[.slice none 0 0, .slice none 0 0, .slice none 0 0]⟩),
 (35,⟨3,72, .struct #[⟨ "Names",31,0,false, "", "",0⟩,⟨ "Lines",32,1,false, "", "",24⟩,⟨ "Flows",33,2,false, "", "",48⟩], .agg #[.slice none 0 0, .slice none 0 0, .slice none 0 0]⟩),
 (39,⟨9,120, .array 3 24, .agg #[.slice none 0 0, .int .i64 0, .int .i64 0, .slice none 0 0, .int .i64 0, .int .i64 0, .slice none 0 0, .int .i64 0, .int .i64 0]⟩),
 (40,⟨3,24, .array 3 3, .agg #[.int .i64 0, .int .i64 0, .int .i64 0]⟩),
 (43,⟨6,48, .array 2 40, .agg #[.int .i64 0, .int .i64 0, .int .i64 0, .int .i64 0, .int .i64 0, .int .i64 0]⟩),
 (44,⟨1,8, .int .i64, .int .i64 0⟩),
 (49,⟨6,144, .array 2 35, .agg #[.slice none 0 0, .slice none 0 0, .slice none 0 0, .slice none 0 0, .slice none 0 0, .slice none 0 0]⟩),
 (50,⟨2,48, .array 2 22, .agg #[.slice none 0 0, .slice none 0 0]⟩),
 (52,⟨4,96, .array 2 50, .agg #[.slice none 0 0, .slice none 0 0, .slice none 0 0, .slice none 0 0]⟩),
 (56,⟨2,16, .array 2 3, .agg #[.int .i64 0, .int .i64 0]⟩),
 (61,⟨4,32, .array 2 56, .agg #[.int .i64 0, .int .i64 0, .int .i64 0, .int .i64 0]⟩),
 (67,⟨5,72, .struct #[⟨ "Kind",3,0,false, "", "",0⟩,⟨ "Capacity",3,1,false, "", "",8⟩,⟨ "Classes",3,2,false, "", "",16⟩,⟨ "Weights",22,3,false, "", "",24⟩,⟨ "Slots",22,4,false, "", "",48⟩], .agg #[.int .i64 0, .int .i64 0, .int .i64 0, .slice none 0 0, .slice none 0 0]⟩),
 (68,⟨5,72, .struct #[⟨ "Kind",3,0,false, "", "",0⟩,⟨ "Capacity",3,1,false, "", "",8⟩,⟨ "Classes",3,2,false, "", "",16⟩,⟨ "Weights",22,3,false, "", "",24⟩,⟨ "Slots",22,4,false, "", "",48⟩], .agg #[.int .i64 0, .int .i64 0, .int .i64 0, .slice none 0 0, .slice none 0 0]⟩),
 (69,⟨2,16, .struct #[⟨ "Least",3,0,false, "", "",0⟩,⟨ "Most",3,1,false, "", "",8⟩], .agg #[.int .i64 0, .int .i64 0]⟩),
 (70,⟨2,16, .struct #[⟨ "Least",3,0,false, "", "",0⟩,⟨ "Most",3,1,false, "", "",8⟩], .agg #[.int .i64 0, .int .i64 0]⟩),
 (72,⟨8,104, .struct #[⟨ "Name",9,0,false, "", "",0⟩,⟨ "Route",22,1,false, "", "",16⟩,⟨ "Class",3,2,false, "", "",40⟩,⟨ "Sizes",70,3,false, "", "",48⟩,⟨ "Contract",24,5,false, "", "",64⟩], .agg #[.string ByteArray.empty, .slice none 0 0, .int .i64 0, .int .i64 0, .int .i64 0, .slice none 0 0, .int .i64 0, .int .i64 0]⟩),
 (73,⟨8,104, .struct #[⟨ "Name",9,0,false, "", "",0⟩,⟨ "Route",22,1,false, "", "",16⟩,⟨ "Class",3,2,false, "", "",40⟩,⟨ "Sizes",70,3,false, "", "",48⟩,⟨ "Contract",24,5,false, "", "",64⟩], .agg #[.string ByteArray.empty, .slice none 0 0, .int .i64 0, .int .i64 0, .int .i64 0, .slice none 0 0, .int .i64 0, .int .i64 0]⟩),
 (74,⟨1,24, .slice 22, .slice none 0 0⟩),
 (75,⟨1,24, .slice 22, .slice none 0 0⟩),
 (81,⟨3,24, .struct #[⟨ "Flow",3,0,false, "", "",0⟩,⟨ "Time",3,1,false, "", "",8⟩,⟨ "Size",3,2,false, "", "",16⟩], .agg #[.int .i64 0, .int .i64 0, .int .i64 0]⟩),
 (82,⟨3,24, .struct #[⟨ "Flow",3,0,false, "", "",0⟩,⟨ "Time",3,1,false, "", "",8⟩,⟨ "Size",3,2,false, "", "",16⟩], .agg #[.int .i64 0, .int .i64 0, .int .i64 0]⟩),
 (84,⟨2,32, .struct #[⟨ "L",22,0,false, "", "",0⟩,⟨ "At",3,1,false, "", "",24⟩], .agg #[.slice none 0 0, .int .i64 0]⟩),
 (85,⟨2,32, .struct #[⟨ "L",22,0,false, "", "",0⟩,⟨ "At",3,1,false, "", "",24⟩], .agg #[.slice none 0 0, .int .i64 0]⟩),
 (93,⟨1,8, .pointer 73, .pointer none⟩),
 (95,⟨1,24, .slice 24, .slice none 0 0⟩),
 (99,⟨1,24, .struct #[⟨ "Done",74,0,false, "", "",0⟩], .agg #[.slice none 0 0]⟩),
 (100,⟨1,24, .struct #[⟨ "Done",74,0,false, "", "",0⟩], .agg #[.slice none 0 0]⟩),
 (117,⟨1,8, .map 9 4, .map none⟩),
 (131,⟨1,24, .slice 4, .slice none 0 0⟩),
 (134,⟨2,48, .struct #[⟨ "Done",22,0,false, "", "",0⟩,⟨ "Sent",74,1,false, "", "",24⟩], .agg #[.slice none 0 0, .slice none 0 0]⟩),
 (135,⟨2,48, .struct #[⟨ "Done",22,0,false, "", "",0⟩,⟨ "Sent",74,1,false, "", "",24⟩], .agg #[.slice none 0 0, .slice none 0 0]⟩),
 (144,⟨1,24, .slice 56, .slice none 0 0⟩),
 (149,⟨3,24, .struct #[⟨ "Infinite",4,0,false, "", "",0⟩,⟨ "Value",3,1,false, "", "",8⟩,⟨ "At",3,2,false, "", "",16⟩], .agg #[.bool false, .int .i64 0, .int .i64 0]⟩),
 (150,⟨3,24, .struct #[⟨ "Infinite",4,0,false, "", "",0⟩,⟨ "Value",3,1,false, "", "",8⟩,⟨ "At",3,2,false, "", "",16⟩], .agg #[.bool false, .int .i64 0, .int .i64 0]⟩),
 (153,⟨1,24, .slice 70, .slice none 0 0⟩),
 (156,⟨1,16, .interface #[("netcalculus/server.check",119),("netcalculus/server.curve",180),("netcalculus/server.run",137)], .nilIface⟩),
 (159,⟨1,8, .map 3 4, .map none⟩),
 (163,⟨1,8, .int .u64, .int .u64 0⟩),
 (173,⟨8,8, .array 8 4, .agg #[.bool false, .bool false, .bool false, .bool false, .bool false, .bool false, .bool false, .bool false]⟩),
 (174,⟨64,64, .array 8 173, .agg #[.bool false, .bool false, .bool false, .bool false, .bool false, .bool false, .bool false, .bool false, .bool false, .bool false, .bool false, .bool false, .bool false, .bool false, .bool false, .bool false, .bool false, .bool false, .bool false, .bool false, .bool false, .bool false, .bool false, .bool false, .bool false, .bool false, .bool false, .bool false, .bool false, .bool false, .bool false, .bool false, .bool false, .bool false, .bool false, .bool false, .bool false, .bool false, .bool false, .bool false, .bool false, .bool false, .bool false, .bool false, .bool false, .bool false, .bool false, .bool false, .bool false, .bool false, .bool false, .bool false, .bool false, .bool false, .bool false, .bool false, .bool false, .bool false, .bool false, .bool false, .bool false, .bool false, .bool false, .bool false]⟩),
 (182,⟨0,0, .struct #[], .agg #[]⟩),
 (183,⟨0,0, .struct #[], .agg #[]⟩),
 (184,⟨0,0, .struct #[], .agg #[]⟩),
 (185,⟨0,0, .struct #[], .agg #[]⟩),
 (186,⟨0,0, .struct #[], .agg #[]⟩),
 (187,⟨0,0, .struct #[], .agg #[]⟩),
 (188,⟨1,8, .map 3 156, .map none⟩),
 (189,⟨1,4, .int .u32, .int .u32 0⟩),
 (192,⟨1,8, .int .u64, .int .u64 0⟩),
 (195,⟨1,24, .slice 197, .slice none 0 0⟩),
 (196,⟨5,40, .struct #[⟨ "at",82,0,false, "", "netcalculus/simulate",0⟩,⟨ "flow",3,3,false, "", "netcalculus/simulate",24⟩,⟨ "index",3,4,false, "", "netcalculus/simulate",32⟩], .agg #[.int .i64 0, .int .i64 0, .int .i64 0, .int .i64 0, .int .i64 0]⟩),
 (197,⟨5,40, .struct #[⟨ "at",82,0,false, "", "netcalculus/simulate",0⟩,⟨ "flow",3,3,false, "", "netcalculus/simulate",24⟩,⟨ "index",3,4,false, "", "netcalculus/simulate",32⟩], .agg #[.int .i64 0, .int .i64 0, .int .i64 0, .int .i64 0, .int .i64 0]⟩),
 (224,⟨5,88, .struct #[⟨ "Time",3,0,false, "", "",0⟩,⟨ "Given",22,1,false, "", "",8⟩,⟨ "Now",3,2,false, "", "",32⟩,⟨ "Run",135,3,false, "", "",40⟩], .agg #[.int .i64 0, .slice none 0 0, .int .i64 0, .slice none 0 0, .slice none 0 0]⟩),
 (225,⟨5,88, .struct #[⟨ "Time",3,0,false, "", "",0⟩,⟨ "Given",22,1,false, "", "",8⟩,⟨ "Now",3,2,false, "", "",32⟩,⟨ "Run",135,3,false, "", "",40⟩], .agg #[.int .i64 0, .slice none 0 0, .int .i64 0, .slice none 0 0, .slice none 0 0]⟩),
 (232,⟨2,16, .struct #[⟨ "class",3,0,false, "", "netcalculus/netcalculusref19",0⟩,⟨ "left",3,1,false, "", "netcalculus/netcalculusref19",8⟩], .agg #[.int .i64 0, .int .i64 0]⟩),
 (233,⟨2,16, .struct #[⟨ "class",3,0,false, "", "netcalculus/netcalculusref19",0⟩,⟨ "left",3,1,false, "", "netcalculus/netcalculusref19",8⟩], .agg #[.int .i64 0, .int .i64 0]⟩),
 (237,⟨3,40, .struct #[⟨ "class",3,0,false, "", "netcalculus/netcalculusref20",0⟩,⟨ "begun",4,1,false, "", "netcalculus/netcalculusref20",8⟩,⟨ "deficit",22,2,false, "", "netcalculus/netcalculusref20",16⟩], .agg #[.int .i64 0, .bool false, .slice none 0 0]⟩),
 (238,⟨3,40, .struct #[⟨ "class",3,0,false, "", "netcalculus/netcalculusref20",0⟩,⟨ "begun",4,1,false, "", "netcalculus/netcalculusref20",8⟩,⟨ "deficit",22,2,false, "", "netcalculus/netcalculusref20",16⟩], .agg #[.int .i64 0, .bool false, .slice none 0 0]⟩),
 (274,⟨1,8, .pointer 3, .pointer none⟩),
 (278,⟨1,8, .pointer 270, .pointer none⟩),
 (283,⟨0,0, .array 0 16, .agg #[]⟩),
 (289,⟨1,8, .pointer 5, .pointer none⟩),
 (297,⟨1,8, .pointer 299, .pointer none⟩),
 (298,⟨5,72, .struct #[⟨ "Now",3,0,false, "", "",0⟩,⟨ "Left",3,1,false, "", "",8⟩,⟨ "p",25,2,false, "", "netcalculus/machine",16⟩,⟨ "begun",131,3,false, "", "netcalculus/machine",40⟩,⟨ "before",3,4,false, "", "netcalculus/machine",64⟩], .agg #[.int .i64 0, .int .i64 0, .slice none 0 0, .slice none 0 0, .int .i64 0]⟩),
 (299,⟨5,72, .struct #[⟨ "Now",3,0,false, "", "",0⟩,⟨ "Left",3,1,false, "", "",8⟩,⟨ "p",25,2,false, "", "netcalculus/machine",16⟩,⟨ "begun",131,3,false, "", "netcalculus/machine",40⟩,⟨ "before",3,4,false, "", "netcalculus/machine",64⟩], .agg #[.int .i64 0, .int .i64 0, .slice none 0 0, .slice none 0 0, .int .i64 0]⟩),
 (302,⟨1,8, .pointer 304, .pointer none⟩),
 (303,⟨4,64, .struct #[⟨ "quanta",22,0,false, "", "netcalculus/deficit",0⟩,⟨ "deficits",22,1,false, "", "netcalculus/deficit",24⟩,⟨ "class",3,2,false, "", "netcalculus/deficit",48⟩,⟨ "begun",4,3,false, "", "netcalculus/deficit",56⟩], .agg #[.slice none 0 0, .slice none 0 0, .int .i64 0, .bool false]⟩),
 (304,⟨4,64, .struct #[⟨ "quanta",22,0,false, "", "netcalculus/deficit",0⟩,⟨ "deficits",22,1,false, "", "netcalculus/deficit",24⟩,⟨ "class",3,2,false, "", "netcalculus/deficit",48⟩,⟨ "begun",4,3,false, "", "netcalculus/deficit",56⟩], .agg #[.slice none 0 0, .slice none 0 0, .int .i64 0, .bool false]⟩)]
theorem tys_ok:∀p∈tys,TyOK Tryz.prog p.1 p.2:=by
 simp only [tys,List.forall_mem_cons]
 exact⟨tyOK_mk (by kernel_rfl) (by kernel_rfl),
  tyOK_mk (by kernel_rfl) (by kernel_rfl),
  tyOK_mk (by kernel_rfl) (by kernel_rfl),
  tyOK_mk (by kernel_rfl) (by kernel_rfl),
  tyOK_mk (by kernel_rfl) (by kernel_rfl),
  tyOK_mk (by kernel_rfl) (by kernel_rfl),
  tyOK_mk (by kernel_rfl) (by kernel_rfl),
  tyOK_mk (by kernel_rfl) (by kernel_rfl),
  tyOK_mk (by kernel_rfl) (by kernel_rfl),
  tyOK_mk (by kernel_rfl) (by kernel_rfl),
  tyOK_mk (by kernel_rfl) (by kernel_rfl),
  tyOK_mk (by kernel_rfl) (by kernel_rfl),
  tyOK_mk (by kernel_rfl) (by kernel_rfl),
  tyOK_mk (by kernel_rfl) (by kernel_rfl),
  tyOK_mk (by kernel_rfl) (by kernel_rfl),
  tyOK_mk (by kernel_rfl) (by kernel_rfl),
  tyOK_mk (by kernel_rfl) (by kernel_rfl),
  tyOK_mk (by kernel_rfl) (by kernel_rfl),
  tyOK_mk (by kernel_rfl) (by kernel_rfl),
  tyOK_mk (by kernel_rfl) (by kernel_rfl),
  tyOK_mk (by kernel_rfl) (by kernel_rfl),
  tyOK_mk (by kernel_rfl) (by kernel_rfl),
  tyOK_mk (by kernel_rfl) (by kernel_rfl),
  tyOK_mk (by kernel_rfl) (by kernel_rfl),
  tyOK_mk (by kernel_rfl) (by kernel_rfl),
  tyOK_mk (by kernel_rfl) (by kernel_rfl),
  tyOK_mk (by kernel_rfl) (by kernel_rfl),
  tyOK_mk (by kernel_rfl) (by kernel_rfl),
  tyOK_mk (by kernel_rfl) (by kernel_rfl),
  tyOK_mk (by kernel_rfl) (by kernel_rfl),
  tyOK_mk (by kernel_rfl) (by kernel_rfl),
  tyOK_mk (by kernel_rfl) (by kernel_rfl),
  tyOK_mk (by kernel_rfl) (by kernel_rfl),
  tyOK_mk (by kernel_rfl) (by kernel_rfl),
  tyOK_mk (by kernel_rfl) (by kernel_rfl),
  tyOK_mk (by kernel_rfl) (by kernel_rfl),
  tyOK_mk (by kernel_rfl) (by kernel_rfl),
  tyOK_mk (by kernel_rfl) (by kernel_rfl),
  tyOK_mk (by kernel_rfl) (by kernel_rfl),
  tyOK_mk (by kernel_rfl) (by kernel_rfl),
  tyOK_mk (by kernel_rfl) (by kernel_rfl),
  tyOK_mk (by kernel_rfl) (by kernel_rfl),
  tyOK_mk (by kernel_rfl) (by kernel_rfl),
  tyOK_mk (by kernel_rfl) (by kernel_rfl),
  tyOK_mk (by kernel_rfl) (by kernel_rfl),
  tyOK_mk (by kernel_rfl) (by kernel_rfl),
  tyOK_mk (by kernel_rfl) (by kernel_rfl),
  tyOK_mk (by kernel_rfl) (by kernel_rfl),
  tyOK_mk (by kernel_rfl) (by kernel_rfl),
  tyOK_mk (by kernel_rfl) (by kernel_rfl),
  tyOK_mk (by kernel_rfl) (by kernel_rfl),
  tyOK_mk (by kernel_rfl) (by kernel_rfl),
  tyOK_mk (by kernel_rfl) (by kernel_rfl),
  tyOK_mk (by kernel_rfl) (by kernel_rfl),
  tyOK_mk (by kernel_rfl) (by kernel_rfl),
  tyOK_mk (by kernel_rfl) (by kernel_rfl),
  tyOK_mk (by kernel_rfl) (by kernel_rfl),
  tyOK_mk (by kernel_rfl) (by kernel_rfl),
  tyOK_mk (by kernel_rfl) (by kernel_rfl),
  tyOK_mk (by kernel_rfl) (by kernel_rfl),
  tyOK_mk (by kernel_rfl) (by kernel_rfl),
  tyOK_mk (by kernel_rfl) (by kernel_rfl),
  tyOK_mk (by kernel_rfl) (by kernel_rfl),
  tyOK_mk (by kernel_rfl) (by kernel_rfl),
  tyOK_mk (by kernel_rfl) (by kernel_rfl),
  tyOK_mk (by kernel_rfl) (by kernel_rfl),
  tyOK_mk (by kernel_rfl) (by kernel_rfl),
  tyOK_mk (by kernel_rfl) (by kernel_rfl),
  tyOK_mk (by kernel_rfl) (by kernel_rfl),
  tyOK_mk (by kernel_rfl) (by kernel_rfl),
  tyOK_mk (by kernel_rfl) (by kernel_rfl),
  tyOK_mk (by kernel_rfl) (by kernel_rfl),
  tyOK_mk (by kernel_rfl) (by kernel_rfl),
  tyOK_mk (by kernel_rfl) (by kernel_rfl),
  tyOK_mk (by kernel_rfl) (by kernel_rfl),
  tyOK_mk (by kernel_rfl) (by kernel_rfl),
  tyOK_mk (by kernel_rfl) (by kernel_rfl),
  tyOK_mk (by kernel_rfl) (by kernel_rfl),
  tyOK_mk (by kernel_rfl) (by kernel_rfl),
  tyOK_mk (by kernel_rfl) (by kernel_rfl),
  tyOK_mk (by kernel_rfl) (by kernel_rfl),
  tyOK_mk (by kernel_rfl) (by kernel_rfl),
  tyOK_mk (by kernel_rfl) (by kernel_rfl),
  tyOK_mk (by kernel_rfl) (by kernel_rfl),
  tyOK_mk (by kernel_rfl) (by kernel_rfl),
  tyOK_mk (by kernel_rfl) (by kernel_rfl),
  tyOK_mk (by kernel_rfl) (by kernel_rfl),
  tyOK_mk (by kernel_rfl) (by kernel_rfl),by simp⟩
noncomputable def env (n:Nat):Env:={P:=Tryz.prog,tys:=tys,npre:=n}
abbrev ints (l:List Int):List (List SV):=l.map fun n=>[.num .i64 n]
abbrev i64 (n:Int):SV:= .num .i64 n
abbrev crv (vs:List Int) (p i:Int):SV:= .agg [.psl 1 (ints vs), .num .i64 p, .num .i64 i]
end
section
open Go.Sx
theorem ints_get {l:List Int} {j:Nat} (h:j<l.length):(ints l)[j]? =some [.num .i64 (l.getD j 0)]:=by
 simp [ints,List.getElem?_map,List.getElem?_eq_getElem h]
theorem ints_len (l:List Int):(ints l).length =l.length:=by simp [ints]
theorem tdiv_bd {a b:Int} (h:0≤a) (hb:1≤b):a.tdiv b=a/b∧0≤a/b∧a/b≤a:=by
 refine⟨Int.tdiv_eq_ediv_of_nonneg h,Int.ediv_nonneg h (by omega),Int.ediv_le_self _ h⟩
theorem tmod_bd {a b:Int} (h:0≤a) (hb:1≤b):a.tmod b=a%b∧0≤a%b∧a%b<b:=by
 refine⟨Int.tmod_eq_emod_of_nonneg h,Int.emod_nonneg _ (by omega),Int.emod_lt_of_pos _ (by omega)⟩
theorem Ctr.imp {P f args own own'} {s:SV} (h:Ctr P f args own (fun r o=>o=own'∧Imp r s)):Ctr P f args own (fun r o=>o=own'∧r=s):=
 ⟨h.1,fun w σ β vs h1 h2=>(h.2 w σ β vs h1 h2).mono fun _ _ ⟨v,σ',β',own',_,a,b,c,d,e1,e2⟩=>⟨v,σ',β',own',s,a,b,c,e2 _ _ _ d,e1,rfl⟩⟩
theorem Ctr.impE {P f args own} {α:Type} {Q:α→Prop} {s:α→SV} {ow:α→List Chunk} (h:Ctr P f args own (fun r o=>∃x,Q x∧o=ow x∧Imp r (s x))):Ctr P f args own (fun r o=>∃x,Q x∧o=ow x∧r=s x):=
 ⟨h.1,fun w σ β vs h1 h2=>(h.2 w σ β vs h1 h2).mono fun _ _ ⟨v,σ',β',own',_,a,b,c,d,x,e0,e1,e2⟩=>⟨v,σ',β',own',s x,a,b,c,e2 _ _ _ d,x,e0,e1,rfl⟩⟩
theorem aG {P:Program} {t:Nat} {K:Prop} (hk:K) (h:(plainTy P 6 t && !(P.eqGuardType P.depth t))=true:=by decide+kernel):AggOb P t K:= .mk h hk
theorem aI {l:List Int} {j:Nat} {K:Nat→List SV→Prop} (hk:K j [.num .i64 (l.getD j 0)]) (h:j<l.length:=by first|omega|(simp only [ints_len]at*;omega)):∃(i:Nat) (row:List SV),(j:Int)=(i:Int)∧(ints l)[i]? =some row∧K i row:=⟨_,_,rfl,ints_get h,hk⟩
theorem aJ {l:List Int} {x:Int} {K:Nat→List SV→Prop} (hk:K x.toNat [.num .i64 (l.getD x.toNat 0)]) (h:0≤x:=by first|omega|(simp only [ints_len]at*;omega)) (h2:x.toNat<l.length:=by first|omega|(simp only [ints_len]at*;omega)):∃(i:Nat) (row:List SV),x=(i:Int)∧(ints l)[i]? =some row∧K i row:=⟨_,_,(Int.toNat_of_nonneg h).symm,ints_get h2,hk⟩
theorem aL {n:Nat} {hs:List Nat} {S S':SS} (h1:okHs n hs S'=true:=by kernel_rfl)
  (h2:LeO S.own (gets hs) hs S'.own:=by repeat' (first|exact True.intro|refine And.intro ?_ ?_|exact Imp.refl _|exact Imp.any _|exact Imp.num (by first|omega|simp only [ints_len])|exact rfl|exact Imp.bl (by simp)))
  (h3:LeT (gets hs) S S S'.tm:=by repeat' (first|exact True.intro|refine And.intro ?_ ?_|exact Imp.refl _|exact Imp.any _|exact Imp.num (by first|omega|simp only [ints_len])|exact rfl|exact Imp.bl (by simp))):Le n hs S S':=⟨h1,h2,h3⟩
theorem zA {α:Type} {a b:List α}:(a++b).length =a.length+b.length:=List.length_append
theorem zT {α:Type} {n:Nat} {a:List α}:(a.take n).length =min n a.length:=List.length_take
theorem zD {α:Type} {n:Nat} {a:List α}:(a.drop n).length =a.length-n:=List.length_drop
theorem zC {α:Type} {x:α} {a:List α}:(x::a).length =a.length+1:=List.length_cons
theorem zN {α:Type}:([]:List α).length =0:=rfl
theorem zR {α:Type} {n:Nat} {x:α}:(List.replicate n x).length =n:=List.length_replicate
class StpC (G:Prop) (b R:outParam Prop):Prop where
 h:b→R→G
instance {x:Int} {k:Int→Prop}:StpC (ArOb x k) (-9223372036854775808≤x∧x≤9223372036854775807) (k x):=⟨fun h r=> .fits h r⟩
instance {x:Int} {k:Int→Prop}:StpC (ArU x k) (0≤x∧x≤18446744073709551615) (k x):=⟨fun h r=> .fits h r⟩
instance {x:Int} {k:Int→Prop}:StpC (ArB x k) (0≤x∧x≤255) (k x):=⟨fun h r=> .fits h r⟩
instance {A B:Prop}:StpC (LitOb A B) True A:=⟨fun _ r=> .vec r⟩
instance {A B:Prop}:StpC (MakeOb A B) True A:=⟨fun _ r=> .vec r⟩
instance {A B:Prop}:StpC (AsgOb A B) True A:=⟨fun _ r=> .vec r⟩
instance {cs:List SV} {A:Prop} {B:Nat→List (List SV)→Prop}:StpC (AllocOb cs A B) True A:=⟨fun _ r=> .box r⟩
theorem aS {G b R:Prop} [i:StpC G b R] (r:R) (h:b:=by first|exact True.intro|omega|(simp only [ints_len]at*;omega)):G:=i.h h r
theorem aC {p A B:Prop} (t:p→A) (f:¬p→B):CondOb p A B:= .mk t f
theorem aD {n nm va vb S K} (h:va S (seqK (fun S'=>vb S' K) K)):CutOb n nm va vb S K:= .split h
theorem aH {n nm k S} (h:runG n nm [] S k):Gh n nm k S:= .mk [] h
theorem aW {E ops S K} (p:Plan) (h:runG E.npre E.nm [] S fun S=>runP E ops.toList p [] S K) (hc:chkAll ops p=true:=by decide+kernel):DrawOb E ops S K:= .mk [] p hc h
theorem aK {P:Program} {free:Nat→Bool} {f:Nat} {sargs:List SV} {S:SS} {k:SS→SV→Prop} (hs:List Nat) {args' args:List SV} {own0 o0:List Chunk} {r0:SV} (hf:Ctr P f args own0 (fun r o=>o=o0∧r=r0))
  (hk:forceO (giveBack hs (o0.map (renC (back hs S.own.length))) S.own++(o0.drop hs.length).map (renC (back hs S.own.length))) fun own=>forceV (ren (back hs S.own.length) r0) fun s=>S.withTm fun tm=>k ⟨tm,own⟩ s)
  (ha:toCL hs sargs=some args':=by exact rfl) (hi:ImpL args' args:=by exact ImpL.refl _) (ho:lend S.own hs=some own0:=by exact rfl) (hnd:(nodupB hs && allFree free hs)=true:=by exact rfl):CallOb P free f sargs S k:=
 .mk hs hf ha hi ho hnd fun _ _ ⟨h1,h2⟩=>by subst h1 h2;exact hk
theorem aM {P:Program} {free:Nat→Bool} {f:Nat} {sargs:List SV} {S:SS} {k:SS→SV→Prop} (hs:List Nat) {args:List SV} {own0:List Chunk} {post:SV→List Chunk→Prop} (hf:Ctr P f args own0 post)
  (ha:toCL hs sargs=some args) (ho:lend S.own hs=some own0)
  (hk:∀r own',post r own'→forceO (giveBack hs (own'.map (renC (back hs S.own.length))) S.own++(own'.drop hs.length).map (renC (back hs S.own.length))) fun own=>forceV (ren (back hs S.own.length) r) fun s=>S.withTm fun tm=>k ⟨tm,own⟩ s)
  (hnd:(nodupB hs && allFree free hs)=true:=by exact rfl):CallOb P free f sargs S k:=
 .mk hs hf ha (ImpL.refl _) ho hnd hk
theorem fI (n:Nat) {f:Nat} {fn:Func} {c:Code} {args:List SV} {own:List Chunk} {post:SV→List Chunk→Prop} (hf:(env n).P.funcs[f]? =some fn)
  (h:zipF 0 args fun tm=>vc (env n) c ⟨tm,own⟩ (retK (env n) fn.results.toList post)) (hm:(env n).P.follows .mixedOrders =true:=by exact rfl) (hn:(env n).npre =own.length:=by exact rfl) (hfr:(env n).free =fun _=>true:=by exact rfl)
  (hname:(fn.name== "runtime.NumGoroutine")=false:=by kernel_rfl) (hb:fn.body=some c:=by exact rfl) (hok:(okDst fn.ntmps (writes c) && Nat.ble args.length fn.ntmps)=true:=by kernel_rfl):Ctr (env n).P f args own post:=
 fn_intro (E:=env n) tys_ok hm hn hfr hf hname hb hok h
end
section
open Go.Sx Go.ChangeShapes Go.WideShapes Go.ChangeAt Go.RowKit
theorem own_knob:ownKnob Tryz.prog.godebug=none:=by kernel_rfl
end
end Go.Proofs.YtjhmjiimpmmnhaaGreat

/-
  The seat's types, for the small separation logic: written by program off the seat's own tables.
-/
import Derived.Test.YteoidocicjlglaaDoorRows
import Derived.Test.YteoidocicjlglaaDoorSlA
set_option linter.unusedSimpArgs false
set_option linter.unusedVariables false
namespace Go.Proofs.YteoidocicjlglaaDoor
open Go.Proofs.YteoidocicjlglaaDoor.Sl
instance : Ty Tryd.prog 2 false 1 (.int .i64 0) #[.int .i64 0] := Ty.mk' (by kernel_rfl) rfl rfl
instance : Bytes Tryd.prog 2 8 := ⟨by kernel_rfl⟩
instance : Ty Tryd.prog 3 false 1 (.int .i64 0) #[.int .i64 0] := Ty.mk' (by kernel_rfl) rfl rfl
instance : Bytes Tryd.prog 3 8 := ⟨by kernel_rfl⟩
instance : Ty Tryd.prog 4 false 1 (.bool false) #[.bool false] := Ty.mk' (by kernel_rfl) rfl rfl
instance : Bytes Tryd.prog 4 1 := ⟨by kernel_rfl⟩
instance : Ty Tryd.prog 5 false 1 (.int .u8 0) #[.int .u8 0] := Ty.mk' (by kernel_rfl) rfl rfl
instance : Bytes Tryd.prog 5 1 := ⟨by kernel_rfl⟩
instance : Ty Tryd.prog 9 false 1 (.string ByteArray.empty) #[.string ByteArray.empty] := Ty.mk' (by kernel_rfl) rfl rfl
instance : Bytes Tryd.prog 9 16 := ⟨by kernel_rfl⟩
instance : Ty Tryd.prog 12 false 1 (.int .u64 0) #[.int .u64 0] := Ty.mk' (by kernel_rfl) rfl rfl
instance : Bytes Tryd.prog 12 8 := ⟨by kernel_rfl⟩
instance : Ty Tryd.prog 20 false 1 (.nilIface) #[.nilIface] := Ty.mk' (by kernel_rfl) rfl rfl
instance : Bytes Tryd.prog 20 16 := ⟨by kernel_rfl⟩
instance : Ty Tryd.prog 21 false 1 (.int .i32 0) #[.int .i32 0] := Ty.mk' (by kernel_rfl) rfl rfl
instance : Bytes Tryd.prog 21 4 := ⟨by kernel_rfl⟩
instance : SliceTy Tryd.prog 22 53 := ⟨Tryd.underlying22⟩
instance : Ty Tryd.prog 22 false 1 (.slice none 0 0) #[.slice none 0 0] := Ty.mk' (by kernel_rfl) rfl rfl
instance : Bytes Tryd.prog 22 24 := ⟨by kernel_rfl⟩
instance : Ty Tryd.prog 25 false 1 (.pointer none) #[.pointer none] := Ty.mk' (by kernel_rfl) rfl rfl
instance : Bytes Tryd.prog 25 8 := ⟨by kernel_rfl⟩
instance : Ty Tryd.prog 26 false 1 (.pointer none) #[.pointer none] := Ty.mk' (by kernel_rfl) rfl rfl
instance : Bytes Tryd.prog 26 8 := ⟨by kernel_rfl⟩
instance : SliceTy Tryd.prog 31 5 := ⟨Tryd.underlying31⟩
instance : Ty Tryd.prog 31 false 1 (.slice none 0 0) #[.slice none 0 0] := Ty.mk' (by kernel_rfl) rfl rfl
instance : Bytes Tryd.prog 31 24 := ⟨by kernel_rfl⟩
instance : Ty Tryd.prog 35 true 32 (.agg #[.int .u8 0, .int .u8 0, .int .u8 0, .int .u8 0, .int .u8 0, .int .u8 0, .int .u8 0, .int .u8 0, .int .u8 0, .int .u8 0, .int .u8 0, .int .u8 0, .int .u8 0, .int .u8 0, .int .u8 0, .int .u8 0, .int .u8 0, .int .u8 0, .int .u8 0, .int .u8 0, .int .u8 0, .int .u8 0, .int .u8 0, .int .u8 0, .int .u8 0, .int .u8 0, .int .u8 0, .int .u8 0, .int .u8 0, .int .u8 0, .int .u8 0, .int .u8 0]) #[.int .u8 0, .int .u8 0, .int .u8 0, .int .u8 0, .int .u8 0, .int .u8 0, .int .u8 0, .int .u8 0, .int .u8 0, .int .u8 0, .int .u8 0, .int .u8 0, .int .u8 0, .int .u8 0, .int .u8 0, .int .u8 0, .int .u8 0, .int .u8 0, .int .u8 0, .int .u8 0, .int .u8 0, .int .u8 0, .int .u8 0, .int .u8 0, .int .u8 0, .int .u8 0, .int .u8 0, .int .u8 0, .int .u8 0, .int .u8 0, .int .u8 0, .int .u8 0] := Ty.mk' (by kernel_rfl) rfl rfl
instance : Bytes Tryd.prog 35 32 := ⟨by kernel_rfl⟩
instance : Ty Tryd.prog 37 true 33 (.agg #[.slice none 0 0, .int .u8 0, .int .u8 0, .int .u8 0, .int .u8 0, .int .u8 0, .int .u8 0, .int .u8 0, .int .u8 0, .int .u8 0, .int .u8 0, .int .u8 0, .int .u8 0, .int .u8 0, .int .u8 0, .int .u8 0, .int .u8 0, .int .u8 0, .int .u8 0, .int .u8 0, .int .u8 0, .int .u8 0, .int .u8 0, .int .u8 0, .int .u8 0, .int .u8 0, .int .u8 0, .int .u8 0, .int .u8 0, .int .u8 0, .int .u8 0, .int .u8 0, .int .u8 0]) #[.slice none 0 0, .int .u8 0, .int .u8 0, .int .u8 0, .int .u8 0, .int .u8 0, .int .u8 0, .int .u8 0, .int .u8 0, .int .u8 0, .int .u8 0, .int .u8 0, .int .u8 0, .int .u8 0, .int .u8 0, .int .u8 0, .int .u8 0, .int .u8 0, .int .u8 0, .int .u8 0, .int .u8 0, .int .u8 0, .int .u8 0, .int .u8 0, .int .u8 0, .int .u8 0, .int .u8 0, .int .u8 0, .int .u8 0, .int .u8 0, .int .u8 0, .int .u8 0, .int .u8 0] := Ty.mk' (by kernel_rfl) rfl rfl
instance : Bytes Tryd.prog 37 56 := ⟨by kernel_rfl⟩
instance : SliceTy Tryd.prog 38 37 := ⟨Tryd.underlying38⟩
instance : Ty Tryd.prog 38 false 1 (.slice none 0 0) #[.slice none 0 0] := Ty.mk' (by kernel_rfl) rfl rfl
instance : Bytes Tryd.prog 38 24 := ⟨by kernel_rfl⟩
instance : SliceTy Tryd.prog 39 46 := ⟨Tryd.underlying39⟩
instance : Ty Tryd.prog 39 false 1 (.slice none 0 0) #[.slice none 0 0] := Ty.mk' (by kernel_rfl) rfl rfl
instance : Bytes Tryd.prog 39 24 := ⟨by kernel_rfl⟩
instance : Ty Tryd.prog 41 true 3 (.agg #[.slice none 0 0, .slice none 0 0, .slice none 0 0]) #[.slice none 0 0, .slice none 0 0, .slice none 0 0] := Ty.mk' (by kernel_rfl) rfl rfl
instance : Bytes Tryd.prog 41 72 := ⟨by kernel_rfl⟩
instance : Ty Tryd.prog 43 false 1 (.int .u32 0) #[.int .u32 0] := Ty.mk' (by kernel_rfl) rfl rfl
instance : Bytes Tryd.prog 43 4 := ⟨by kernel_rfl⟩
instance : Ty Tryd.prog 44 true 12 (.agg #[.int .u8 0, .int .u8 0, .int .u8 0, .int .u8 0, .int .u8 0, .int .u8 0, .int .u8 0, .int .u8 0, .int .u8 0, .int .u8 0, .int .u8 0, .int .u8 0]) #[.int .u8 0, .int .u8 0, .int .u8 0, .int .u8 0, .int .u8 0, .int .u8 0, .int .u8 0, .int .u8 0, .int .u8 0, .int .u8 0, .int .u8 0, .int .u8 0] := Ty.mk' (by kernel_rfl) rfl rfl
instance : Bytes Tryd.prog 44 12 := ⟨by kernel_rfl⟩
instance : Ty Tryd.prog 46 true 15 (.agg #[.int .u32 0, .int .u8 0, .int .u8 0, .int .u8 0, .int .u8 0, .int .u8 0, .int .u8 0, .int .u8 0, .int .u8 0, .int .u8 0, .int .u8 0, .int .u8 0, .int .u8 0, .slice none 0 0, .slice none 0 0]) #[.int .u32 0, .int .u8 0, .int .u8 0, .int .u8 0, .int .u8 0, .int .u8 0, .int .u8 0, .int .u8 0, .int .u8 0, .int .u8 0, .int .u8 0, .int .u8 0, .int .u8 0, .slice none 0 0, .slice none 0 0] := Ty.mk' (by kernel_rfl) rfl rfl
instance : Bytes Tryd.prog 46 64 := ⟨by kernel_rfl⟩
instance : Ty Tryd.prog 53 true 49 (.agg #[.int .i64 0, .slice none 0 0, .int .u8 0, .int .u8 0, .int .u8 0, .int .u8 0, .int .u8 0, .int .u8 0, .int .u8 0, .int .u8 0, .int .u8 0, .int .u8 0, .int .u8 0, .int .u8 0, .int .u8 0, .int .u8 0, .int .u8 0, .int .u8 0, .int .u8 0, .int .u8 0, .int .u8 0, .int .u8 0, .int .u8 0, .int .u8 0, .int .u8 0, .int .u8 0, .int .u8 0, .int .u8 0, .int .u8 0, .int .u8 0, .int .u8 0, .int .u8 0, .int .u8 0, .int .u8 0, .int .u32 0, .int .u8 0, .int .u8 0, .int .u8 0, .int .u8 0, .int .u8 0, .int .u8 0, .int .u8 0, .int .u8 0, .int .u8 0, .int .u8 0, .int .u8 0, .int .u8 0, .slice none 0 0, .slice none 0 0]) #[.int .i64 0, .slice none 0 0, .int .u8 0, .int .u8 0, .int .u8 0, .int .u8 0, .int .u8 0, .int .u8 0, .int .u8 0, .int .u8 0, .int .u8 0, .int .u8 0, .int .u8 0, .int .u8 0, .int .u8 0, .int .u8 0, .int .u8 0, .int .u8 0, .int .u8 0, .int .u8 0, .int .u8 0, .int .u8 0, .int .u8 0, .int .u8 0, .int .u8 0, .int .u8 0, .int .u8 0, .int .u8 0, .int .u8 0, .int .u8 0, .int .u8 0, .int .u8 0, .int .u8 0, .int .u8 0, .int .u32 0, .int .u8 0, .int .u8 0, .int .u8 0, .int .u8 0, .int .u8 0, .int .u8 0, .int .u8 0, .int .u8 0, .int .u8 0, .int .u8 0, .int .u8 0, .int .u8 0, .slice none 0 0, .slice none 0 0] := Ty.mk' (by kernel_rfl) rfl rfl
instance : Bytes Tryd.prog 53 128 := ⟨by kernel_rfl⟩
instance : SliceTy Tryd.prog 59 31 := ⟨Tryd.underlying59⟩
instance : Ty Tryd.prog 59 false 1 (.slice none 0 0) #[.slice none 0 0] := Ty.mk' (by kernel_rfl) rfl rfl
instance : Bytes Tryd.prog 59 24 := ⟨by kernel_rfl⟩
instance : MapTy Tryd.prog 67 35 3 := ⟨Tryd.underlying67⟩
instance : Ty Tryd.prog 67 false 1 (.map none) #[.map none] := Ty.mk' (by kernel_rfl) rfl rfl
instance : Bytes Tryd.prog 67 8 := ⟨by kernel_rfl⟩
instance : SliceTy Tryd.prog 68 72 := ⟨Tryd.underlying68⟩
instance : Ty Tryd.prog 68 false 1 (.slice none 0 0) #[.slice none 0 0] := Ty.mk' (by kernel_rfl) rfl rfl
instance : Bytes Tryd.prog 68 24 := ⟨by kernel_rfl⟩
instance : Ty Tryd.prog 70 true 3 (.agg #[.slice none 0 0, .slice none 0 0, .slice none 0 0]) #[.slice none 0 0, .slice none 0 0, .slice none 0 0] := Ty.mk' (by kernel_rfl) rfl rfl
instance : Bytes Tryd.prog 70 72 := ⟨by kernel_rfl⟩
instance : Ty Tryd.prog 72 true 33 (.agg #[.slice none 0 0, .int .u8 0, .int .u8 0, .int .u8 0, .int .u8 0, .int .u8 0, .int .u8 0, .int .u8 0, .int .u8 0, .int .u8 0, .int .u8 0, .int .u8 0, .int .u8 0, .int .u8 0, .int .u8 0, .int .u8 0, .int .u8 0, .int .u8 0, .int .u8 0, .int .u8 0, .int .u8 0, .int .u8 0, .int .u8 0, .int .u8 0, .int .u8 0, .int .u8 0, .int .u8 0, .int .u8 0, .int .u8 0, .int .u8 0, .int .u8 0, .int .u8 0, .int .u8 0]) #[.slice none 0 0, .int .u8 0, .int .u8 0, .int .u8 0, .int .u8 0, .int .u8 0, .int .u8 0, .int .u8 0, .int .u8 0, .int .u8 0, .int .u8 0, .int .u8 0, .int .u8 0, .int .u8 0, .int .u8 0, .int .u8 0, .int .u8 0, .int .u8 0, .int .u8 0, .int .u8 0, .int .u8 0, .int .u8 0, .int .u8 0, .int .u8 0, .int .u8 0, .int .u8 0, .int .u8 0, .int .u8 0, .int .u8 0, .int .u8 0, .int .u8 0, .int .u8 0, .int .u8 0] := Ty.mk' (by kernel_rfl) rfl rfl
instance : Bytes Tryd.prog 72 56 := ⟨by kernel_rfl⟩
instance : MapTy Tryd.prog 74 76 39 := ⟨Tryd.underlying74⟩
instance : Ty Tryd.prog 74 false 1 (.map none) #[.map none] := Ty.mk' (by kernel_rfl) rfl rfl
instance : Bytes Tryd.prog 74 8 := ⟨by kernel_rfl⟩
instance : Ty Tryd.prog 76 true 13 (.agg #[.int .u32 0, .int .u8 0, .int .u8 0, .int .u8 0, .int .u8 0, .int .u8 0, .int .u8 0, .int .u8 0, .int .u8 0, .int .u8 0, .int .u8 0, .int .u8 0, .int .u8 0]) #[.int .u32 0, .int .u8 0, .int .u8 0, .int .u8 0, .int .u8 0, .int .u8 0, .int .u8 0, .int .u8 0, .int .u8 0, .int .u8 0, .int .u8 0, .int .u8 0, .int .u8 0] := Ty.mk' (by kernel_rfl) rfl rfl
instance : Bytes Tryd.prog 76 16 := ⟨by kernel_rfl⟩
instance : Ty Tryd.prog 78 true 64 (.agg #[.int .u32 0, .int .u32 0, .int .u32 0, .int .u32 0, .int .u32 0, .int .u32 0, .int .u32 0, .int .u32 0, .int .u32 0, .int .u32 0, .int .u32 0, .int .u32 0, .int .u32 0, .int .u32 0, .int .u32 0, .int .u32 0, .int .u32 0, .int .u32 0, .int .u32 0, .int .u32 0, .int .u32 0, .int .u32 0, .int .u32 0, .int .u32 0, .int .u32 0, .int .u32 0, .int .u32 0, .int .u32 0, .int .u32 0, .int .u32 0, .int .u32 0, .int .u32 0, .int .u32 0, .int .u32 0, .int .u32 0, .int .u32 0, .int .u32 0, .int .u32 0, .int .u32 0, .int .u32 0, .int .u32 0, .int .u32 0, .int .u32 0, .int .u32 0, .int .u32 0, .int .u32 0, .int .u32 0, .int .u32 0, .int .u32 0, .int .u32 0, .int .u32 0, .int .u32 0, .int .u32 0, .int .u32 0, .int .u32 0, .int .u32 0, .int .u32 0, .int .u32 0, .int .u32 0, .int .u32 0, .int .u32 0, .int .u32 0, .int .u32 0, .int .u32 0]) #[.int .u32 0, .int .u32 0, .int .u32 0, .int .u32 0, .int .u32 0, .int .u32 0, .int .u32 0, .int .u32 0, .int .u32 0, .int .u32 0, .int .u32 0, .int .u32 0, .int .u32 0, .int .u32 0, .int .u32 0, .int .u32 0, .int .u32 0, .int .u32 0, .int .u32 0, .int .u32 0, .int .u32 0, .int .u32 0, .int .u32 0, .int .u32 0, .int .u32 0, .int .u32 0, .int .u32 0, .int .u32 0, .int .u32 0, .int .u32 0, .int .u32 0, .int .u32 0, .int .u32 0, .int .u32 0, .int .u32 0, .int .u32 0, .int .u32 0, .int .u32 0, .int .u32 0, .int .u32 0, .int .u32 0, .int .u32 0, .int .u32 0, .int .u32 0, .int .u32 0, .int .u32 0, .int .u32 0, .int .u32 0, .int .u32 0, .int .u32 0, .int .u32 0, .int .u32 0, .int .u32 0, .int .u32 0, .int .u32 0, .int .u32 0, .int .u32 0, .int .u32 0, .int .u32 0, .int .u32 0, .int .u32 0, .int .u32 0, .int .u32 0, .int .u32 0] := Ty.mk' (by kernel_rfl) rfl rfl
instance : Bytes Tryd.prog 78 256 := ⟨by kernel_rfl⟩
instance : Ty Tryd.prog 80 true 8 (.agg #[.int .u32 0, .int .u32 0, .int .u32 0, .int .u32 0, .int .u32 0, .int .u32 0, .int .u32 0, .int .u32 0]) #[.int .u32 0, .int .u32 0, .int .u32 0, .int .u32 0, .int .u32 0, .int .u32 0, .int .u32 0, .int .u32 0] := Ty.mk' (by kernel_rfl) rfl rfl
instance : Bytes Tryd.prog 80 32 := ⟨by kernel_rfl⟩
instance : Ty Tryd.prog 81 false 1 (.int .u64 0) #[.int .u64 0] := Ty.mk' (by kernel_rfl) rfl rfl
instance : Bytes Tryd.prog 81 8 := ⟨by kernel_rfl⟩
instance : MapTy Tryd.prog 83 76 3 := ⟨Tryd.underlying83⟩
instance : Ty Tryd.prog 83 false 1 (.map none) #[.map none] := Ty.mk' (by kernel_rfl) rfl rfl
instance : Bytes Tryd.prog 83 8 := ⟨by kernel_rfl⟩
instance : Ty Tryd.prog 85 false 1 (.pointer none) #[.pointer none] := Ty.mk' (by kernel_rfl) rfl rfl
instance : Bytes Tryd.prog 85 8 := ⟨by kernel_rfl⟩
instance : Ty Tryd.prog 89 false 1 (.int .u64 0) #[.int .u64 0] := Ty.mk' (by kernel_rfl) rfl rfl
instance : Bytes Tryd.prog 89 8 := ⟨by kernel_rfl⟩
instance : Ty Tryd.prog 91 true 10 (.agg #[.int .u32 0, .int .u32 0, .int .u32 0, .int .u32 0, .int .u32 0, .int .u32 0, .int .u32 0, .int .u32 0, .slice none 0 0, .int .u64 0]) #[.int .u32 0, .int .u32 0, .int .u32 0, .int .u32 0, .int .u32 0, .int .u32 0, .int .u32 0, .int .u32 0, .slice none 0 0, .int .u64 0] := Ty.mk' (by kernel_rfl) rfl rfl
instance : Bytes Tryd.prog 91 64 := ⟨by kernel_rfl⟩
instance : Ty Tryd.prog 93 true 64 (.agg #[.int .u8 0, .int .u8 0, .int .u8 0, .int .u8 0, .int .u8 0, .int .u8 0, .int .u8 0, .int .u8 0, .int .u8 0, .int .u8 0, .int .u8 0, .int .u8 0, .int .u8 0, .int .u8 0, .int .u8 0, .int .u8 0, .int .u8 0, .int .u8 0, .int .u8 0, .int .u8 0, .int .u8 0, .int .u8 0, .int .u8 0, .int .u8 0, .int .u8 0, .int .u8 0, .int .u8 0, .int .u8 0, .int .u8 0, .int .u8 0, .int .u8 0, .int .u8 0, .int .u8 0, .int .u8 0, .int .u8 0, .int .u8 0, .int .u8 0, .int .u8 0, .int .u8 0, .int .u8 0, .int .u8 0, .int .u8 0, .int .u8 0, .int .u8 0, .int .u8 0, .int .u8 0, .int .u8 0, .int .u8 0, .int .u8 0, .int .u8 0, .int .u8 0, .int .u8 0, .int .u8 0, .int .u8 0, .int .u8 0, .int .u8 0, .int .u8 0, .int .u8 0, .int .u8 0, .int .u8 0, .int .u8 0, .int .u8 0, .int .u8 0, .int .u8 0]) #[.int .u8 0, .int .u8 0, .int .u8 0, .int .u8 0, .int .u8 0, .int .u8 0, .int .u8 0, .int .u8 0, .int .u8 0, .int .u8 0, .int .u8 0, .int .u8 0, .int .u8 0, .int .u8 0, .int .u8 0, .int .u8 0, .int .u8 0, .int .u8 0, .int .u8 0, .int .u8 0, .int .u8 0, .int .u8 0, .int .u8 0, .int .u8 0, .int .u8 0, .int .u8 0, .int .u8 0, .int .u8 0, .int .u8 0, .int .u8 0, .int .u8 0, .int .u8 0, .int .u8 0, .int .u8 0, .int .u8 0, .int .u8 0, .int .u8 0, .int .u8 0, .int .u8 0, .int .u8 0, .int .u8 0, .int .u8 0, .int .u8 0, .int .u8 0, .int .u8 0, .int .u8 0, .int .u8 0, .int .u8 0, .int .u8 0, .int .u8 0, .int .u8 0, .int .u8 0, .int .u8 0, .int .u8 0, .int .u8 0, .int .u8 0, .int .u8 0, .int .u8 0, .int .u8 0, .int .u8 0, .int .u8 0, .int .u8 0, .int .u8 0, .int .u8 0] := Ty.mk' (by kernel_rfl) rfl rfl
instance : Bytes Tryd.prog 93 64 := ⟨by kernel_rfl⟩
instance : Ty Tryd.prog 98 true 0 (.agg #[]) #[] := Ty.mk' (by kernel_rfl) rfl rfl
instance : Bytes Tryd.prog 98 0 := ⟨by kernel_rfl⟩
instance : Ty Tryd.prog 104 false 1 (.pointer none) #[.pointer none] := Ty.mk' (by kernel_rfl) rfl rfl
instance : Bytes Tryd.prog 104 8 := ⟨by kernel_rfl⟩
instance : Ty Tryd.prog 109 false 1 (.pointer none) #[.pointer none] := Ty.mk' (by kernel_rfl) rfl rfl
instance : Bytes Tryd.prog 109 8 := ⟨by kernel_rfl⟩
end Go.Proofs.YteoidocicjlglaaDoor

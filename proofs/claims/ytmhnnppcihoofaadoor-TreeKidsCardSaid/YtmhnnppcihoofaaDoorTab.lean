/-
  The seat's types, for the small separation logic: written by program off the seat's own tables.
-/
import Derived.Test.YtmhnnppcihoofaaDoorRows
import Derived.Test.YtmhnnppcihoofaaDoorSlA
set_option linter.unusedSimpArgs false
set_option linter.unusedVariables false
namespace Go.Proofs.YtmhnnppcihoofaaDoor
open Go.Proofs.YtmhnnppcihoofaaDoor.Sl
instance : Ty Tryd.prog 2 false 1 (.int .i64 0) #[.int .i64 0] := Ty.mk' (by kernel_rfl) rfl rfl
instance : Bytes Tryd.prog 2 8 := ⟨by kernel_rfl⟩
instance : Ty Tryd.prog 3 false 1 (.int .i64 0) #[.int .i64 0] := Ty.mk' (by kernel_rfl) rfl rfl
instance : Bytes Tryd.prog 3 8 := ⟨by kernel_rfl⟩
instance : Ty Tryd.prog 4 false 1 (.bool false) #[.bool false] := Ty.mk' (by kernel_rfl) rfl rfl
instance : Bytes Tryd.prog 4 1 := ⟨by kernel_rfl⟩
instance : Ty Tryd.prog 5 false 1 (.int .u8 0) #[.int .u8 0] := Ty.mk' (by kernel_rfl) rfl rfl
instance : Bytes Tryd.prog 5 1 := ⟨by kernel_rfl⟩
instance : Ty Tryd.prog 9 false 1 (.string ByteArray.empty) #[.string ByteArray.empty] := Ty.mk' (by kernel_rfl) rfl rfl
instance : Bytes Tryd.prog 9 16 := ⟨by kernel_rfl⟩
instance : Ty Tryd.prog 12 false 1 (.int .u64 0) #[.int .u64 0] := Ty.mk' (by kernel_rfl) rfl rfl
instance : Bytes Tryd.prog 12 8 := ⟨by kernel_rfl⟩
instance : Ty Tryd.prog 20 false 1 (.nilIface) #[.nilIface] := Ty.mk' (by kernel_rfl) rfl rfl
instance : Bytes Tryd.prog 20 16 := ⟨by kernel_rfl⟩
instance : Ty Tryd.prog 21 false 1 (.int .i32 0) #[.int .i32 0] := Ty.mk' (by kernel_rfl) rfl rfl
instance : Bytes Tryd.prog 21 4 := ⟨by kernel_rfl⟩
instance : SliceTy Tryd.prog 22 5 := ⟨Tryd.underlying22⟩
instance : Ty Tryd.prog 22 false 1 (.slice none 0 0) #[.slice none 0 0] := Ty.mk' (by kernel_rfl) rfl rfl
instance : Bytes Tryd.prog 22 24 := ⟨by kernel_rfl⟩
instance : Ty Tryd.prog 23 true 32 (.agg #[.int .u8 0, .int .u8 0, .int .u8 0, .int .u8 0, .int .u8 0, .int .u8 0, .int .u8 0, .int .u8 0, .int .u8 0, .int .u8 0, .int .u8 0, .int .u8 0, .int .u8 0, .int .u8 0, .int .u8 0, .int .u8 0, .int .u8 0, .int .u8 0, .int .u8 0, .int .u8 0, .int .u8 0, .int .u8 0, .int .u8 0, .int .u8 0, .int .u8 0, .int .u8 0, .int .u8 0, .int .u8 0, .int .u8 0, .int .u8 0, .int .u8 0, .int .u8 0]) #[.int .u8 0, .int .u8 0, .int .u8 0, .int .u8 0, .int .u8 0, .int .u8 0, .int .u8 0, .int .u8 0, .int .u8 0, .int .u8 0, .int .u8 0, .int .u8 0, .int .u8 0, .int .u8 0, .int .u8 0, .int .u8 0, .int .u8 0, .int .u8 0, .int .u8 0, .int .u8 0, .int .u8 0, .int .u8 0, .int .u8 0, .int .u8 0, .int .u8 0, .int .u8 0, .int .u8 0, .int .u8 0, .int .u8 0, .int .u8 0, .int .u8 0, .int .u8 0] := Ty.mk' (by kernel_rfl) rfl rfl
instance : Bytes Tryd.prog 23 32 := ⟨by kernel_rfl⟩
instance : Ty Tryd.prog 26 false 1 (.int .i64 0) #[.int .i64 0] := Ty.mk' (by kernel_rfl) rfl rfl
instance : Bytes Tryd.prog 26 8 := ⟨by kernel_rfl⟩
instance : SliceTy Tryd.prog 36 3 := ⟨Tryd.underlying36⟩
instance : Ty Tryd.prog 36 false 1 (.slice none 0 0) #[.slice none 0 0] := Ty.mk' (by kernel_rfl) rfl rfl
instance : Bytes Tryd.prog 36 24 := ⟨by kernel_rfl⟩
instance : Ty Tryd.prog 38 true 10 (.agg #[.int .i64 0, .int .i64 0, .int .i64 0, .slice none 0 0, .int .i64 0, .int .i64 0, .int .i64 0, .int .i64 0, .int .i64 0, .int .i64 0]) #[.int .i64 0, .int .i64 0, .int .i64 0, .slice none 0 0, .int .i64 0, .int .i64 0, .int .i64 0, .int .i64 0, .int .i64 0, .int .i64 0] := Ty.mk' (by kernel_rfl) rfl rfl
instance : Bytes Tryd.prog 38 96 := ⟨by kernel_rfl⟩
instance : SliceTy Tryd.prog 39 22 := ⟨Tryd.underlying39⟩
instance : Ty Tryd.prog 39 false 1 (.slice none 0 0) #[.slice none 0 0] := Ty.mk' (by kernel_rfl) rfl rfl
instance : Bytes Tryd.prog 39 24 := ⟨by kernel_rfl⟩
instance : Ty Tryd.prog 48 false 1 (.pointer none) #[.pointer none] := Ty.mk' (by kernel_rfl) rfl rfl
instance : Bytes Tryd.prog 48 8 := ⟨by kernel_rfl⟩
instance : Ty Tryd.prog 54 false 1 (.int .u64 0) #[.int .u64 0] := Ty.mk' (by kernel_rfl) rfl rfl
instance : Bytes Tryd.prog 54 8 := ⟨by kernel_rfl⟩
instance : Ty Tryd.prog 55 false 1 (.int .u32 0) #[.int .u32 0] := Ty.mk' (by kernel_rfl) rfl rfl
instance : Bytes Tryd.prog 55 4 := ⟨by kernel_rfl⟩
instance : Ty Tryd.prog 57 true 64 (.agg #[.int .u32 0, .int .u32 0, .int .u32 0, .int .u32 0, .int .u32 0, .int .u32 0, .int .u32 0, .int .u32 0, .int .u32 0, .int .u32 0, .int .u32 0, .int .u32 0, .int .u32 0, .int .u32 0, .int .u32 0, .int .u32 0, .int .u32 0, .int .u32 0, .int .u32 0, .int .u32 0, .int .u32 0, .int .u32 0, .int .u32 0, .int .u32 0, .int .u32 0, .int .u32 0, .int .u32 0, .int .u32 0, .int .u32 0, .int .u32 0, .int .u32 0, .int .u32 0, .int .u32 0, .int .u32 0, .int .u32 0, .int .u32 0, .int .u32 0, .int .u32 0, .int .u32 0, .int .u32 0, .int .u32 0, .int .u32 0, .int .u32 0, .int .u32 0, .int .u32 0, .int .u32 0, .int .u32 0, .int .u32 0, .int .u32 0, .int .u32 0, .int .u32 0, .int .u32 0, .int .u32 0, .int .u32 0, .int .u32 0, .int .u32 0, .int .u32 0, .int .u32 0, .int .u32 0, .int .u32 0, .int .u32 0, .int .u32 0, .int .u32 0, .int .u32 0]) #[.int .u32 0, .int .u32 0, .int .u32 0, .int .u32 0, .int .u32 0, .int .u32 0, .int .u32 0, .int .u32 0, .int .u32 0, .int .u32 0, .int .u32 0, .int .u32 0, .int .u32 0, .int .u32 0, .int .u32 0, .int .u32 0, .int .u32 0, .int .u32 0, .int .u32 0, .int .u32 0, .int .u32 0, .int .u32 0, .int .u32 0, .int .u32 0, .int .u32 0, .int .u32 0, .int .u32 0, .int .u32 0, .int .u32 0, .int .u32 0, .int .u32 0, .int .u32 0, .int .u32 0, .int .u32 0, .int .u32 0, .int .u32 0, .int .u32 0, .int .u32 0, .int .u32 0, .int .u32 0, .int .u32 0, .int .u32 0, .int .u32 0, .int .u32 0, .int .u32 0, .int .u32 0, .int .u32 0, .int .u32 0, .int .u32 0, .int .u32 0, .int .u32 0, .int .u32 0, .int .u32 0, .int .u32 0, .int .u32 0, .int .u32 0, .int .u32 0, .int .u32 0, .int .u32 0, .int .u32 0, .int .u32 0, .int .u32 0, .int .u32 0, .int .u32 0] := Ty.mk' (by kernel_rfl) rfl rfl
instance : Bytes Tryd.prog 57 256 := ⟨by kernel_rfl⟩
instance : Ty Tryd.prog 59 true 8 (.agg #[.int .u32 0, .int .u32 0, .int .u32 0, .int .u32 0, .int .u32 0, .int .u32 0, .int .u32 0, .int .u32 0]) #[.int .u32 0, .int .u32 0, .int .u32 0, .int .u32 0, .int .u32 0, .int .u32 0, .int .u32 0, .int .u32 0] := Ty.mk' (by kernel_rfl) rfl rfl
instance : Bytes Tryd.prog 59 32 := ⟨by kernel_rfl⟩
instance : Ty Tryd.prog 60 false 1 (.int .u64 0) #[.int .u64 0] := Ty.mk' (by kernel_rfl) rfl rfl
instance : Bytes Tryd.prog 60 8 := ⟨by kernel_rfl⟩
instance : Ty Tryd.prog 65 false 1 (.pointer none) #[.pointer none] := Ty.mk' (by kernel_rfl) rfl rfl
instance : Bytes Tryd.prog 65 8 := ⟨by kernel_rfl⟩
instance : SliceTy Tryd.prog 69 74 := ⟨Tryd.underlying69⟩
instance : Ty Tryd.prog 69 false 1 (.slice none 0 0) #[.slice none 0 0] := Ty.mk' (by kernel_rfl) rfl rfl
instance : Bytes Tryd.prog 69 24 := ⟨by kernel_rfl⟩
instance : SliceTy Tryd.prog 70 98 := ⟨Tryd.underlying70⟩
instance : Ty Tryd.prog 70 false 1 (.slice none 0 0) #[.slice none 0 0] := Ty.mk' (by kernel_rfl) rfl rfl
instance : Bytes Tryd.prog 70 24 := ⟨by kernel_rfl⟩
instance : Ty Tryd.prog 72 true 3 (.agg #[.slice none 0 0, .slice none 0 0, .slice none 0 0]) #[.slice none 0 0, .slice none 0 0, .slice none 0 0] := Ty.mk' (by kernel_rfl) rfl rfl
instance : Bytes Tryd.prog 72 72 := ⟨by kernel_rfl⟩
instance : Ty Tryd.prog 74 true 33 (.agg #[.slice none 0 0, .int .u8 0, .int .u8 0, .int .u8 0, .int .u8 0, .int .u8 0, .int .u8 0, .int .u8 0, .int .u8 0, .int .u8 0, .int .u8 0, .int .u8 0, .int .u8 0, .int .u8 0, .int .u8 0, .int .u8 0, .int .u8 0, .int .u8 0, .int .u8 0, .int .u8 0, .int .u8 0, .int .u8 0, .int .u8 0, .int .u8 0, .int .u8 0, .int .u8 0, .int .u8 0, .int .u8 0, .int .u8 0, .int .u8 0, .int .u8 0, .int .u8 0, .int .u8 0]) #[.slice none 0 0, .int .u8 0, .int .u8 0, .int .u8 0, .int .u8 0, .int .u8 0, .int .u8 0, .int .u8 0, .int .u8 0, .int .u8 0, .int .u8 0, .int .u8 0, .int .u8 0, .int .u8 0, .int .u8 0, .int .u8 0, .int .u8 0, .int .u8 0, .int .u8 0, .int .u8 0, .int .u8 0, .int .u8 0, .int .u8 0, .int .u8 0, .int .u8 0, .int .u8 0, .int .u8 0, .int .u8 0, .int .u8 0, .int .u8 0, .int .u8 0, .int .u8 0, .int .u8 0] := Ty.mk' (by kernel_rfl) rfl rfl
instance : Bytes Tryd.prog 74 56 := ⟨by kernel_rfl⟩
instance : Ty Tryd.prog 76 true 10 (.agg #[.int .u32 0, .int .u32 0, .int .u32 0, .int .u32 0, .int .u32 0, .int .u32 0, .int .u32 0, .int .u32 0, .slice none 0 0, .int .u64 0]) #[.int .u32 0, .int .u32 0, .int .u32 0, .int .u32 0, .int .u32 0, .int .u32 0, .int .u32 0, .int .u32 0, .slice none 0 0, .int .u64 0] := Ty.mk' (by kernel_rfl) rfl rfl
instance : Bytes Tryd.prog 76 64 := ⟨by kernel_rfl⟩
instance : Ty Tryd.prog 78 true 64 (.agg #[.int .u8 0, .int .u8 0, .int .u8 0, .int .u8 0, .int .u8 0, .int .u8 0, .int .u8 0, .int .u8 0, .int .u8 0, .int .u8 0, .int .u8 0, .int .u8 0, .int .u8 0, .int .u8 0, .int .u8 0, .int .u8 0, .int .u8 0, .int .u8 0, .int .u8 0, .int .u8 0, .int .u8 0, .int .u8 0, .int .u8 0, .int .u8 0, .int .u8 0, .int .u8 0, .int .u8 0, .int .u8 0, .int .u8 0, .int .u8 0, .int .u8 0, .int .u8 0, .int .u8 0, .int .u8 0, .int .u8 0, .int .u8 0, .int .u8 0, .int .u8 0, .int .u8 0, .int .u8 0, .int .u8 0, .int .u8 0, .int .u8 0, .int .u8 0, .int .u8 0, .int .u8 0, .int .u8 0, .int .u8 0, .int .u8 0, .int .u8 0, .int .u8 0, .int .u8 0, .int .u8 0, .int .u8 0, .int .u8 0, .int .u8 0, .int .u8 0, .int .u8 0, .int .u8 0, .int .u8 0, .int .u8 0, .int .u8 0, .int .u8 0, .int .u8 0]) #[.int .u8 0, .int .u8 0, .int .u8 0, .int .u8 0, .int .u8 0, .int .u8 0, .int .u8 0, .int .u8 0, .int .u8 0, .int .u8 0, .int .u8 0, .int .u8 0, .int .u8 0, .int .u8 0, .int .u8 0, .int .u8 0, .int .u8 0, .int .u8 0, .int .u8 0, .int .u8 0, .int .u8 0, .int .u8 0, .int .u8 0, .int .u8 0, .int .u8 0, .int .u8 0, .int .u8 0, .int .u8 0, .int .u8 0, .int .u8 0, .int .u8 0, .int .u8 0, .int .u8 0, .int .u8 0, .int .u8 0, .int .u8 0, .int .u8 0, .int .u8 0, .int .u8 0, .int .u8 0, .int .u8 0, .int .u8 0, .int .u8 0, .int .u8 0, .int .u8 0, .int .u8 0, .int .u8 0, .int .u8 0, .int .u8 0, .int .u8 0, .int .u8 0, .int .u8 0, .int .u8 0, .int .u8 0, .int .u8 0, .int .u8 0, .int .u8 0, .int .u8 0, .int .u8 0, .int .u8 0, .int .u8 0, .int .u8 0, .int .u8 0, .int .u8 0] := Ty.mk' (by kernel_rfl) rfl rfl
instance : Bytes Tryd.prog 78 64 := ⟨by kernel_rfl⟩
instance : Ty Tryd.prog 83 true 0 (.agg #[]) #[] := Ty.mk' (by kernel_rfl) rfl rfl
instance : Bytes Tryd.prog 83 0 := ⟨by kernel_rfl⟩
instance : Ty Tryd.prog 90 false 1 (.pointer none) #[.pointer none] := Ty.mk' (by kernel_rfl) rfl rfl
instance : Bytes Tryd.prog 90 8 := ⟨by kernel_rfl⟩
instance : Ty Tryd.prog 96 true 12 (.agg #[.int .u8 0, .int .u8 0, .int .u8 0, .int .u8 0, .int .u8 0, .int .u8 0, .int .u8 0, .int .u8 0, .int .u8 0, .int .u8 0, .int .u8 0, .int .u8 0]) #[.int .u8 0, .int .u8 0, .int .u8 0, .int .u8 0, .int .u8 0, .int .u8 0, .int .u8 0, .int .u8 0, .int .u8 0, .int .u8 0, .int .u8 0, .int .u8 0] := Ty.mk' (by kernel_rfl) rfl rfl
instance : Bytes Tryd.prog 96 12 := ⟨by kernel_rfl⟩
instance : Ty Tryd.prog 98 true 15 (.agg #[.int .u32 0, .int .u8 0, .int .u8 0, .int .u8 0, .int .u8 0, .int .u8 0, .int .u8 0, .int .u8 0, .int .u8 0, .int .u8 0, .int .u8 0, .int .u8 0, .int .u8 0, .slice none 0 0, .slice none 0 0]) #[.int .u32 0, .int .u8 0, .int .u8 0, .int .u8 0, .int .u8 0, .int .u8 0, .int .u8 0, .int .u8 0, .int .u8 0, .int .u8 0, .int .u8 0, .int .u8 0, .int .u8 0, .slice none 0 0, .slice none 0 0] := Ty.mk' (by kernel_rfl) rfl rfl
instance : Bytes Tryd.prog 98 64 := ⟨by kernel_rfl⟩
instance : Ty Tryd.prog 99 false 1 (.pointer none) #[.pointer none] := Ty.mk' (by kernel_rfl) rfl rfl
instance : Bytes Tryd.prog 99 8 := ⟨by kernel_rfl⟩
end Go.Proofs.YtmhnnppcihoofaaDoor

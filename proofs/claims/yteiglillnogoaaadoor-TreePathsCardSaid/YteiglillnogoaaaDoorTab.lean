/-
  The seat's types, for the small separation logic: written by program off the seat's own tables.
-/
import Derived.Test.YteiglillnogoaaaDoorRows
import Derived.Test.YteiglillnogoaaaDoorSlA
set_option linter.unusedSimpArgs false
set_option linter.unusedVariables false
namespace Go.Proofs.YteiglillnogoaaaDoor
open Go.Proofs.YteiglillnogoaaaDoor.Sl
instance : Ty Tryd.prog 2 false 1 (.int .i64 0) #[.int .i64 0] := Ty.mk' (by kernel_rfl) rfl rfl
instance : Bytes Tryd.prog 2 8 := ⟨by kernel_rfl⟩
instance : Ty Tryd.prog 3 false 1 (.int .i64 0) #[.int .i64 0] := Ty.mk' (by kernel_rfl) rfl rfl
instance : Bytes Tryd.prog 3 8 := ⟨by kernel_rfl⟩
instance : Ty Tryd.prog 4 false 1 (.bool false) #[.bool false] := Ty.mk' (by kernel_rfl) rfl rfl
instance : Bytes Tryd.prog 4 1 := ⟨by kernel_rfl⟩
instance : Ty Tryd.prog 5 false 1 (.int .u8 0) #[.int .u8 0] := Ty.mk' (by kernel_rfl) rfl rfl
instance : Bytes Tryd.prog 5 1 := ⟨by kernel_rfl⟩
instance : Ty Tryd.prog 9 false 1 (.string ByteArray.empty) #[.string ByteArray.empty] := Ty.mk' (by kernel_rfl) rfl rfl
instance : Bytes Tryd.prog 9 16 := ⟨by kernel_rfl⟩
instance : Ty Tryd.prog 12 false 1 (.int .u64 0) #[.int .u64 0] := Ty.mk' (by kernel_rfl) rfl rfl
instance : Bytes Tryd.prog 12 8 := ⟨by kernel_rfl⟩
instance : Ty Tryd.prog 20 false 1 (.nilIface) #[.nilIface] := Ty.mk' (by kernel_rfl) rfl rfl
instance : Bytes Tryd.prog 20 16 := ⟨by kernel_rfl⟩
instance : Ty Tryd.prog 21 false 1 (.int .i32 0) #[.int .i32 0] := Ty.mk' (by kernel_rfl) rfl rfl
instance : Bytes Tryd.prog 21 4 := ⟨by kernel_rfl⟩
instance : SliceTy Tryd.prog 22 5 := ⟨Tryd.underlying22⟩
instance : Ty Tryd.prog 22 false 1 (.slice none 0 0) #[.slice none 0 0] := Ty.mk' (by kernel_rfl) rfl rfl
instance : Bytes Tryd.prog 22 24 := ⟨by kernel_rfl⟩
instance : SliceTy Tryd.prog 23 3 := ⟨Tryd.underlying23⟩
instance : Ty Tryd.prog 23 false 1 (.slice none 0 0) #[.slice none 0 0] := Ty.mk' (by kernel_rfl) rfl rfl
instance : Bytes Tryd.prog 23 24 := ⟨by kernel_rfl⟩
instance : Ty Tryd.prog 25 true 10 (.agg #[.int .i64 0, .int .i64 0, .int .i64 0, .slice none 0 0, .int .i64 0, .int .i64 0, .int .i64 0, .int .i64 0, .int .i64 0, .int .i64 0]) #[.int .i64 0, .int .i64 0, .int .i64 0, .slice none 0 0, .int .i64 0, .int .i64 0, .int .i64 0, .int .i64 0, .int .i64 0, .int .i64 0] := Ty.mk' (by kernel_rfl) rfl rfl
instance : Bytes Tryd.prog 25 96 := ⟨by kernel_rfl⟩
instance : SliceTy Tryd.prog 26 22 := ⟨Tryd.underlying26⟩
instance : Ty Tryd.prog 26 false 1 (.slice none 0 0) #[.slice none 0 0] := Ty.mk' (by kernel_rfl) rfl rfl
instance : Bytes Tryd.prog 26 24 := ⟨by kernel_rfl⟩
instance : Ty Tryd.prog 29 true 32 (.agg #[.int .u8 0, .int .u8 0, .int .u8 0, .int .u8 0, .int .u8 0, .int .u8 0, .int .u8 0, .int .u8 0, .int .u8 0, .int .u8 0, .int .u8 0, .int .u8 0, .int .u8 0, .int .u8 0, .int .u8 0, .int .u8 0, .int .u8 0, .int .u8 0, .int .u8 0, .int .u8 0, .int .u8 0, .int .u8 0, .int .u8 0, .int .u8 0, .int .u8 0, .int .u8 0, .int .u8 0, .int .u8 0, .int .u8 0, .int .u8 0, .int .u8 0, .int .u8 0]) #[.int .u8 0, .int .u8 0, .int .u8 0, .int .u8 0, .int .u8 0, .int .u8 0, .int .u8 0, .int .u8 0, .int .u8 0, .int .u8 0, .int .u8 0, .int .u8 0, .int .u8 0, .int .u8 0, .int .u8 0, .int .u8 0, .int .u8 0, .int .u8 0, .int .u8 0, .int .u8 0, .int .u8 0, .int .u8 0, .int .u8 0, .int .u8 0, .int .u8 0, .int .u8 0, .int .u8 0, .int .u8 0, .int .u8 0, .int .u8 0, .int .u8 0, .int .u8 0] := Ty.mk' (by kernel_rfl) rfl rfl
instance : Bytes Tryd.prog 29 32 := ⟨by kernel_rfl⟩
instance : Ty Tryd.prog 30 false 1 (.int .i64 0) #[.int .i64 0] := Ty.mk' (by kernel_rfl) rfl rfl
instance : Bytes Tryd.prog 30 8 := ⟨by kernel_rfl⟩
instance : Ty Tryd.prog 33 false 1 (.pointer none) #[.pointer none] := Ty.mk' (by kernel_rfl) rfl rfl
instance : Bytes Tryd.prog 33 8 := ⟨by kernel_rfl⟩
instance : SliceTy Tryd.prog 65 88 := ⟨Tryd.underlying65⟩
instance : Ty Tryd.prog 65 false 1 (.slice none 0 0) #[.slice none 0 0] := Ty.mk' (by kernel_rfl) rfl rfl
instance : Bytes Tryd.prog 65 24 := ⟨by kernel_rfl⟩
instance : SliceTy Tryd.prog 66 128 := ⟨Tryd.underlying66⟩
instance : Ty Tryd.prog 66 false 1 (.slice none 0 0) #[.slice none 0 0] := Ty.mk' (by kernel_rfl) rfl rfl
instance : Bytes Tryd.prog 66 24 := ⟨by kernel_rfl⟩
instance : Ty Tryd.prog 68 true 3 (.agg #[.slice none 0 0, .slice none 0 0, .slice none 0 0]) #[.slice none 0 0, .slice none 0 0, .slice none 0 0] := Ty.mk' (by kernel_rfl) rfl rfl
instance : Bytes Tryd.prog 68 72 := ⟨by kernel_rfl⟩
instance : Ty Tryd.prog 70 true 2 (.agg #[.int .i64 0, .int .i64 0]) #[.int .i64 0, .int .i64 0] := Ty.mk' (by kernel_rfl) rfl rfl
instance : Bytes Tryd.prog 70 16 := ⟨by kernel_rfl⟩
instance : Ty Tryd.prog 74 false 1 (.int .u64 0) #[.int .u64 0] := Ty.mk' (by kernel_rfl) rfl rfl
instance : Bytes Tryd.prog 74 8 := ⟨by kernel_rfl⟩
instance : Ty Tryd.prog 75 false 1 (.int .u32 0) #[.int .u32 0] := Ty.mk' (by kernel_rfl) rfl rfl
instance : Bytes Tryd.prog 75 4 := ⟨by kernel_rfl⟩
instance : MapTy Tryd.prog 86 29 3 := ⟨Tryd.underlying86⟩
instance : Ty Tryd.prog 86 false 1 (.map none) #[.map none] := Ty.mk' (by kernel_rfl) rfl rfl
instance : Bytes Tryd.prog 86 8 := ⟨by kernel_rfl⟩
instance : Ty Tryd.prog 88 true 33 (.agg #[.slice none 0 0, .int .u8 0, .int .u8 0, .int .u8 0, .int .u8 0, .int .u8 0, .int .u8 0, .int .u8 0, .int .u8 0, .int .u8 0, .int .u8 0, .int .u8 0, .int .u8 0, .int .u8 0, .int .u8 0, .int .u8 0, .int .u8 0, .int .u8 0, .int .u8 0, .int .u8 0, .int .u8 0, .int .u8 0, .int .u8 0, .int .u8 0, .int .u8 0, .int .u8 0, .int .u8 0, .int .u8 0, .int .u8 0, .int .u8 0, .int .u8 0, .int .u8 0, .int .u8 0]) #[.slice none 0 0, .int .u8 0, .int .u8 0, .int .u8 0, .int .u8 0, .int .u8 0, .int .u8 0, .int .u8 0, .int .u8 0, .int .u8 0, .int .u8 0, .int .u8 0, .int .u8 0, .int .u8 0, .int .u8 0, .int .u8 0, .int .u8 0, .int .u8 0, .int .u8 0, .int .u8 0, .int .u8 0, .int .u8 0, .int .u8 0, .int .u8 0, .int .u8 0, .int .u8 0, .int .u8 0, .int .u8 0, .int .u8 0, .int .u8 0, .int .u8 0, .int .u8 0, .int .u8 0] := Ty.mk' (by kernel_rfl) rfl rfl
instance : Bytes Tryd.prog 88 56 := ⟨by kernel_rfl⟩
instance : Ty Tryd.prog 95 true 64 (.agg #[.int .u32 0, .int .u32 0, .int .u32 0, .int .u32 0, .int .u32 0, .int .u32 0, .int .u32 0, .int .u32 0, .int .u32 0, .int .u32 0, .int .u32 0, .int .u32 0, .int .u32 0, .int .u32 0, .int .u32 0, .int .u32 0, .int .u32 0, .int .u32 0, .int .u32 0, .int .u32 0, .int .u32 0, .int .u32 0, .int .u32 0, .int .u32 0, .int .u32 0, .int .u32 0, .int .u32 0, .int .u32 0, .int .u32 0, .int .u32 0, .int .u32 0, .int .u32 0, .int .u32 0, .int .u32 0, .int .u32 0, .int .u32 0, .int .u32 0, .int .u32 0, .int .u32 0, .int .u32 0, .int .u32 0, .int .u32 0, .int .u32 0, .int .u32 0, .int .u32 0, .int .u32 0, .int .u32 0, .int .u32 0, .int .u32 0, .int .u32 0, .int .u32 0, .int .u32 0, .int .u32 0, .int .u32 0, .int .u32 0, .int .u32 0, .int .u32 0, .int .u32 0, .int .u32 0, .int .u32 0, .int .u32 0, .int .u32 0, .int .u32 0, .int .u32 0]) #[.int .u32 0, .int .u32 0, .int .u32 0, .int .u32 0, .int .u32 0, .int .u32 0, .int .u32 0, .int .u32 0, .int .u32 0, .int .u32 0, .int .u32 0, .int .u32 0, .int .u32 0, .int .u32 0, .int .u32 0, .int .u32 0, .int .u32 0, .int .u32 0, .int .u32 0, .int .u32 0, .int .u32 0, .int .u32 0, .int .u32 0, .int .u32 0, .int .u32 0, .int .u32 0, .int .u32 0, .int .u32 0, .int .u32 0, .int .u32 0, .int .u32 0, .int .u32 0, .int .u32 0, .int .u32 0, .int .u32 0, .int .u32 0, .int .u32 0, .int .u32 0, .int .u32 0, .int .u32 0, .int .u32 0, .int .u32 0, .int .u32 0, .int .u32 0, .int .u32 0, .int .u32 0, .int .u32 0, .int .u32 0, .int .u32 0, .int .u32 0, .int .u32 0, .int .u32 0, .int .u32 0, .int .u32 0, .int .u32 0, .int .u32 0, .int .u32 0, .int .u32 0, .int .u32 0, .int .u32 0, .int .u32 0, .int .u32 0, .int .u32 0, .int .u32 0] := Ty.mk' (by kernel_rfl) rfl rfl
instance : Bytes Tryd.prog 95 256 := ⟨by kernel_rfl⟩
instance : Ty Tryd.prog 97 true 8 (.agg #[.int .u32 0, .int .u32 0, .int .u32 0, .int .u32 0, .int .u32 0, .int .u32 0, .int .u32 0, .int .u32 0]) #[.int .u32 0, .int .u32 0, .int .u32 0, .int .u32 0, .int .u32 0, .int .u32 0, .int .u32 0, .int .u32 0] := Ty.mk' (by kernel_rfl) rfl rfl
instance : Bytes Tryd.prog 97 32 := ⟨by kernel_rfl⟩
instance : Ty Tryd.prog 98 false 1 (.int .u64 0) #[.int .u64 0] := Ty.mk' (by kernel_rfl) rfl rfl
instance : Bytes Tryd.prog 98 8 := ⟨by kernel_rfl⟩
instance : Ty Tryd.prog 102 false 1 (.pointer none) #[.pointer none] := Ty.mk' (by kernel_rfl) rfl rfl
instance : Bytes Tryd.prog 102 8 := ⟨by kernel_rfl⟩
instance : Ty Tryd.prog 107 true 10 (.agg #[.int .u32 0, .int .u32 0, .int .u32 0, .int .u32 0, .int .u32 0, .int .u32 0, .int .u32 0, .int .u32 0, .slice none 0 0, .int .u64 0]) #[.int .u32 0, .int .u32 0, .int .u32 0, .int .u32 0, .int .u32 0, .int .u32 0, .int .u32 0, .int .u32 0, .slice none 0 0, .int .u64 0] := Ty.mk' (by kernel_rfl) rfl rfl
instance : Bytes Tryd.prog 107 64 := ⟨by kernel_rfl⟩
instance : Ty Tryd.prog 109 true 64 (.agg #[.int .u8 0, .int .u8 0, .int .u8 0, .int .u8 0, .int .u8 0, .int .u8 0, .int .u8 0, .int .u8 0, .int .u8 0, .int .u8 0, .int .u8 0, .int .u8 0, .int .u8 0, .int .u8 0, .int .u8 0, .int .u8 0, .int .u8 0, .int .u8 0, .int .u8 0, .int .u8 0, .int .u8 0, .int .u8 0, .int .u8 0, .int .u8 0, .int .u8 0, .int .u8 0, .int .u8 0, .int .u8 0, .int .u8 0, .int .u8 0, .int .u8 0, .int .u8 0, .int .u8 0, .int .u8 0, .int .u8 0, .int .u8 0, .int .u8 0, .int .u8 0, .int .u8 0, .int .u8 0, .int .u8 0, .int .u8 0, .int .u8 0, .int .u8 0, .int .u8 0, .int .u8 0, .int .u8 0, .int .u8 0, .int .u8 0, .int .u8 0, .int .u8 0, .int .u8 0, .int .u8 0, .int .u8 0, .int .u8 0, .int .u8 0, .int .u8 0, .int .u8 0, .int .u8 0, .int .u8 0, .int .u8 0, .int .u8 0, .int .u8 0, .int .u8 0]) #[.int .u8 0, .int .u8 0, .int .u8 0, .int .u8 0, .int .u8 0, .int .u8 0, .int .u8 0, .int .u8 0, .int .u8 0, .int .u8 0, .int .u8 0, .int .u8 0, .int .u8 0, .int .u8 0, .int .u8 0, .int .u8 0, .int .u8 0, .int .u8 0, .int .u8 0, .int .u8 0, .int .u8 0, .int .u8 0, .int .u8 0, .int .u8 0, .int .u8 0, .int .u8 0, .int .u8 0, .int .u8 0, .int .u8 0, .int .u8 0, .int .u8 0, .int .u8 0, .int .u8 0, .int .u8 0, .int .u8 0, .int .u8 0, .int .u8 0, .int .u8 0, .int .u8 0, .int .u8 0, .int .u8 0, .int .u8 0, .int .u8 0, .int .u8 0, .int .u8 0, .int .u8 0, .int .u8 0, .int .u8 0, .int .u8 0, .int .u8 0, .int .u8 0, .int .u8 0, .int .u8 0, .int .u8 0, .int .u8 0, .int .u8 0, .int .u8 0, .int .u8 0, .int .u8 0, .int .u8 0, .int .u8 0, .int .u8 0, .int .u8 0, .int .u8 0] := Ty.mk' (by kernel_rfl) rfl rfl
instance : Bytes Tryd.prog 109 64 := ⟨by kernel_rfl⟩
instance : Ty Tryd.prog 114 true 0 (.agg #[]) #[] := Ty.mk' (by kernel_rfl) rfl rfl
instance : Bytes Tryd.prog 114 0 := ⟨by kernel_rfl⟩
instance : Ty Tryd.prog 121 false 1 (.pointer none) #[.pointer none] := Ty.mk' (by kernel_rfl) rfl rfl
instance : Bytes Tryd.prog 121 8 := ⟨by kernel_rfl⟩
instance : Ty Tryd.prog 126 true 12 (.agg #[.int .u8 0, .int .u8 0, .int .u8 0, .int .u8 0, .int .u8 0, .int .u8 0, .int .u8 0, .int .u8 0, .int .u8 0, .int .u8 0, .int .u8 0, .int .u8 0]) #[.int .u8 0, .int .u8 0, .int .u8 0, .int .u8 0, .int .u8 0, .int .u8 0, .int .u8 0, .int .u8 0, .int .u8 0, .int .u8 0, .int .u8 0, .int .u8 0] := Ty.mk' (by kernel_rfl) rfl rfl
instance : Bytes Tryd.prog 126 12 := ⟨by kernel_rfl⟩
instance : Ty Tryd.prog 128 true 15 (.agg #[.int .u32 0, .int .u8 0, .int .u8 0, .int .u8 0, .int .u8 0, .int .u8 0, .int .u8 0, .int .u8 0, .int .u8 0, .int .u8 0, .int .u8 0, .int .u8 0, .int .u8 0, .slice none 0 0, .slice none 0 0]) #[.int .u32 0, .int .u8 0, .int .u8 0, .int .u8 0, .int .u8 0, .int .u8 0, .int .u8 0, .int .u8 0, .int .u8 0, .int .u8 0, .int .u8 0, .int .u8 0, .int .u8 0, .slice none 0 0, .slice none 0 0] := Ty.mk' (by kernel_rfl) rfl rfl
instance : Bytes Tryd.prog 128 64 := ⟨by kernel_rfl⟩
instance : Ty Tryd.prog 129 false 1 (.pointer none) #[.pointer none] := Ty.mk' (by kernel_rfl) rfl rfl
instance : Bytes Tryd.prog 129 8 := ⟨by kernel_rfl⟩
end Go.Proofs.YteiglillnogoaaaDoor

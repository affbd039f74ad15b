/-
  The seat's types, for the small separation logic: written by program off the seat's own tables.
-/
import Derived.Test.YtkppoffljkpiaaaRows
import Derived.Test.YtkppoffljkpiaaaSlMap
import Derived.Test.YtkppoffljkpiaaaSlSlice
namespace Go.Proofs.Ytkppoffljkpiaaa
open Go.Proofs.Ytkppoffljkpiaaa.Sl
instance : Ty Try.prog 2 false 1 (.int .i64 0) #[.int .i64 0] := Ty.mk' (by kernel_rfl) rfl rfl
instance : Bytes Try.prog 2 8 := ⟨by kernel_rfl⟩
instance : Ty Try.prog 3 false 1 (.int .i64 0) #[.int .i64 0] := Ty.mk' (by kernel_rfl) rfl rfl
instance : Bytes Try.prog 3 8 := ⟨by kernel_rfl⟩
instance : Ty Try.prog 4 false 1 (.bool false) #[.bool false] := Ty.mk' (by kernel_rfl) rfl rfl
instance : Bytes Try.prog 4 1 := ⟨by kernel_rfl⟩
instance : Ty Try.prog 5 false 1 (.int .u8 0) #[.int .u8 0] := Ty.mk' (by kernel_rfl) rfl rfl
instance : Bytes Try.prog 5 1 := ⟨by kernel_rfl⟩
instance : Ty Try.prog 9 false 1 (.string ByteArray.empty) #[.string ByteArray.empty] := Ty.mk' (by kernel_rfl) rfl rfl
instance : Bytes Try.prog 9 16 := ⟨by kernel_rfl⟩
instance : Ty Try.prog 12 false 1 (.int .u64 0) #[.int .u64 0] := Ty.mk' (by kernel_rfl) rfl rfl
instance : Bytes Try.prog 12 8 := ⟨by kernel_rfl⟩
instance : Ty Try.prog 20 false 1 (.nilIface) #[.nilIface] := Ty.mk' (by kernel_rfl) rfl rfl
instance : Bytes Try.prog 20 16 := ⟨by kernel_rfl⟩
instance : Ty Try.prog 21 false 1 (.int .i32 0) #[.int .i32 0] := Ty.mk' (by kernel_rfl) rfl rfl
instance : Bytes Try.prog 21 4 := ⟨by kernel_rfl⟩
instance : SliceTy Try.prog 22 37 := ⟨Try.underlying22⟩
instance : Ty Try.prog 22 false 1 (.slice none 0 0) #[.slice none 0 0] := Ty.mk' (by kernel_rfl) rfl rfl
instance : Bytes Try.prog 22 24 := ⟨by kernel_rfl⟩
instance : Ty Try.prog 25 false 1 (.int .u64 0) #[.int .u64 0] := Ty.mk' (by kernel_rfl) rfl rfl
instance : Bytes Try.prog 25 8 := ⟨by kernel_rfl⟩
instance : SliceTy Try.prog 26 3 := ⟨Try.underlying26⟩
instance : Ty Try.prog 26 false 1 (.slice none 0 0) #[.slice none 0 0] := Ty.mk' (by kernel_rfl) rfl rfl
instance : Bytes Try.prog 26 24 := ⟨by kernel_rfl⟩
instance : Ty Try.prog 27 false 1 (.int .i64 0) #[.int .i64 0] := Ty.mk' (by kernel_rfl) rfl rfl
instance : Bytes Try.prog 27 8 := ⟨by kernel_rfl⟩
instance : SliceTy Try.prog 37 5 := ⟨Try.underlying37⟩
instance : Ty Try.prog 37 false 1 (.slice none 0 0) #[.slice none 0 0] := Ty.mk' (by kernel_rfl) rfl rfl
instance : Bytes Try.prog 37 24 := ⟨by kernel_rfl⟩
instance : Ty Try.prog 40 true 10 (.agg #[.int .i64 0, .int .i64 0, .int .i64 0, .slice none 0 0, .int .i64 0, .int .i64 0, .int .i64 0, .int .i64 0, .int .i64 0, .int .i64 0]) #[.int .i64 0, .int .i64 0, .int .i64 0, .slice none 0 0, .int .i64 0, .int .i64 0, .int .i64 0, .int .i64 0, .int .i64 0, .int .i64 0] := Ty.mk' (by kernel_rfl) rfl rfl
instance : Bytes Try.prog 40 96 := ⟨by kernel_rfl⟩
instance : Ty Try.prog 43 false 1 (.pointer none) #[.pointer none] := Ty.mk' (by kernel_rfl) rfl rfl
instance : Bytes Try.prog 43 8 := ⟨by kernel_rfl⟩
instance : Ty Try.prog 60 true 2 (.agg #[.slice none 0 0, .int .i64 0]) #[.slice none 0 0, .int .i64 0] := Ty.mk' (by kernel_rfl) rfl rfl
instance : Bytes Try.prog 60 32 := ⟨by kernel_rfl⟩
instance : Ty Try.prog 64 false 1 (.int .u64 0) #[.int .u64 0] := Ty.mk' (by kernel_rfl) rfl rfl
instance : Bytes Try.prog 64 8 := ⟨by kernel_rfl⟩
instance : Ty Try.prog 68 true 1 (.agg #[.int .i64 0]) #[.int .i64 0] := Ty.mk' (by kernel_rfl) rfl rfl
instance : Bytes Try.prog 68 8 := ⟨by kernel_rfl⟩
instance : Ty Try.prog 73 true 0 (.agg #[]) #[] := Ty.mk' (by kernel_rfl) rfl rfl
instance : Bytes Try.prog 73 0 := ⟨by kernel_rfl⟩
instance : Ty Try.prog 77 false 1 (.int .u32 0) #[.int .u32 0] := Ty.mk' (by kernel_rfl) rfl rfl
instance : Bytes Try.prog 77 4 := ⟨by kernel_rfl⟩
instance : Ty Try.prog 81 false 1 (.pointer none) #[.pointer none] := Ty.mk' (by kernel_rfl) rfl rfl
instance : Bytes Try.prog 81 8 := ⟨by kernel_rfl⟩
instance : Ty Try.prog 86 false 1 (.pointer none) #[.pointer none] := Ty.mk' (by kernel_rfl) rfl rfl
instance : Bytes Try.prog 86 8 := ⟨by kernel_rfl⟩
end Go.Proofs.Ytkppoffljkpiaaa

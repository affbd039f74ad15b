/-
  The seat's types, for the small separation logic: written by program off the seat's own tables.
-/
import Derived.Test.YthlcjefkhlfkpaaRows
import Derived.Test.YthlcjefkhlfkpaaSlA
set_option linter.unusedSimpArgs false
set_option linter.unusedVariables false
namespace Go.Proofs.Ythlcjefkhlfkpaa
open Go.Proofs.Ythlcjefkhlfkpaa.Sl
instance : Ty Try.prog 2 false 1 (.int .i64 0) #[.int .i64 0] := Ty.mk' (by kernel_rfl) rfl rfl
instance : Bytes Try.prog 2 8 := ⟨by kernel_rfl⟩
instance : Ty Try.prog 3 false 1 (.int .i64 0) #[.int .i64 0] := Ty.mk' (by kernel_rfl) rfl rfl
instance : Bytes Try.prog 3 8 := ⟨by kernel_rfl⟩
instance : Ty Try.prog 4 false 1 (.bool false) #[.bool false] := Ty.mk' (by kernel_rfl) rfl rfl
instance : Bytes Try.prog 4 1 := ⟨by kernel_rfl⟩
instance : Ty Try.prog 5 false 1 (.int .u8 0) #[.int .u8 0] := Ty.mk' (by kernel_rfl) rfl rfl
instance : Bytes Try.prog 5 1 := ⟨by kernel_rfl⟩
instance : Ty Try.prog 9 false 1 (.string ByteArray.empty) #[.string ByteArray.empty] := Ty.mk' (by kernel_rfl) rfl rfl
instance : Bytes Try.prog 9 16 := ⟨by kernel_rfl⟩
instance : Ty Try.prog 12 false 1 (.int .u64 0) #[.int .u64 0] := Ty.mk' (by kernel_rfl) rfl rfl
instance : Bytes Try.prog 12 8 := ⟨by kernel_rfl⟩
instance : Ty Try.prog 20 false 1 (.nilIface) #[.nilIface] := Ty.mk' (by kernel_rfl) rfl rfl
instance : Bytes Try.prog 20 16 := ⟨by kernel_rfl⟩
instance : Ty Try.prog 21 false 1 (.int .i32 0) #[.int .i32 0] := Ty.mk' (by kernel_rfl) rfl rfl
instance : Bytes Try.prog 21 4 := ⟨by kernel_rfl⟩
instance : SliceTy Try.prog 22 35 := ⟨Try.underlying22⟩
instance : Ty Try.prog 22 false 1 (.slice none 0 0) #[.slice none 0 0] := Ty.mk' (by kernel_rfl) rfl rfl
instance : Bytes Try.prog 22 24 := ⟨by kernel_rfl⟩
instance : Ty Try.prog 23 false 1 (.pointer none) #[.pointer none] := Ty.mk' (by kernel_rfl) rfl rfl
instance : Bytes Try.prog 23 8 := ⟨by kernel_rfl⟩
instance : Ty Try.prog 24 false 1 (.int .i64 0) #[.int .i64 0] := Ty.mk' (by kernel_rfl) rfl rfl
instance : Bytes Try.prog 24 8 := ⟨by kernel_rfl⟩
instance : SliceTy Try.prog 27 40 := ⟨Try.underlying27⟩
instance : Ty Try.prog 27 false 1 (.slice none 0 0) #[.slice none 0 0] := Ty.mk' (by kernel_rfl) rfl rfl
instance : Bytes Try.prog 27 24 := ⟨by kernel_rfl⟩
instance : Ty Try.prog 30 false 1 (.int .u32 0) #[.int .u32 0] := Ty.mk' (by kernel_rfl) rfl rfl
instance : Bytes Try.prog 30 4 := ⟨by kernel_rfl⟩
instance : Ty Try.prog 31 false 1 (.int .u64 0) #[.int .u64 0] := Ty.mk' (by kernel_rfl) rfl rfl
instance : Bytes Try.prog 31 8 := ⟨by kernel_rfl⟩
instance : Ty Try.prog 33 true 3 (.agg #[.int .u32 0, .int .u32 0, .int .u64 0]) #[.int .u32 0, .int .u32 0, .int .u64 0] := Ty.mk' (by kernel_rfl) rfl rfl
instance : Bytes Try.prog 33 16 := ⟨by kernel_rfl⟩
instance : Ty Try.prog 35 true 5 (.agg #[.int .i64 0, .int .i64 0, .int .u32 0, .int .u32 0, .int .u64 0]) #[.int .i64 0, .int .i64 0, .int .u32 0, .int .u32 0, .int .u64 0] := Ty.mk' (by kernel_rfl) rfl rfl
instance : Bytes Try.prog 35 32 := ⟨by kernel_rfl⟩
instance : Ty Try.prog 40 true 5 (.agg #[.bool false, .int .i64 0, .int .u32 0, .int .u32 0, .int .u64 0]) #[.bool false, .int .i64 0, .int .u32 0, .int .u32 0, .int .u64 0] := Ty.mk' (by kernel_rfl) rfl rfl
instance : Bytes Try.prog 40 32 := ⟨by kernel_rfl⟩
instance : SliceTy Try.prog 47 3 := ⟨Try.underlying47⟩
instance : Ty Try.prog 47 false 1 (.slice none 0 0) #[.slice none 0 0] := Ty.mk' (by kernel_rfl) rfl rfl
instance : Bytes Try.prog 47 24 := ⟨by kernel_rfl⟩
instance : SliceTy Try.prog 51 4 := ⟨Try.underlying51⟩
instance : Ty Try.prog 51 false 1 (.slice none 0 0) #[.slice none 0 0] := Ty.mk' (by kernel_rfl) rfl rfl
instance : Bytes Try.prog 51 24 := ⟨by kernel_rfl⟩
instance : MapTy Try.prog 53 3 57 := ⟨Try.underlying53⟩
instance : Ty Try.prog 53 false 1 (.map none) #[.map none] := Ty.mk' (by kernel_rfl) rfl rfl
instance : Bytes Try.prog 53 8 := ⟨by kernel_rfl⟩
instance : Ty Try.prog 55 true 2 (.agg #[.slice none 0 0, .map none]) #[.slice none 0 0, .map none] := Ty.mk' (by kernel_rfl) rfl rfl
instance : Bytes Try.prog 55 32 := ⟨by kernel_rfl⟩
instance : Ty Try.prog 57 true 4 (.agg #[.int .i64 0, .int .u32 0, .int .u32 0, .int .u64 0]) #[.int .i64 0, .int .u32 0, .int .u32 0, .int .u64 0] := Ty.mk' (by kernel_rfl) rfl rfl
instance : Bytes Try.prog 57 24 := ⟨by kernel_rfl⟩
instance : Ty Try.prog 62 false 1 (.nilFunc) #[.nilFunc] := Ty.mk' (by kernel_rfl) rfl rfl
instance : Bytes Try.prog 62 8 := ⟨by kernel_rfl⟩
instance : Ty Try.prog 69 false 1 (.int .u64 0) #[.int .u64 0] := Ty.mk' (by kernel_rfl) rfl rfl
instance : Bytes Try.prog 69 8 := ⟨by kernel_rfl⟩
instance : Ty Try.prog 71 false 1 (.int .i64 0) #[.int .i64 0] := Ty.mk' (by kernel_rfl) rfl rfl
instance : Bytes Try.prog 71 8 := ⟨by kernel_rfl⟩
instance : Ty Try.prog 81 false 1 (.int .u64 0) #[.int .u64 0] := Ty.mk' (by kernel_rfl) rfl rfl
instance : Bytes Try.prog 81 8 := ⟨by kernel_rfl⟩
instance : Ty Try.prog 85 false 1 (.pointer none) #[.pointer none] := Ty.mk' (by kernel_rfl) rfl rfl
instance : Bytes Try.prog 85 8 := ⟨by kernel_rfl⟩
instance : Ty Try.prog 87 false 1 (.pointer none) #[.pointer none] := Ty.mk' (by kernel_rfl) rfl rfl
instance : Bytes Try.prog 87 8 := ⟨by kernel_rfl⟩
instance : Ty Try.prog 93 true 0 (.agg #[]) #[] := Ty.mk' (by kernel_rfl) rfl rfl
instance : Bytes Try.prog 93 0 := ⟨by kernel_rfl⟩
instance : Ty Try.prog 100 false 1 (.pointer none) #[.pointer none] := Ty.mk' (by kernel_rfl) rfl rfl
instance : Bytes Try.prog 100 8 := ⟨by kernel_rfl⟩
instance : Ty Try.prog 105 false 1 (.pointer none) #[.pointer none] := Ty.mk' (by kernel_rfl) rfl rfl
instance : Bytes Try.prog 105 8 := ⟨by kernel_rfl⟩
end Go.Proofs.Ythlcjefkhlfkpaa

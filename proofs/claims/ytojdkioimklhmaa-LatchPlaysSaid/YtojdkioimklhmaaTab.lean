/-
  The seat's types, for the small separation logic: written by program off the seat's own tables.
-/
import Derived.Test.YtojdkioimklhmaaRows
import Derived.Test.YtojdkioimklhmaaSlA
set_option linter.unusedSimpArgs false
set_option linter.unusedVariables false
namespace Go.Proofs.Ytojdkioimklhmaa
open Go.Proofs.Ytojdkioimklhmaa.Sl
instance : Ty Try.prog 2 false 1 (.int .i64 0) #[.int .i64 0] := Ty.mk' (by kernel_rfl) rfl rfl
instance : Bytes Try.prog 2 8 := ⟨by kernel_rfl⟩
instance : Ty Try.prog 3 false 1 (.int .i64 0) #[.int .i64 0] := Ty.mk' (by kernel_rfl) rfl rfl
instance : Bytes Try.prog 3 8 := ⟨by kernel_rfl⟩
instance : Ty Try.prog 4 false 1 (.bool false) #[.bool false] := Ty.mk' (by kernel_rfl) rfl rfl
instance : Bytes Try.prog 4 1 := ⟨by kernel_rfl⟩
instance : Ty Try.prog 5 false 1 (.int .u8 0) #[.int .u8 0] := Ty.mk' (by kernel_rfl) rfl rfl
instance : Bytes Try.prog 5 1 := ⟨by kernel_rfl⟩
instance : Ty Try.prog 9 false 1 (.string ByteArray.empty) #[.string ByteArray.empty] := Ty.mk' (by kernel_rfl) rfl rfl
instance : Bytes Try.prog 9 16 := ⟨by kernel_rfl⟩
instance : Ty Try.prog 12 false 1 (.int .u64 0) #[.int .u64 0] := Ty.mk' (by kernel_rfl) rfl rfl
instance : Bytes Try.prog 12 8 := ⟨by kernel_rfl⟩
instance : Ty Try.prog 20 false 1 (.nilIface) #[.nilIface] := Ty.mk' (by kernel_rfl) rfl rfl
instance : Bytes Try.prog 20 16 := ⟨by kernel_rfl⟩
instance : Ty Try.prog 21 false 1 (.int .i32 0) #[.int .i32 0] := Ty.mk' (by kernel_rfl) rfl rfl
instance : Bytes Try.prog 21 4 := ⟨by kernel_rfl⟩
instance : SliceTy Try.prog 22 26 := ⟨Try.underlying22⟩
instance : Ty Try.prog 22 false 1 (.slice none 0 0) #[.slice none 0 0] := Ty.mk' (by kernel_rfl) rfl rfl
instance : Bytes Try.prog 22 24 := ⟨by kernel_rfl⟩
instance : Ty Try.prog 23 false 1 (.pointer none) #[.pointer none] := Ty.mk' (by kernel_rfl) rfl rfl
instance : Bytes Try.prog 23 8 := ⟨by kernel_rfl⟩
instance : Ty Try.prog 26 true 4 (.agg #[.int .i64 0, .int .i64 0, .int .i64 0, .bool false]) #[.int .i64 0, .int .i64 0, .int .i64 0, .bool false] := Ty.mk' (by kernel_rfl) rfl rfl
instance : Bytes Try.prog 26 32 := ⟨by kernel_rfl⟩
instance : SliceTy Try.prog 28 3 := ⟨Try.underlying28⟩
instance : Ty Try.prog 28 false 1 (.slice none 0 0) #[.slice none 0 0] := Ty.mk' (by kernel_rfl) rfl rfl
instance : Bytes Try.prog 28 24 := ⟨by kernel_rfl⟩
instance : Ty Try.prog 30 false 1 (.int .i64 0) #[.int .i64 0] := Ty.mk' (by kernel_rfl) rfl rfl
instance : Bytes Try.prog 30 8 := ⟨by kernel_rfl⟩
instance : SliceTy Try.prog 35 4 := ⟨Try.underlying35⟩
instance : Ty Try.prog 35 false 1 (.slice none 0 0) #[.slice none 0 0] := Ty.mk' (by kernel_rfl) rfl rfl
instance : Bytes Try.prog 35 24 := ⟨by kernel_rfl⟩
instance : Ty Try.prog 39 false 1 (.pointer none) #[.pointer none] := Ty.mk' (by kernel_rfl) rfl rfl
instance : Bytes Try.prog 39 8 := ⟨by kernel_rfl⟩
instance : SliceTy Try.prog 40 69 := ⟨Try.underlying40⟩
instance : Ty Try.prog 40 false 1 (.slice none 0 0) #[.slice none 0 0] := Ty.mk' (by kernel_rfl) rfl rfl
instance : Bytes Try.prog 40 24 := ⟨by kernel_rfl⟩
instance : Ty Try.prog 42 true 2 (.agg #[.slice none 0 0, .slice none 0 0]) #[.slice none 0 0, .slice none 0 0] := Ty.mk' (by kernel_rfl) rfl rfl
instance : Bytes Try.prog 42 48 := ⟨by kernel_rfl⟩
instance : MapTy Try.prog 48 3 52 := ⟨Try.underlying48⟩
instance : Ty Try.prog 48 false 1 (.map none) #[.map none] := Ty.mk' (by kernel_rfl) rfl rfl
instance : Bytes Try.prog 48 8 := ⟨by kernel_rfl⟩
instance : MapTy Try.prog 49 3 3 := ⟨Try.underlying49⟩
instance : Ty Try.prog 49 false 1 (.map none) #[.map none] := Ty.mk' (by kernel_rfl) rfl rfl
instance : Bytes Try.prog 49 8 := ⟨by kernel_rfl⟩
instance : Ty Try.prog 51 true 2 (.agg #[.map none, .map none]) #[.map none, .map none] := Ty.mk' (by kernel_rfl) rfl rfl
instance : Bytes Try.prog 51 16 := ⟨by kernel_rfl⟩
instance : Ty Try.prog 52 false 1 (.pointer none) #[.pointer none] := Ty.mk' (by kernel_rfl) rfl rfl
instance : Bytes Try.prog 52 8 := ⟨by kernel_rfl⟩
instance : MapTy Try.prog 55 3 53 := ⟨Try.underlying55⟩
instance : Ty Try.prog 55 false 1 (.map none) #[.map none] := Ty.mk' (by kernel_rfl) rfl rfl
instance : Bytes Try.prog 55 8 := ⟨by kernel_rfl⟩
instance : SliceTy Try.prog 56 61 := ⟨Try.underlying56⟩
instance : Ty Try.prog 56 false 1 (.slice none 0 0) #[.slice none 0 0] := Ty.mk' (by kernel_rfl) rfl rfl
instance : Bytes Try.prog 56 24 := ⟨by kernel_rfl⟩
instance : Ty Try.prog 58 true 3 (.agg #[.map none, .bool false, .slice none 0 0]) #[.map none, .bool false, .slice none 0 0] := Ty.mk' (by kernel_rfl) rfl rfl
instance : Bytes Try.prog 58 40 := ⟨by kernel_rfl⟩
instance : Ty Try.prog 61 true 2 (.agg #[.int .i64 0, .bool false]) #[.int .i64 0, .bool false] := Ty.mk' (by kernel_rfl) rfl rfl
instance : Bytes Try.prog 61 16 := ⟨by kernel_rfl⟩
instance : Ty Try.prog 69 true 3 (.agg #[.int .i64 0, .int .i64 0, .bool false]) #[.int .i64 0, .int .i64 0, .bool false] := Ty.mk' (by kernel_rfl) rfl rfl
instance : Bytes Try.prog 69 24 := ⟨by kernel_rfl⟩
instance : Ty Try.prog 73 false 1 (.int .u64 0) #[.int .u64 0] := Ty.mk' (by kernel_rfl) rfl rfl
instance : Bytes Try.prog 73 8 := ⟨by kernel_rfl⟩
instance : Ty Try.prog 77 false 1 (.int .i64 0) #[.int .i64 0] := Ty.mk' (by kernel_rfl) rfl rfl
instance : Bytes Try.prog 77 8 := ⟨by kernel_rfl⟩
instance : Ty Try.prog 85 false 1 (.int .u32 0) #[.int .u32 0] := Ty.mk' (by kernel_rfl) rfl rfl
instance : Bytes Try.prog 85 4 := ⟨by kernel_rfl⟩
instance : Ty Try.prog 87 false 1 (.int .u64 0) #[.int .u64 0] := Ty.mk' (by kernel_rfl) rfl rfl
instance : Bytes Try.prog 87 8 := ⟨by kernel_rfl⟩
instance : Ty Try.prog 88 false 1 (.int .u64 0) #[.int .u64 0] := Ty.mk' (by kernel_rfl) rfl rfl
instance : Bytes Try.prog 88 8 := ⟨by kernel_rfl⟩
instance : Ty Try.prog 92 false 1 (.pointer none) #[.pointer none] := Ty.mk' (by kernel_rfl) rfl rfl
instance : Bytes Try.prog 92 8 := ⟨by kernel_rfl⟩
instance : Ty Try.prog 94 false 1 (.pointer none) #[.pointer none] := Ty.mk' (by kernel_rfl) rfl rfl
instance : Bytes Try.prog 94 8 := ⟨by kernel_rfl⟩
instance : Ty Try.prog 100 true 0 (.agg #[]) #[] := Ty.mk' (by kernel_rfl) rfl rfl
instance : Bytes Try.prog 100 0 := ⟨by kernel_rfl⟩
instance : Ty Try.prog 107 false 1 (.pointer none) #[.pointer none] := Ty.mk' (by kernel_rfl) rfl rfl
instance : Bytes Try.prog 107 8 := ⟨by kernel_rfl⟩
instance : Ty Try.prog 112 false 1 (.pointer none) #[.pointer none] := Ty.mk' (by kernel_rfl) rfl rfl
instance : Bytes Try.prog 112 8 := ⟨by kernel_rfl⟩
end Go.Proofs.Ytojdkioimklhmaa

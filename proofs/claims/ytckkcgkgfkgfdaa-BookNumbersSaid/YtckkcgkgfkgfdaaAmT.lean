/- The types that the functions of this seat use, and that they are the program's. No condition. -/
import Derived.Test.YtckkcgkgfkgfdaaAmS
import Derived.Test.YtckkcgkgfkgfdaaProg
namespace Go.Proofs.Ytckkcgkgfkgfdaa.AM
def tab : Tab := (.node (.node (.node (.node (.node (.node .nil 2
 { desc := TypeDesc.int IntKind.i64, size := 1, bytes := 8, zero := some (Value.int IntKind.i64 0), eqok := true }
 .nil) 3
 { desc := TypeDesc.int IntKind.i64, size := 1, bytes := 8, zero := some (Value.int IntKind.i64 0), eqok := true }
 .nil) 4
 { desc := TypeDesc.bool, size := 1, bytes := 1, zero := some (Value.bool false), eqok := true }
 (.node (.node .nil 22
 { desc := TypeDesc.slice 124, size := 1, bytes := 24, zero := some (Value.slice none 0 0), eqok := true }
 .nil) 23
 { desc := TypeDesc.slice 3, size := 1, bytes := 24, zero := some (Value.slice none 0 0), eqok := true }
 .nil)) 24
 { desc := TypeDesc.slice 85, size := 1, bytes := 24, zero := some (Value.slice none 0 0), eqok := true }
 (.node (.node (.node .nil 26
 { desc := TypeDesc.struct { toList := [{ name := "Shards", type := 3, offset := 0, embedded := false, tag := "", pkgPath := "", byteOffset := 0 }, { name := "Window", type := 3, offset := 1, embedded := false, tag := "", pkgPath := "", byteOffset := 8 }, { name := "Rate", type := 3, offset := 2, embedded := false, tag := "", pkgPath := "", byteOffset := 16 }, { name := "Table", type := 3, offset := 3, embedded := false, tag := "", pkgPath := "", byteOffset := 24 }, { name := "Nodes", type := 22, offset := 4, embedded := false, tag := "", pkgPath := "", byteOffset := 32 }, { name := "Accounts", type := 23, offset := 5, embedded := false, tag := "", pkgPath := "", byteOffset := 56 }, { name := "Symbols", type := 24, offset := 6, embedded := false, tag := "", pkgPath := "", byteOffset := 80 }] }, size := 7, bytes := 104, zero := some (Value.agg { toList := [Value.int IntKind.i64 0, Value.int IntKind.i64 0, Value.int IntKind.i64 0, Value.int IntKind.i64 0, Value.slice none 0 0, Value.slice none 0 0, Value.slice none 0 0] }), eqok := true }
 .nil) 27
 { desc := TypeDesc.slice 34, size := 1, bytes := 24, zero := some (Value.slice none 0 0), eqok := true }
 .nil) 29
 { desc := TypeDesc.struct { toList := [{ name := "Shards", type := 3, offset := 0, embedded := false, tag := "", pkgPath := "", byteOffset := 0 }, { name := "Window", type := 3, offset := 1, embedded := false, tag := "", pkgPath := "", byteOffset := 8 }, { name := "Rate", type := 3, offset := 2, embedded := false, tag := "", pkgPath := "", byteOffset := 16 }, { name := "Table", type := 3, offset := 3, embedded := false, tag := "", pkgPath := "", byteOffset := 24 }, { name := "Nodes", type := 22, offset := 4, embedded := false, tag := "", pkgPath := "", byteOffset := 32 }, { name := "Accounts", type := 23, offset := 5, embedded := false, tag := "", pkgPath := "", byteOffset := 56 }, { name := "Symbols", type := 27, offset := 6, embedded := false, tag := "", pkgPath := "", byteOffset := 80 }] }, size := 7, bytes := 104, zero := some (Value.agg { toList := [Value.int IntKind.i64 0, Value.int IntKind.i64 0, Value.int IntKind.i64 0, Value.int IntKind.i64 0, Value.slice none 0 0, Value.slice none 0 0, Value.slice none 0 0] }), eqok := true }
 (.node .nil 32
 { desc := TypeDesc.float FloatKind.f64, size := 1, bytes := 8, zero := some (Value.float FloatKind.f64 0), eqok := true }
 .nil))) 34
 { desc := TypeDesc.struct { toList := [{ name := "Price", type := 2, offset := 0, embedded := false, tag := "", pkgPath := "", byteOffset := 0 }, { name := "Qty", type := 2, offset := 1, embedded := false, tag := "", pkgPath := "", byteOffset := 8 }, { name := "Worth", type := 2, offset := 2, embedded := false, tag := "", pkgPath := "", byteOffset := 16 }, { name := "Band", type := 32, offset := 3, embedded := false, tag := "", pkgPath := "", byteOffset := 24 }] }, size := 4, bytes := 32, zero := some (Value.agg { toList := [Value.int IntKind.i64 0, Value.int IntKind.i64 0, Value.int IntKind.i64 0, Value.float FloatKind.f64 0] }), eqok := true }
 (.node (.node (.node (.node .nil 35
 { desc := TypeDesc.int IntKind.u64, size := 1, bytes := 8, zero := some (Value.int IntKind.u64 0), eqok := true }
 .nil) 36
 { desc := TypeDesc.slice 106, size := 1, bytes := 24, zero := some (Value.slice none 0 0), eqok := true }
 .nil) 37
 { desc := TypeDesc.slice 88, size := 1, bytes := 24, zero := some (Value.slice none 0 0), eqok := true }
 (.node .nil 39
 { desc := TypeDesc.struct { toList := [{ name := "Shards", type := 3, offset := 0, embedded := false, tag := "", pkgPath := "", byteOffset := 0 }, { name := "Window", type := 3, offset := 1, embedded := false, tag := "", pkgPath := "", byteOffset := 8 }, { name := "Rate", type := 3, offset := 2, embedded := false, tag := "", pkgPath := "", byteOffset := 16 }, { name := "Table", type := 3, offset := 3, embedded := false, tag := "", pkgPath := "", byteOffset := 24 }, { name := "Nodes", type := 36, offset := 4, embedded := false, tag := "", pkgPath := "", byteOffset := 32 }, { name := "Accounts", type := 23, offset := 5, embedded := false, tag := "", pkgPath := "", byteOffset := 56 }, { name := "Symbols", type := 37, offset := 6, embedded := false, tag := "", pkgPath := "", byteOffset := 80 }] }, size := 7, bytes := 104, zero := some (Value.agg { toList := [Value.int IntKind.i64 0, Value.int IntKind.i64 0, Value.int IntKind.i64 0, Value.int IntKind.i64 0, Value.slice none 0 0, Value.slice none 0 0, Value.slice none 0 0] }), eqok := true }
 .nil)) 41
 { desc := TypeDesc.slice 91, size := 1, bytes := 24, zero := some (Value.slice none 0 0), eqok := true }
 (.node (.node (.node .nil 42
 { desc := TypeDesc.slice 54, size := 1, bytes := 24, zero := some (Value.slice none 0 0), eqok := true }
 .nil) 44
 { desc := TypeDesc.struct { toList := [{ name := "Shard", type := 3, offset := 0, embedded := false, tag := "", pkgPath := "", byteOffset := 0 }, { name := "Came", type := 3, offset := 1, embedded := false, tag := "", pkgPath := "", byteOffset := 8 }, { name := "Rows", type := 41, offset := 2, embedded := false, tag := "", pkgPath := "", byteOffset := 16 }, { name := "Open", type := 42, offset := 3, embedded := false, tag := "", pkgPath := "", byteOffset := 40 }] }, size := 4, bytes := 64, zero := some (Value.agg { toList := [Value.int IntKind.i64 0, Value.int IntKind.i64 0, Value.slice none 0 0, Value.slice none 0 0] }), eqok := true }
 .nil) 47
 { desc := TypeDesc.struct { toList := [{ name := "Account", type := 3, offset := 0, embedded := false, tag := "", pkgPath := "", byteOffset := 0 }, { name := "Symbol", type := 3, offset := 1, embedded := false, tag := "", pkgPath := "", byteOffset := 8 }, { name := "Sell", type := 4, offset := 2, embedded := false, tag := "", pkgPath := "", byteOffset := 16 }, { name := "Price", type := 2, offset := 3, embedded := false, tag := "", pkgPath := "", byteOffset := 24 }, { name := "Qty", type := 2, offset := 4, embedded := false, tag := "", pkgPath := "", byteOffset := 32 }, { name := "Number", type := 2, offset := 5, embedded := false, tag := "", pkgPath := "", byteOffset := 40 }, { name := "Second", type := 2, offset := 6, embedded := false, tag := "", pkgPath := "", byteOffset := 48 }] }, size := 7, bytes := 56, zero := some (Value.agg { toList := [Value.int IntKind.i64 0, Value.int IntKind.i64 0, Value.bool false, Value.int IntKind.i64 0, Value.int IntKind.i64 0, Value.int IntKind.i64 0, Value.int IntKind.i64 0] }), eqok := true }
 (.node .nil 49
 { desc := TypeDesc.struct { toList := [{ name := "Account", type := 3, offset := 0, embedded := false, tag := "", pkgPath := "", byteOffset := 0 }, { name := "Symbol", type := 3, offset := 1, embedded := false, tag := "", pkgPath := "", byteOffset := 8 }, { name := "Sell", type := 4, offset := 2, embedded := false, tag := "", pkgPath := "", byteOffset := 16 }, { name := "Price", type := 2, offset := 3, embedded := false, tag := "", pkgPath := "", byteOffset := 24 }, { name := "Qty", type := 2, offset := 4, embedded := false, tag := "", pkgPath := "", byteOffset := 32 }, { name := "Number", type := 2, offset := 5, embedded := false, tag := "", pkgPath := "", byteOffset := 40 }, { name := "Second", type := 2, offset := 6, embedded := false, tag := "", pkgPath := "", byteOffset := 48 }] }, size := 7, bytes := 56, zero := some (Value.agg { toList := [Value.int IntKind.i64 0, Value.int IntKind.i64 0, Value.bool false, Value.int IntKind.i64 0, Value.int IntKind.i64 0, Value.int IntKind.i64 0, Value.int IntKind.i64 0] }), eqok := true }
 .nil)))) 54
 { desc := TypeDesc.struct { toList := [{ name := "Id", type := 3, offset := 0, embedded := false, tag := "", pkgPath := "", byteOffset := 0 }, { name := "Order", type := 47, offset := 1, embedded := false, tag := "", pkgPath := "", byteOffset := 8 }, { name := "Left", type := 2, offset := 8, embedded := false, tag := "", pkgPath := "", byteOffset := 64 }, { name := "State", type := 3, offset := 9, embedded := false, tag := "", pkgPath := "", byteOffset := 72 }, { name := "Epoch", type := 2, offset := 10, embedded := false, tag := "", pkgPath := "", byteOffset := 80 }] }, size := 11, bytes := 88, zero := some (Value.agg { toList := [Value.int IntKind.i64 0, Value.int IntKind.i64 0, Value.int IntKind.i64 0, Value.bool false, Value.int IntKind.i64 0, Value.int IntKind.i64 0, Value.int IntKind.i64 0, Value.int IntKind.i64 0, Value.int IntKind.i64 0, Value.int IntKind.i64 0, Value.int IntKind.i64 0] }), eqok := true }
 (.node (.node (.node (.node (.node .nil 58
 { desc := TypeDesc.slice 2, size := 1, bytes := 24, zero := some (Value.slice none 0 0), eqok := true }
 .nil) 59
 { desc := TypeDesc.int IntKind.i64, size := 1, bytes := 8, zero := some (Value.int IntKind.i64 0), eqok := true }
 .nil) 62
 { desc := TypeDesc.pointer 112, size := 1, bytes := 8, zero := some (Value.pointer none), eqok := true }
 (.node (.node .nil 67
 { desc := TypeDesc.struct { toList := [{ name := "Code", type := 59, offset := 0, embedded := false, tag := "", pkgPath := "", byteOffset := 0 }, { name := "Id", type := 3, offset := 1, embedded := false, tag := "", pkgPath := "", byteOffset := 8 }] }, size := 2, bytes := 16, zero := some (Value.agg { toList := [Value.int IntKind.i64 0, Value.int IntKind.i64 0] }), eqok := true }
 .nil) 68
 { desc := TypeDesc.slice 102, size := 1, bytes := 24, zero := some (Value.slice none 0 0), eqok := true }
 .nil)) 72
 { desc := TypeDesc.struct { toList := [{ name := "Kind", type := 3, offset := 0, embedded := false, tag := "", pkgPath := "", byteOffset := 0 }, { name := "Order", type := 47, offset := 1, embedded := false, tag := "", pkgPath := "", byteOffset := 8 }, { name := "Id", type := 3, offset := 8, embedded := false, tag := "", pkgPath := "", byteOffset := 64 }, { name := "Qty", type := 2, offset := 9, embedded := false, tag := "", pkgPath := "", byteOffset := 72 }, { name := "Node", type := 3, offset := 10, embedded := false, tag := "", pkgPath := "", byteOffset := 80 }, { name := "Most", type := 2, offset := 11, embedded := false, tag := "", pkgPath := "", byteOffset := 88 }] }, size := 12, bytes := 96, zero := some (Value.agg { toList := [Value.int IntKind.i64 0, Value.int IntKind.i64 0, Value.int IntKind.i64 0, Value.bool false, Value.int IntKind.i64 0, Value.int IntKind.i64 0, Value.int IntKind.i64 0, Value.int IntKind.i64 0, Value.int IntKind.i64 0, Value.int IntKind.i64 0, Value.int IntKind.i64 0, Value.int IntKind.i64 0] }), eqok := true }
 (.node (.node (.node .nil 74
 { desc := TypeDesc.struct { toList := [{ name := "Msg", type := 72, offset := 0, embedded := false, tag := "", pkgPath := "", byteOffset := 0 }, { name := "Sweep", type := 4, offset := 12, embedded := false, tag := "", pkgPath := "", byteOffset := 96 }, { name := "Shard", type := 3, offset := 13, embedded := false, tag := "", pkgPath := "", byteOffset := 104 }, { name := "Epoch", type := 2, offset := 14, embedded := false, tag := "", pkgPath := "", byteOffset := 112 }] }, size := 15, bytes := 120, zero := some (Value.agg { toList := [Value.int IntKind.i64 0, Value.int IntKind.i64 0, Value.int IntKind.i64 0, Value.bool false, Value.int IntKind.i64 0, Value.int IntKind.i64 0, Value.int IntKind.i64 0, Value.int IntKind.i64 0, Value.int IntKind.i64 0, Value.int IntKind.i64 0, Value.int IntKind.i64 0, Value.int IntKind.i64 0, Value.bool false, Value.int IntKind.i64 0, Value.int IntKind.i64 0] }), eqok := true }
 .nil) 79
 { desc := TypeDesc.struct { toList := [{ name := "Nodes", type := 36, offset := 0, embedded := false, tag := "", pkgPath := "", byteOffset := 0 }, { name := "Used", type := 58, offset := 1, embedded := false, tag := "", pkgPath := "", byteOffset := 24 }] }, size := 2, bytes := 48, zero := some (Value.agg { toList := [Value.slice none 0 0, Value.slice none 0 0] }), eqok := true }
 .nil) 85
 { desc := TypeDesc.struct { toList := [{ name := "Price", type := 2, offset := 0, embedded := false, tag := "", pkgPath := "", byteOffset := 0 }, { name := "Qty", type := 2, offset := 1, embedded := false, tag := "", pkgPath := "", byteOffset := 8 }, { name := "Worth", type := 2, offset := 2, embedded := false, tag := "", pkgPath := "", byteOffset := 16 }, { name := "Bits", type := 35, offset := 3, embedded := false, tag := "", pkgPath := "", byteOffset := 24 }] }, size := 4, bytes := 32, zero := some (Value.agg { toList := [Value.int IntKind.i64 0, Value.int IntKind.i64 0, Value.int IntKind.i64 0, Value.int IntKind.u64 0] }), eqok := true }
 (.node .nil 88
 { desc := TypeDesc.struct { toList := [{ name := "Price", type := 2, offset := 0, embedded := false, tag := "", pkgPath := "", byteOffset := 0 }, { name := "Qty", type := 2, offset := 1, embedded := false, tag := "", pkgPath := "", byteOffset := 8 }, { name := "Worth", type := 2, offset := 2, embedded := false, tag := "", pkgPath := "", byteOffset := 16 }, { name := "Band", type := 32, offset := 3, embedded := false, tag := "", pkgPath := "", byteOffset := 24 }] }, size := 4, bytes := 32, zero := some (Value.agg { toList := [Value.int IntKind.i64 0, Value.int IntKind.i64 0, Value.int IntKind.i64 0, Value.float FloatKind.f64 0] }), eqok := true }
 .nil))) 91
 { desc := TypeDesc.struct { toList := [{ name := "Numbers", type := 58, offset := 0, embedded := false, tag := "", pkgPath := "", byteOffset := 0 }, { name := "Second", type := 2, offset := 1, embedded := false, tag := "", pkgPath := "", byteOffset := 24 }, { name := "Count", type := 3, offset := 2, embedded := false, tag := "", pkgPath := "", byteOffset := 32 }] }, size := 3, bytes := 40, zero := some (Value.agg { toList := [Value.slice none 0 0, Value.int IntKind.i64 0, Value.int IntKind.i64 0] }), eqok := true }
 (.node (.node (.node (.node .nil 102
 { desc := TypeDesc.struct { toList := [{ name := "Kind", type := 3, offset := 0, embedded := false, tag := "", pkgPath := "", byteOffset := 0 }, { name := "Id", type := 3, offset := 1, embedded := false, tag := "", pkgPath := "", byteOffset := 8 }] }, size := 2, bytes := 16, zero := some (Value.agg { toList := [Value.int IntKind.i64 0, Value.int IntKind.i64 0] }), eqok := true }
 .nil) 106
 { desc := TypeDesc.struct { toList := [{ name := "Parent", type := 3, offset := 0, embedded := false, tag := "", pkgPath := "", byteOffset := 0 }, { name := "Cap", type := 2, offset := 1, embedded := false, tag := "", pkgPath := "", byteOffset := 8 }] }, size := 2, bytes := 16, zero := some (Value.agg { toList := [Value.int IntKind.i64 0, Value.int IntKind.i64 0] }), eqok := true }
 .nil) 110
 { desc := TypeDesc.slice 44, size := 1, bytes := 24, zero := some (Value.slice none 0 0), eqok := true }
 (.node .nil 112
 { desc := TypeDesc.struct { toList := [{ name := "config", type := 39, offset := 0, embedded := false, tag := "", pkgPath := "stopgate/model", byteOffset := 0 }, { name := "books", type := 110, offset := 7, embedded := false, tag := "", pkgPath := "stopgate/model", byteOffset := 104 }, { name := "credit", type := 79, offset := 8, embedded := false, tag := "", pkgPath := "stopgate/model", byteOffset := 128 }, { name := "epoch", type := 2, offset := 10, embedded := false, tag := "", pkgPath := "stopgate/model", byteOffset := 176 }, { name := "off", type := 4, offset := 11, embedded := false, tag := "", pkgPath := "stopgate/model", byteOffset := 184 }] }, size := 12, bytes := 192, zero := some (Value.agg { toList := [Value.int IntKind.i64 0, Value.int IntKind.i64 0, Value.int IntKind.i64 0, Value.int IntKind.i64 0, Value.slice none 0 0, Value.slice none 0 0, Value.slice none 0 0, Value.slice none 0 0, Value.slice none 0 0, Value.slice none 0 0, Value.int IntKind.i64 0, Value.bool false] }), eqok := true }
 .nil)) 124
 { desc := TypeDesc.struct { toList := [{ name := "Parent", type := 3, offset := 0, embedded := false, tag := "", pkgPath := "", byteOffset := 0 }, { name := "Cap", type := 2, offset := 1, embedded := false, tag := "", pkgPath := "", byteOffset := 8 }] }, size := 2, bytes := 16, zero := some (Value.agg { toList := [Value.int IntKind.i64 0, Value.int IntKind.i64 0] }), eqok := true }
 (.node (.node (.node .nil 129
 { desc := TypeDesc.func { toList := [54, 3] } { toList := [3] } false, size := 1, bytes := 8, zero := some Value.nilFunc, eqok := true }
 .nil) 135
 { desc := TypeDesc.func { toList := [3] } { toList := [4] } false, size := 1, bytes := 8, zero := some Value.nilFunc, eqok := true }
 .nil) 137
 { desc := TypeDesc.func { toList := [88] } { toList := [4] } false, size := 1, bytes := 8, zero := some Value.nilFunc, eqok := true }
 (.node .nil 152
 { desc := TypeDesc.int IntKind.u64, size := 1, bytes := 8, zero := some (Value.int IntKind.u64 0), eqok := true }
 .nil)))))
theorem tab_ok : TabOk Try.prog tab := tabOk_of (by kernel_rfl) (by kernel_rfl)
theorem mixed : Try.prog.follows .mixedOrders = true := by kernel_rfl
end Go.Proofs.Ytckkcgkgfkgfdaa.AM

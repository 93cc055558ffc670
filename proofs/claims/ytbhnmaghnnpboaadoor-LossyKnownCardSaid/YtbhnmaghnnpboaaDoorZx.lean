/- What a type assertion with two values tells of a command's value: closed facts for the walk. -/
import Derived.Test.YtbhnmaghnnpboaaDoorRows
import Derived.Test.YtbhnmaghnnpboaaDoorZa
namespace Go.Proofs.YtbhnmaghnnpboaaDoor
open Go.RowKit
@[go_sem] theorem ta_nil_98 (w : World) : (Instr.typeAssert .nilIface 20 98 true).run Tryd.prog w = .ok (.tuple #[.agg #[.slice none 0 0, .bool false, .bool false, .int .i64 0], .bool false]) w := by kernel_rfl
@[go_sem] theorem ta_98_98 (v : Value) (w : World) : (Instr.typeAssert (.iface 98 v) 20 98 true).run Tryd.prog w = .ok (.tuple #[v, .bool true]) w := by kernel_rfl
@[go_sem] theorem ta_83_98 (v : Value) (w : World) : (Instr.typeAssert (.iface 83 v) 20 98 true).run Tryd.prog w = .ok (.tuple #[.agg #[.slice none 0 0, .bool false, .bool false, .int .i64 0], .bool false]) w := by kernel_rfl
@[go_sem] theorem ta_108_98 (v : Value) (w : World) : (Instr.typeAssert (.iface 108 v) 20 98 true).run Tryd.prog w = .ok (.tuple #[.agg #[.slice none 0 0, .bool false, .bool false, .int .i64 0], .bool false]) w := by kernel_rfl
@[go_sem] theorem ta_111_98 (v : Value) (w : World) : (Instr.typeAssert (.iface 111 v) 20 98 true).run Tryd.prog w = .ok (.tuple #[.agg #[.slice none 0 0, .bool false, .bool false, .int .i64 0], .bool false]) w := by kernel_rfl
@[go_sem] theorem ta_115_98 (v : Value) (w : World) : (Instr.typeAssert (.iface 115 v) 20 98 true).run Tryd.prog w = .ok (.tuple #[.agg #[.slice none 0 0, .bool false, .bool false, .int .i64 0], .bool false]) w := by kernel_rfl
@[go_sem] theorem ta_80_98 (v : Value) (w : World) : (Instr.typeAssert (.iface 80 v) 20 98 true).run Tryd.prog w = .ok (.tuple #[.agg #[.slice none 0 0, .bool false, .bool false, .int .i64 0], .bool false]) w := by kernel_rfl
@[go_sem] theorem ta_102_98 (v : Value) (w : World) : (Instr.typeAssert (.iface 102 v) 20 98 true).run Tryd.prog w = .ok (.tuple #[.agg #[.slice none 0 0, .bool false, .bool false, .int .i64 0], .bool false]) w := by kernel_rfl
@[go_sem] theorem ta_77_98 (v : Value) (w : World) : (Instr.typeAssert (.iface 77 v) 20 98 true).run Tryd.prog w = .ok (.tuple #[.agg #[.slice none 0 0, .bool false, .bool false, .int .i64 0], .bool false]) w := by kernel_rfl
@[go_sem] theorem ta_nil_83 (w : World) : (Instr.typeAssert .nilIface 20 83 true).run Tryd.prog w = .ok (.tuple #[.agg #[.string ⟨#[]⟩, .string ⟨#[]⟩, .string ⟨#[]⟩, .int .u32 0, .int .i64 0, .int .u64 0, .bool false], .bool false]) w := by kernel_rfl
@[go_sem] theorem ta_98_83 (v : Value) (w : World) : (Instr.typeAssert (.iface 98 v) 20 83 true).run Tryd.prog w = .ok (.tuple #[.agg #[.string ⟨#[]⟩, .string ⟨#[]⟩, .string ⟨#[]⟩, .int .u32 0, .int .i64 0, .int .u64 0, .bool false], .bool false]) w := by kernel_rfl
@[go_sem] theorem ta_83_83 (v : Value) (w : World) : (Instr.typeAssert (.iface 83 v) 20 83 true).run Tryd.prog w = .ok (.tuple #[v, .bool true]) w := by kernel_rfl
@[go_sem] theorem ta_108_83 (v : Value) (w : World) : (Instr.typeAssert (.iface 108 v) 20 83 true).run Tryd.prog w = .ok (.tuple #[.agg #[.string ⟨#[]⟩, .string ⟨#[]⟩, .string ⟨#[]⟩, .int .u32 0, .int .i64 0, .int .u64 0, .bool false], .bool false]) w := by kernel_rfl
@[go_sem] theorem ta_111_83 (v : Value) (w : World) : (Instr.typeAssert (.iface 111 v) 20 83 true).run Tryd.prog w = .ok (.tuple #[.agg #[.string ⟨#[]⟩, .string ⟨#[]⟩, .string ⟨#[]⟩, .int .u32 0, .int .i64 0, .int .u64 0, .bool false], .bool false]) w := by kernel_rfl
@[go_sem] theorem ta_115_83 (v : Value) (w : World) : (Instr.typeAssert (.iface 115 v) 20 83 true).run Tryd.prog w = .ok (.tuple #[.agg #[.string ⟨#[]⟩, .string ⟨#[]⟩, .string ⟨#[]⟩, .int .u32 0, .int .i64 0, .int .u64 0, .bool false], .bool false]) w := by kernel_rfl
@[go_sem] theorem ta_80_83 (v : Value) (w : World) : (Instr.typeAssert (.iface 80 v) 20 83 true).run Tryd.prog w = .ok (.tuple #[.agg #[.string ⟨#[]⟩, .string ⟨#[]⟩, .string ⟨#[]⟩, .int .u32 0, .int .i64 0, .int .u64 0, .bool false], .bool false]) w := by kernel_rfl
@[go_sem] theorem ta_102_83 (v : Value) (w : World) : (Instr.typeAssert (.iface 102 v) 20 83 true).run Tryd.prog w = .ok (.tuple #[.agg #[.string ⟨#[]⟩, .string ⟨#[]⟩, .string ⟨#[]⟩, .int .u32 0, .int .i64 0, .int .u64 0, .bool false], .bool false]) w := by kernel_rfl
@[go_sem] theorem ta_77_83 (v : Value) (w : World) : (Instr.typeAssert (.iface 77 v) 20 83 true).run Tryd.prog w = .ok (.tuple #[.agg #[.string ⟨#[]⟩, .string ⟨#[]⟩, .string ⟨#[]⟩, .int .u32 0, .int .i64 0, .int .u64 0, .bool false], .bool false]) w := by kernel_rfl
@[go_sem] theorem ta_nil_108 (w : World) : (Instr.typeAssert .nilIface 20 108 true).run Tryd.prog w = .ok (.tuple #[.agg #[.string ⟨#[]⟩, .int .u64 0, .bool false, .bool false], .bool false]) w := by kernel_rfl
@[go_sem] theorem ta_98_108 (v : Value) (w : World) : (Instr.typeAssert (.iface 98 v) 20 108 true).run Tryd.prog w = .ok (.tuple #[.agg #[.string ⟨#[]⟩, .int .u64 0, .bool false, .bool false], .bool false]) w := by kernel_rfl
@[go_sem] theorem ta_83_108 (v : Value) (w : World) : (Instr.typeAssert (.iface 83 v) 20 108 true).run Tryd.prog w = .ok (.tuple #[.agg #[.string ⟨#[]⟩, .int .u64 0, .bool false, .bool false], .bool false]) w := by kernel_rfl
@[go_sem] theorem ta_108_108 (v : Value) (w : World) : (Instr.typeAssert (.iface 108 v) 20 108 true).run Tryd.prog w = .ok (.tuple #[v, .bool true]) w := by kernel_rfl
@[go_sem] theorem ta_111_108 (v : Value) (w : World) : (Instr.typeAssert (.iface 111 v) 20 108 true).run Tryd.prog w = .ok (.tuple #[.agg #[.string ⟨#[]⟩, .int .u64 0, .bool false, .bool false], .bool false]) w := by kernel_rfl
@[go_sem] theorem ta_115_108 (v : Value) (w : World) : (Instr.typeAssert (.iface 115 v) 20 108 true).run Tryd.prog w = .ok (.tuple #[.agg #[.string ⟨#[]⟩, .int .u64 0, .bool false, .bool false], .bool false]) w := by kernel_rfl
@[go_sem] theorem ta_80_108 (v : Value) (w : World) : (Instr.typeAssert (.iface 80 v) 20 108 true).run Tryd.prog w = .ok (.tuple #[.agg #[.string ⟨#[]⟩, .int .u64 0, .bool false, .bool false], .bool false]) w := by kernel_rfl
@[go_sem] theorem ta_102_108 (v : Value) (w : World) : (Instr.typeAssert (.iface 102 v) 20 108 true).run Tryd.prog w = .ok (.tuple #[.agg #[.string ⟨#[]⟩, .int .u64 0, .bool false, .bool false], .bool false]) w := by kernel_rfl
@[go_sem] theorem ta_77_108 (v : Value) (w : World) : (Instr.typeAssert (.iface 77 v) 20 108 true).run Tryd.prog w = .ok (.tuple #[.agg #[.string ⟨#[]⟩, .int .u64 0, .bool false, .bool false], .bool false]) w := by kernel_rfl
@[go_sem] theorem ta_nil_111 (w : World) : (Instr.typeAssert .nilIface 20 111 true).run Tryd.prog w = .ok (.tuple #[.agg #[.string ⟨#[]⟩, .int .i64 0, .bool false], .bool false]) w := by kernel_rfl
@[go_sem] theorem ta_98_111 (v : Value) (w : World) : (Instr.typeAssert (.iface 98 v) 20 111 true).run Tryd.prog w = .ok (.tuple #[.agg #[.string ⟨#[]⟩, .int .i64 0, .bool false], .bool false]) w := by kernel_rfl
@[go_sem] theorem ta_83_111 (v : Value) (w : World) : (Instr.typeAssert (.iface 83 v) 20 111 true).run Tryd.prog w = .ok (.tuple #[.agg #[.string ⟨#[]⟩, .int .i64 0, .bool false], .bool false]) w := by kernel_rfl
@[go_sem] theorem ta_108_111 (v : Value) (w : World) : (Instr.typeAssert (.iface 108 v) 20 111 true).run Tryd.prog w = .ok (.tuple #[.agg #[.string ⟨#[]⟩, .int .i64 0, .bool false], .bool false]) w := by kernel_rfl
@[go_sem] theorem ta_111_111 (v : Value) (w : World) : (Instr.typeAssert (.iface 111 v) 20 111 true).run Tryd.prog w = .ok (.tuple #[v, .bool true]) w := by kernel_rfl
@[go_sem] theorem ta_115_111 (v : Value) (w : World) : (Instr.typeAssert (.iface 115 v) 20 111 true).run Tryd.prog w = .ok (.tuple #[.agg #[.string ⟨#[]⟩, .int .i64 0, .bool false], .bool false]) w := by kernel_rfl
@[go_sem] theorem ta_80_111 (v : Value) (w : World) : (Instr.typeAssert (.iface 80 v) 20 111 true).run Tryd.prog w = .ok (.tuple #[.agg #[.string ⟨#[]⟩, .int .i64 0, .bool false], .bool false]) w := by kernel_rfl
@[go_sem] theorem ta_102_111 (v : Value) (w : World) : (Instr.typeAssert (.iface 102 v) 20 111 true).run Tryd.prog w = .ok (.tuple #[.agg #[.string ⟨#[]⟩, .int .i64 0, .bool false], .bool false]) w := by kernel_rfl
@[go_sem] theorem ta_77_111 (v : Value) (w : World) : (Instr.typeAssert (.iface 77 v) 20 111 true).run Tryd.prog w = .ok (.tuple #[.agg #[.string ⟨#[]⟩, .int .i64 0, .bool false], .bool false]) w := by kernel_rfl
@[go_sem] theorem ta_nil_115 (w : World) : (Instr.typeAssert .nilIface 20 115 true).run Tryd.prog w = .ok (.tuple #[.agg #[.string ⟨#[]⟩, .bool false], .bool false]) w := by kernel_rfl
@[go_sem] theorem ta_98_115 (v : Value) (w : World) : (Instr.typeAssert (.iface 98 v) 20 115 true).run Tryd.prog w = .ok (.tuple #[.agg #[.string ⟨#[]⟩, .bool false], .bool false]) w := by kernel_rfl
@[go_sem] theorem ta_83_115 (v : Value) (w : World) : (Instr.typeAssert (.iface 83 v) 20 115 true).run Tryd.prog w = .ok (.tuple #[.agg #[.string ⟨#[]⟩, .bool false], .bool false]) w := by kernel_rfl
@[go_sem] theorem ta_108_115 (v : Value) (w : World) : (Instr.typeAssert (.iface 108 v) 20 115 true).run Tryd.prog w = .ok (.tuple #[.agg #[.string ⟨#[]⟩, .bool false], .bool false]) w := by kernel_rfl
@[go_sem] theorem ta_111_115 (v : Value) (w : World) : (Instr.typeAssert (.iface 111 v) 20 115 true).run Tryd.prog w = .ok (.tuple #[.agg #[.string ⟨#[]⟩, .bool false], .bool false]) w := by kernel_rfl
@[go_sem] theorem ta_115_115 (v : Value) (w : World) : (Instr.typeAssert (.iface 115 v) 20 115 true).run Tryd.prog w = .ok (.tuple #[v, .bool true]) w := by kernel_rfl
@[go_sem] theorem ta_80_115 (v : Value) (w : World) : (Instr.typeAssert (.iface 80 v) 20 115 true).run Tryd.prog w = .ok (.tuple #[.agg #[.string ⟨#[]⟩, .bool false], .bool false]) w := by kernel_rfl
@[go_sem] theorem ta_102_115 (v : Value) (w : World) : (Instr.typeAssert (.iface 102 v) 20 115 true).run Tryd.prog w = .ok (.tuple #[.agg #[.string ⟨#[]⟩, .bool false], .bool false]) w := by kernel_rfl
@[go_sem] theorem ta_77_115 (v : Value) (w : World) : (Instr.typeAssert (.iface 77 v) 20 115 true).run Tryd.prog w = .ok (.tuple #[.agg #[.string ⟨#[]⟩, .bool false], .bool false]) w := by kernel_rfl
@[go_sem] theorem ta_nil_80 (w : World) : (Instr.typeAssert .nilIface 20 80 true).run Tryd.prog w = .ok (.tuple #[.agg #[.bool false], .bool false]) w := by kernel_rfl
@[go_sem] theorem ta_98_80 (v : Value) (w : World) : (Instr.typeAssert (.iface 98 v) 20 80 true).run Tryd.prog w = .ok (.tuple #[.agg #[.bool false], .bool false]) w := by kernel_rfl
@[go_sem] theorem ta_83_80 (v : Value) (w : World) : (Instr.typeAssert (.iface 83 v) 20 80 true).run Tryd.prog w = .ok (.tuple #[.agg #[.bool false], .bool false]) w := by kernel_rfl
@[go_sem] theorem ta_108_80 (v : Value) (w : World) : (Instr.typeAssert (.iface 108 v) 20 80 true).run Tryd.prog w = .ok (.tuple #[.agg #[.bool false], .bool false]) w := by kernel_rfl
@[go_sem] theorem ta_111_80 (v : Value) (w : World) : (Instr.typeAssert (.iface 111 v) 20 80 true).run Tryd.prog w = .ok (.tuple #[.agg #[.bool false], .bool false]) w := by kernel_rfl
@[go_sem] theorem ta_115_80 (v : Value) (w : World) : (Instr.typeAssert (.iface 115 v) 20 80 true).run Tryd.prog w = .ok (.tuple #[.agg #[.bool false], .bool false]) w := by kernel_rfl
@[go_sem] theorem ta_80_80 (v : Value) (w : World) : (Instr.typeAssert (.iface 80 v) 20 80 true).run Tryd.prog w = .ok (.tuple #[v, .bool true]) w := by kernel_rfl
@[go_sem] theorem ta_102_80 (v : Value) (w : World) : (Instr.typeAssert (.iface 102 v) 20 80 true).run Tryd.prog w = .ok (.tuple #[.agg #[.bool false], .bool false]) w := by kernel_rfl
@[go_sem] theorem ta_77_80 (v : Value) (w : World) : (Instr.typeAssert (.iface 77 v) 20 80 true).run Tryd.prog w = .ok (.tuple #[.agg #[.bool false], .bool false]) w := by kernel_rfl
@[go_sem] theorem ta_nil_102 (w : World) : (Instr.typeAssert .nilIface 20 102 true).run Tryd.prog w = .ok (.tuple #[.agg #[.string ⟨#[]⟩], .bool false]) w := by kernel_rfl
@[go_sem] theorem ta_98_102 (v : Value) (w : World) : (Instr.typeAssert (.iface 98 v) 20 102 true).run Tryd.prog w = .ok (.tuple #[.agg #[.string ⟨#[]⟩], .bool false]) w := by kernel_rfl
@[go_sem] theorem ta_83_102 (v : Value) (w : World) : (Instr.typeAssert (.iface 83 v) 20 102 true).run Tryd.prog w = .ok (.tuple #[.agg #[.string ⟨#[]⟩], .bool false]) w := by kernel_rfl
@[go_sem] theorem ta_108_102 (v : Value) (w : World) : (Instr.typeAssert (.iface 108 v) 20 102 true).run Tryd.prog w = .ok (.tuple #[.agg #[.string ⟨#[]⟩], .bool false]) w := by kernel_rfl
@[go_sem] theorem ta_111_102 (v : Value) (w : World) : (Instr.typeAssert (.iface 111 v) 20 102 true).run Tryd.prog w = .ok (.tuple #[.agg #[.string ⟨#[]⟩], .bool false]) w := by kernel_rfl
@[go_sem] theorem ta_115_102 (v : Value) (w : World) : (Instr.typeAssert (.iface 115 v) 20 102 true).run Tryd.prog w = .ok (.tuple #[.agg #[.string ⟨#[]⟩], .bool false]) w := by kernel_rfl
@[go_sem] theorem ta_80_102 (v : Value) (w : World) : (Instr.typeAssert (.iface 80 v) 20 102 true).run Tryd.prog w = .ok (.tuple #[.agg #[.string ⟨#[]⟩], .bool false]) w := by kernel_rfl
@[go_sem] theorem ta_102_102 (v : Value) (w : World) : (Instr.typeAssert (.iface 102 v) 20 102 true).run Tryd.prog w = .ok (.tuple #[v, .bool true]) w := by kernel_rfl
@[go_sem] theorem ta_77_102 (v : Value) (w : World) : (Instr.typeAssert (.iface 77 v) 20 102 true).run Tryd.prog w = .ok (.tuple #[.agg #[.string ⟨#[]⟩], .bool false]) w := by kernel_rfl
@[go_sem] theorem ta_nil_77 (w : World) : (Instr.typeAssert .nilIface 20 77 true).run Tryd.prog w = .ok (.tuple #[.agg #[.string ⟨#[]⟩], .bool false]) w := by kernel_rfl
@[go_sem] theorem ta_98_77 (v : Value) (w : World) : (Instr.typeAssert (.iface 98 v) 20 77 true).run Tryd.prog w = .ok (.tuple #[.agg #[.string ⟨#[]⟩], .bool false]) w := by kernel_rfl
@[go_sem] theorem ta_83_77 (v : Value) (w : World) : (Instr.typeAssert (.iface 83 v) 20 77 true).run Tryd.prog w = .ok (.tuple #[.agg #[.string ⟨#[]⟩], .bool false]) w := by kernel_rfl
@[go_sem] theorem ta_108_77 (v : Value) (w : World) : (Instr.typeAssert (.iface 108 v) 20 77 true).run Tryd.prog w = .ok (.tuple #[.agg #[.string ⟨#[]⟩], .bool false]) w := by kernel_rfl
@[go_sem] theorem ta_111_77 (v : Value) (w : World) : (Instr.typeAssert (.iface 111 v) 20 77 true).run Tryd.prog w = .ok (.tuple #[.agg #[.string ⟨#[]⟩], .bool false]) w := by kernel_rfl
@[go_sem] theorem ta_115_77 (v : Value) (w : World) : (Instr.typeAssert (.iface 115 v) 20 77 true).run Tryd.prog w = .ok (.tuple #[.agg #[.string ⟨#[]⟩], .bool false]) w := by kernel_rfl
@[go_sem] theorem ta_80_77 (v : Value) (w : World) : (Instr.typeAssert (.iface 80 v) 20 77 true).run Tryd.prog w = .ok (.tuple #[.agg #[.string ⟨#[]⟩], .bool false]) w := by kernel_rfl
@[go_sem] theorem ta_102_77 (v : Value) (w : World) : (Instr.typeAssert (.iface 102 v) 20 77 true).run Tryd.prog w = .ok (.tuple #[.agg #[.string ⟨#[]⟩], .bool false]) w := by kernel_rfl
@[go_sem] theorem ta_77_77 (v : Value) (w : World) : (Instr.typeAssert (.iface 77 v) 20 77 true).run Tryd.prog w = .ok (.tuple #[v, .bool true]) w := by kernel_rfl
end Go.Proofs.YtbhnmaghnnpboaaDoor

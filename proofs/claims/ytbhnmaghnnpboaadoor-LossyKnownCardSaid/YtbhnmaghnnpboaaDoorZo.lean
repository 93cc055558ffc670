/- lossy: what the rows' listed variables give; a world for the witness. -/
import Derived.Test.YtbhnmaghnnpboaaDoorZv
import Derived.Deep.DeepHandedRow
import Derived.Deep.DeepWitnessRowRef
import Derived.Lib.LaidIn
import Derived.Lib.LaidU8
import Derived.Stop.LaidErr
import Derived.ProofKit
import Derived.OpenShut
namespace Go.Proofs.YtbhnmaghnnpboaaDoor
open Go.ChangeShapes Go.WideShapes Go.ChangeAt Go.RowKit Go.Lib Go.Shelf
theorem own : ownKnob Tryd.prog.godebug = none := by kernel_rfl
theorem star : "*" ++ "errors.errorString" = "*errors.errorString" := by decide
/-- The one row of that name. -/
theorem row182 (u : TypeId) (h : Tryd.prog.typeName? 3 u = some "*errors.errorString") : u = 182 :=
  typeName_ptr_named (nm := "errors.errorString") (by rw [star]; kernel_rfl) (by kernel_rfl) (by decide) u (by rw [star]; exact h)
def bRange : List UInt8 := [118, 97, 108, 117, 101, 32, 111, 117, 116, 32, 111, 102, 32, 114, 97, 110, 103, 101]
def bSyntax : List UInt8 := [105, 110, 118, 97, 108, 105, 100, 32, 115, 121, 110, 116, 97, 120]
def d32 : List Int := [0, 1, 28, 2, 29, 14, 24, 3, 30, 22, 20, 15, 25, 17, 4, 8, 31, 27, 13, 23, 21, 19, 16, 7, 26, 12, 18, 6, 11, 5, 10, 9]
def d64 : List Int := [0, 1, 56, 2, 57, 49, 28, 3, 61, 58, 42, 50, 38, 29, 17, 4, 62, 47, 59, 36, 45, 43, 51, 22, 53, 39, 33, 30, 24, 18, 12, 5, 63, 55, 48, 27, 60, 41, 37, 16, 46, 35, 44, 21, 52, 32, 23, 11, 54, 26, 40, 15, 34, 20, 31, 10, 25, 14, 19, 9, 13, 8, 7, 6]
/-- The rows' list. -/
abbrev theLaid : List (String × DataW Unit) := [("math/bits.deBruijn32tab", Rows.laid_math_bits_deBruijn32tab), ("math/bits.deBruijn64tab", Rows.laid_math_bits_deBruijn64tab), ("internal/strconv.uint64pow10", Rows.laid_internal_strconv_uint64pow10), ("unicode/utf8.acceptRanges", Rows.laid_unicode_utf8_acceptRanges), ("strconv.ErrRange", Rows.laid_strconv_ErrRange), ("strconv.ErrSyntax", Rows.laid_strconv_ErrSyntax), ("unicode/utf8.first", Rows.laid_unicode_utf8_first)]

theorem first_eq : (Rows.laid_unicode_utf8_first : DataW Unit) = firstData := by kernel_rfl
theorem accept_eq : (Rows.laid_unicode_utf8_acceptRanges : DataW Unit) = acceptData := by kernel_rfl
/-- What the list gives. -/
theorem tabs_of {W : World} (hL : laidMetH Tryd.prog theLaid W) : Tabs W := by
  have hL' : laidMet Tryd.prog theLaid W := hL
  have hU : Lib.Utf8Tabs 0 1 W :=
    utf8Tabs_of_reads (ρ := Tryd.lays260_ren) Tryd.lays260 ⟨by kernel_rfl, by kernel_rfl, by kernel_rfl, by kernel_rfl, by kernel_rfl, by kernel_rfl, by kernel_rfl⟩
      (show VarReads Tryd.prog W "unicode/utf8.first" firstData from first_eq ▸ Lib.laidMet.reads hL' (show ("unicode/utf8.first", Rows.laid_unicode_utf8_first) ∈ theLaid from .tail _ (.tail _ (.tail _ (.tail _ (.tail _ (.tail _ (.head _))))))))
      (show VarReads Tryd.prog W "unicode/utf8.acceptRanges" acceptData from accept_eq ▸ Lib.laidMet.reads hL' (show ("unicode/utf8.acceptRanges", Rows.laid_unicode_utf8_acceptRanges) ∈ theLaid from .tail _ (.tail _ (.tail _ (.head _)))))
  have hP : Lib.TabIs Tryd.prog W "internal/strconv.uint64pow10" IntKind.u64 Lib.pow10Tab :=
    tabIs_of_head (P := Tryd.prog) (zs := Lib.pow10Tab) (g := 4) (t := 177) (e := 27) (n := 20) (by kernel_rfl) (by kernel_rfl) Tryd.underlying177 Tryd.underlying27 (by kernel_rfl) (by kernel_rfl) hL'.tail.tail
  obtain ⟨a1, t1, hv1, hc1, ht1, _⟩ := laid_sentinel (P := Tryd.prog) (g := 3) (ti := 147) hL'.tail.tail.tail.tail (by kernel_rfl) (by kernel_rfl) Tryd.underlying147 row182 Tryd.underlying182 Tryd.underlying184 rfl rfl Tryd.underlying9 (by kernel_rfl) (by kernel_rfl)
  refine ⟨hU, hP, ⟨_, _, hv1⟩, ?_⟩
  obtain ⟨g, t, cs, fuel, p, hg, _, hvar, _⟩ := Lib.laidMet.reads hL' (show ("math/bits.deBruijn64tab", Rows.laid_math_bits_deBruijn64tab) ∈ theLaid from .tail _ (.head _))
  obtain rfl := Option.some.inj ((show Tryd.prog.globalNamed "math/bits.deBruijn64tab" = some 6 by kernel_rfl).symm.trans hg)
  unfold World.var? at hvar
  rw [hg] at hvar
  simp only [Option.bind_some] at hvar
  rcases Nat.lt_or_ge 6 W.heap.size with h | h
  · omega
  · simp [Array.getElem?_eq_none h] at hvar

/-- A world for the witness: the settled one, two blocks more (the errors' structs), the seven variables as their initialisers lay them. -/
noncomputable def laidWorld (os : Os) : World :=
  let N := (World.settled Tryd.prog os).heap.size
  let w0 := World.holding Tryd.prog os ⟨#[.cells #[.string ⟨bSyntax.toArray⟩] 184, .cells #[.string ⟨bRange.toArray⟩] 184], #[], []⟩
  let put (h : Array Obj) (g : Nat) (cs : Array Value) : Array Obj := h.modify g fun
    | .cells _ t frozen => .cells cs t frozen
    | o => o
  let h0 := put w0.heap 0 (Lib.firstTab.map fun z => Value.int .u8 z).toArray
  let h1 := put h0 1 ((List.range 16).flatMap fun i => [Value.int .u8 (Lib.accLo i), Value.int .u8 (Lib.accHi i)]).toArray
  let h2 := put h1 2 #[.iface 182 (.pointer (some ⟨N, 0, none⟩))]
  let h3 := put h2 3 #[.iface 182 (.pointer (some ⟨N + 1, 0, none⟩))]
  let h4 := put h3 4 (Lib.pow10Tab.map fun z => Value.int .u64 z).toArray
  let h5 := put h4 5 (d32.map fun z => Value.int .u8 z).toArray
  let h6 := put h5 6 (d64.map fun z => Value.int .u8 z).toArray
  { w0 with heap := h6 }
noncomputable abbrev N0 : Nat := (World.settled Tryd.prog default).heap.size
set_option maxRecDepth 1000000 in
theorem laid_met (os : Os) (args : Array Value) : laidMet Tryd.prog theLaid ((laidWorld os).forCall (fun _ _ => 0) ⟨#[], args, []⟩).memory :=
  (LaidIn.of_run [5, 6, 4, 1, 3, N0 + 1, 2, N0, 0] 8 (by kernel_rfl) (by kernel_rfl) (by kernel_rfl) (by kernel_rfl)).met
end Go.Proofs.YtbhnmaghnnpboaaDoor

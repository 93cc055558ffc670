/- The map of items in memory: look-up, store, delete, clear. -/
import Derived.Test.YtbhnmaghnnpboaaDoorZa
import Derived.Test.YtbhnmaghnnpboaaDoorRows
import Derived.MapKept
import Derived.Maps.OwnSet
import Derived.Test.YtbhnmaghnnpboaaDoorZb
import Derived.Deep.RegionHeld3
import Derived.Deep.DrawnRows
import Derived.Test.YtbhnmaghnnpboaaDoorZq
namespace Go.Proofs.YtbhnmaghnnpboaaDoor
open Go.RowKit

def encE (p : ByteArray × M.Item) : Value × Value := (.string p.1, itemV p.2)
def shapeE (es : List MapEntry) : List (Value × Value) := es.map fun e => (e.key, e.val)
/-- Block g is a map that reads as l. -/
def MapAt (w : World) (g : Nat) (l : M.Mp) : Prop := ∃ es clk, w.heap[g]? = some (.map es clk) ∧ shapeE es.toList = l.map encE
def zeroItem : Value := .agg #[.string ⟨#[]⟩, .string ⟨#[]⟩, .int .u32 0, .int .i64 0, .int .u64 0]

theorem same_str (k a : ByteArray) : Instr.sameNow .string (.string k) (.string a) = some (decide (a = k)) := by
  obtain ⟨r, hr, hiff⟩ := MapKept.sameNow_of_keys (d := .string) (a := .string k) (b := .string a) trivial trivial
  rw [hr]
  congr 1
  rw [Bool.eq_iff_iff, hiff, decide_eq_true_eq]
  constructor
  · intro h; injection h with h; exact h.symm
  · intro h; rw [h]

theorem find_none {k : ByteArray} : ∀ (l : M.Mp) (es : List MapEntry) (i : Nat), M.look l k = none → shapeE es = l.map encE → Instr.findNow .string (.string k) es i = some none
  | [], es, i, _, h => by
    have : es = [] := by cases es <;> simp_all [shapeE]
    subst this; rfl
  | p :: l, es, i, hl, h => by
    match es, h with
    | [], h => simp [shapeE] at h
    | e :: es, h =>
      simp only [shapeE, List.map_cons, List.cons.injEq, encE, Prod.mk.injEq] at h
      obtain ⟨⟨h1, h2⟩, h3⟩ := h
      unfold M.look at hl
      by_cases hk : p.1 = k
      · rw [if_pos hk] at hl; cases hl
      · rw [if_neg hk] at hl
        unfold Instr.findNow
        rw [h1, same_str, decide_eq_false hk]
        exact find_none l es (i + 1) hl h3
theorem find_some {k : ByteArray} {x : M.Item} : ∀ (l : M.Mp) (es : List MapEntry) (i : Nat), M.look l k = some x → shapeE es = l.map encE →
    ∃ j, Instr.findNow .string (.string k) es i = some (some (i + j, itemV x)) ∧ (∃ e, es[j]? = some e ∧ e.key = .string k) ∧
      (∀ y, shapeE (es.modify j fun e => { e with key := .string k, val := itemV y }) = (M.mset l k y).map encE) ∧ shapeE (es.eraseIdx j) = (M.mdel l k).map encE
  | [], es, i, hl, h => by cases hl
  | p :: l, es, i, hl, h => by
    match es, h with
    | [], h => simp [shapeE] at h
    | e :: es, h =>
      simp only [shapeE, List.map_cons, List.cons.injEq, encE, Prod.mk.injEq] at h
      obtain ⟨⟨h1, h2⟩, h3⟩ := h
      unfold M.look at hl
      by_cases hk : p.1 = k
      · rw [if_pos hk] at hl
        injection hl with hl
        refine ⟨0, ?_, ⟨e, rfl, by rw [h1, hk]⟩, ?_, ?_⟩
        · unfold Instr.findNow
          rw [h1, same_str, decide_eq_true hk, h2, hl]; rfl
        · intro y
          simp only [M.mset, if_pos hk, List.map_cons, shapeE, encE]
          simp only [List.modify_zero_cons, List.map_cons]
          congr 1
        · simp only [M.mdel, if_pos hk, shapeE, List.eraseIdx_cons_zero]; exact h3
      · rw [if_neg hk] at hl
        obtain ⟨j, g1, ⟨e', g2, g3⟩, g4, g5⟩ := find_some l es (i + 1) hl h3
        refine ⟨j + 1, ?_, ⟨e', by simpa using g2, g3⟩, ?_, ?_⟩
        · unfold Instr.findNow
          rw [h1, same_str, decide_eq_false hk]
          rw [g1, show i + 1 + j = i + (j + 1) by omega]
        · intro y
          simp only [M.mset, if_neg hk, List.map_cons, List.modify_succ_cons, shapeE, encE]
          congr 1
          · rw [h1, h2]
          · exact g4 y
        · simp only [M.mdel, if_neg hk, List.map_cons, List.eraseIdx_cons_succ, shapeE, encE]
          exact List.cons_eq_cons.2 ⟨by rw [h1, h2], g5⟩
theorem mset_none {k : ByteArray} {x : M.Item} : ∀ (l : M.Mp), M.look l k = none → M.mset l k x = l ++ [(k, x)]
  | [], _ => rfl
  | p :: l, h => by
    unfold M.look at h
    by_cases hk : p.1 = k
    · rw [if_pos hk] at h; cases h
    · rw [if_neg hk] at h
      simp only [M.mset, if_neg hk, mset_none l h, List.cons_append]
theorem mdel_none {k : ByteArray} : ∀ (l : M.Mp), M.look l k = none → M.mdel l k = l
  | [], _ => rfl
  | p :: l, h => by
    unfold M.look at h
    by_cases hk : p.1 = k
    · rw [if_pos hk] at h; cases h
    · rw [if_neg hk] at h
      simp only [M.mdel, if_neg hk, mdel_none l h]

/-- The world with another object in block g. -/
def putObj (w : World) (g : Nat) (o : Obj) : World := { w with heap := w.heap.setIfInBounds g o }

theorem run_look_some (w : World) (g : Nat) (l : M.Mp) (k : ByteArray) (x : M.Item) (h : MapAt w g l) (hl : M.look l k = some x) :
    (Instr.lookup 91 (.map (some g)) (.string k) true).run Tryd.prog w = .ok (.tuple #[itemV x, .bool true]) w := by
  obtain ⟨es, clk, hh, hs⟩ := h
  obtain ⟨j, g1, _⟩ := find_some l es.toList 0 hl hs
  simp [Instr.lookup, run_underlying Tryd.underlying91, MapKept.run_getObj_map hh, MapKept.run_checkKey (d := .string) (k := .string k) Tryd.underlying9 trivial, MapKept.run_findKey Tryd.underlying9 g1, Result.andThen]
theorem run_look_none (w : World) (g : Nat) (l : M.Mp) (k : ByteArray) (h : MapAt w g l) (hl : M.look l k = none) :
    (Instr.lookup 91 (.map (some g)) (.string k) true).run Tryd.prog w = .ok (.tuple #[zeroItem, .bool false]) w := by
  obtain ⟨es, clk, hh, hs⟩ := h
  have g1 := find_none l es.toList 0 hl hs
  have hz : (zeroValue 65).run Tryd.prog w = .ok zeroItem w := by kernel_rfl
  simp [Instr.lookup, run_underlying Tryd.underlying91, MapKept.run_getObj_map hh, MapKept.run_checkKey (d := .string) (k := .string k) Tryd.underlying9 trivial, MapKept.run_findKey Tryd.underlying9 g1, Result.andThen, hz]
theorem run_mset (w : World) (g : Nat) (l : M.Mp) (k : ByteArray) (x : M.Item) (h : MapAt w g l) :
    ∃ w', (Instr.mapUpdate 91 (.map (some g)) (.string k) (itemV x)).run Tryd.prog w = .ok () w' ∧ MapAt w' g (M.mset l k x) ∧ w.grownBy w' (some g) := by
  obtain ⟨es, clk, hh, hs⟩ := h
  have hlt : g < w.heap.size := (Array.getElem?_eq_some_iff.1 hh).1
  cases hl : M.look l k with
  | none =>
    have g1 := find_none l es.toList 0 hl hs
    refine ⟨putObj w g (.map (es.push ⟨.string k, itemV x, clk⟩) (clk + 1)), ?_, ⟨_, _, (MapKept.heap_set hh).1, ?_⟩, ⟨rfl, rfl, rfl, by simp [putObj], fun j hj hne => (MapKept.heap_set hh).2 j (fun e => hne (by rw [e]))⟩⟩
    · simp [Instr.mapUpdate, run_underlying Tryd.underlying91, MapKept.run_getObj_map hh, MapKept.run_checkKey (d := .string) (k := .string k) Tryd.underlying9 trivial, MapKept.run_findKey Tryd.underlying9 g1, MapKept.run_setObj_map _ hh, Result.andThen, putObj]
    · rw [mset_none l hl]
      simp only [Array.toList_push, shapeE, List.map_append, List.map_cons, List.map_nil]
      rw [show es.toList.map (fun e => (e.key, e.val)) = l.map encE from hs]; rfl
  | some y =>
    obtain ⟨j, g1, ⟨e, g2, g3⟩, g4, g5⟩ := find_some l es.toList 0 hl hs
    have g2' : es[j]? = some e := by simpa using g2
    refine ⟨putObj w g (.map (es.modify j fun e => { e with key := .string k, val := itemV x }) clk), ?_, ⟨_, _, (MapKept.heap_set hh).1, ?_⟩, ⟨rfl, rfl, rfl, by simp [putObj], fun j hj hne => (MapKept.heap_set hh).2 j (fun e => hne (by rw [e]))⟩⟩
    · simp [Instr.mapUpdate, run_underlying Tryd.underlying91, MapKept.run_getObj_map hh, MapKept.run_checkKey (d := .string) (k := .string k) Tryd.underlying9 trivial, MapKept.run_findKey Tryd.underlying9 g1, MapKept.run_setObj_map _ hh, Result.andThen, putObj, g2', g3, MapKept.run_keyThatStays (d := .string) (k := .string k) trivial]
    · rw [Array.toList_modify]; exact g4 x
theorem run_mdel (w : World) (g : Nat) (l : M.Mp) (k : ByteArray) (h : MapAt w g l) :
    ∃ w', (Builtin.delete_ #[91, 9] 0 #[.map (some g), .string k]).run Tryd.prog w = .ok (.tuple #[]) w' ∧ MapAt w' g (M.mdel l k) ∧ w.grownBy w' (some g) := by
  obtain ⟨es, clk, hh, hs⟩ := h
  cases hl : M.look l k with
  | none =>
    have g1 := find_none l es.toList 0 hl hs
    refine ⟨putObj w g (.map es clk), ?_, ⟨_, _, (MapKept.heap_set hh).1, ?_⟩, ⟨rfl, rfl, rfl, by simp [putObj], fun j hj hne => (MapKept.heap_set hh).2 j (fun e => hne (by rw [e]))⟩⟩
    · simp [Builtin.delete_, run_underlying Tryd.underlying91, MapKept.run_getObj_map hh, MapKept.run_checkKey (d := .string) (k := .string k) Tryd.underlying9 trivial, MapKept.run_findKey Tryd.underlying9 g1, MapKept.run_setObj_map _ hh, Result.andThen, putObj]
    · rw [mdel_none l hl]; exact hs
  | some y =>
    obtain ⟨j, g1, ⟨e, g2, g3⟩, g4, g5⟩ := find_some l es.toList 0 hl hs
    refine ⟨putObj w g (.map (es.eraseIdxIfInBounds j) clk), ?_, ⟨_, _, (MapKept.heap_set hh).1, ?_⟩, ⟨rfl, rfl, rfl, by simp [putObj], fun j hj hne => (MapKept.heap_set hh).2 j (fun e => hne (by rw [e]))⟩⟩
    · simp [Builtin.delete_, run_underlying Tryd.underlying91, MapKept.run_getObj_map hh, MapKept.run_checkKey (d := .string) (k := .string k) Tryd.underlying9 trivial, MapKept.run_findKey Tryd.underlying9 g1, MapKept.run_setObj_map _ hh, Result.andThen, putObj]
    · have : (es.eraseIdxIfInBounds j).toList = es.toList.eraseIdx j := by simp
      rw [this]; exact g5
theorem run_mclear (w : World) (g : Nat) (l : M.Mp) (h : MapAt w g l) :
    ∃ w', (Builtin.clear_ #[91] 0 #[.map (some g)]).run Tryd.prog w = .ok (.tuple #[]) w' ∧ MapAt w' g [] ∧ w.grownBy w' (some g) := by
  obtain ⟨es, clk, hh, hs⟩ := h
  refine ⟨putObj w g (.map #[] clk), ?_, ⟨_, _, (MapKept.heap_set hh).1, rfl⟩, ⟨rfl, rfl, rfl, by simp [putObj], fun j hj hne => (MapKept.heap_set hh).2 j (fun e => hne (by rw [e]))⟩⟩
  simp [Builtin.clear_, run_underlying Tryd.underlying91, MapKept.run_getObj_map hh, MapKept.run_setObj_map _ hh, Result.andThen, putObj]
end Go.Proofs.YtbhnmaghnnpboaaDoor
/- model.Map: Get, Lose, set. -/
namespace Go.Proofs.YtbhnmaghnnpboaaDoor
open Go.RowKit
attribute [local go_sem ↓] Go.wp_at_zero Go.wp_at_succ

/-- Block mb is a model.Map over the map in block g, that reads as l. -/
structure MapSt (w : World) (mb g : Nat) (l : M.Mp) : Prop where
  hd : w.heap[mb]? = some (.cells #[.map (some g)] 93)
  at_ : MapAt w g l
theorem MapAt.lt {w : World} {g : Nat} {l : M.Mp} (h : MapAt w g l) : g < w.heap.size := by
  obtain ⟨es, clk, hh, _⟩ := h
  exact (Array.getElem?_eq_some_iff.1 hh).1
theorem MapAt.same {w w' : World} {g : Nat} {l : M.Mp} (h : MapAt w g l) (he : w'.heap[g]? = w.heap[g]?) : MapAt w' g l := by
  obtain ⟨es, clk, hh, hs⟩ := h
  exact ⟨es, clk, he.trans hh, hs⟩
theorem MapAt.alloc {w : World} {g : Nat} {l : M.Mp} (h : MapAt w g l) (o : Obj) : MapAt (w.alloc o) g l := h.same (Below.heap_alloc w o g h.lt)
theorem MapSt.lt {w : World} {mb g : Nat} {l : M.Mp} (h : MapSt w mb g l) : mb < w.heap.size := (Array.getElem?_eq_some_iff.1 h.hd).1
theorem MapSt.cell {w : World} {mb g : Nat} {l : M.Mp} (h : MapSt w mb g l) : w.cell? ⟨mb, 0, none⟩ = some (.map (some g)) := by
  rw [cell_of_row w mb 0 _ 93 (0, 0) h.hd]; rfl
theorem MapSt.ne {w : World} {mb g : Nat} {l : M.Mp} (h : MapSt w mb g l) : mb ≠ g := by
  rintro rfl
  obtain ⟨es, clk, hh, _⟩ := h.at_
  rw [h.hd] at hh; cases hh
theorem MapSt.below {w w' : World} {mb g : Nat} {l : M.Mp} (h : MapSt w mb g l) (hb : Below w.heap.size w w') : MapSt w' mb g l :=
  ⟨(hb.block mb h.lt).trans h.hd, h.at_.same (hb.block g h.at_.lt)⟩
/-- Only block g may have changed, and there may be new blocks. -/
theorem MapSt.grown {w w' : World} {mb g : Nat} {l l' : M.Mp} (h : MapSt w mb g l) (hg : w.grownBy w' (some g)) (ha : MapAt w' g l') : MapSt w' mb g l' :=
  ⟨(hg.block mb h.lt (fun e => h.ne (by injection e))).trans h.hd, ha⟩

theorem gr_bel {w w1 w2 : World} {row : Option Nat} (hb : Below w.heap.size w w1) (hg : w1.grownBy w2 row) : w.grownBy w2 row :=
  ⟨hg.os.trans hb.os, hg.tape.trans hb.tape, hg.output.trans hb.output, Nat.le_trans hb.size hg.size, fun k hk hn => (hg.block k (Nat.lt_of_lt_of_le hk hb.size) hn).trans (hb.block k hk)⟩
theorem gr_after {w w1 w2 : World} {row : Option Nat} (hg : w.grownBy w1 row) (hb : Below w1.heap.size w1 w2) : w.grownBy w2 row :=
  ⟨hb.os.trans hg.os, hb.tape.trans hg.tape, hb.output.trans hg.output, Nat.le_trans hg.size hb.size, fun k hk hn => (hb.block k (Nat.lt_of_lt_of_le hk hg.size)).trans (hg.block k hk hn)⟩
theorem gr_of {w w1 : World} {row : Option Nat} (hb : Below w.heap.size w w1) : w.grownBy w1 row := gr_bel hb (World.grownBy.refl _ _)

set_option maxHeartbeats 1000000 in
theorem mget_some (mb g : Nat) (l : M.Mp) (k : ByteArray) (now : Int) (x : M.Item) (w : World) (h : MapSt w mb g l) (hx : M.mget l k now = some x) :
    Calls Tryd.prog 24 #[.pointer (some ⟨mb, 0, none⟩), .string k, .int .i64 now] w fun e w' => e = .returned (.tuple #[.agg #[.string x.key, .string x.val, .int .u32 x.flags, .int .i64 x.exp, .int .u64 x.ver], .bool true]) ∧ Below w.heap.size w w' := by
  have hl : M.look l k = some x ∧ (x.exp = 0 ∨ now < x.exp) := by
    unfold M.mget at hx
    cases hk : M.look l k with
    | none => rw [hk] at hx; cases hx
    | some y =>
      rw [hk] at hx
      simp only at hx
      split at hx
      · cases hx
      · injection hx with hx; subst hx; exact ⟨rfl, by omega⟩
  obtain ⟨hl, hexp⟩ := hl
  have hc := h.cell
  have hmb := h.lt
  have hrun : ∀ o, (Instr.lookup 91 (.map (some g)) (.string k) true).run Tryd.prog (w.alloc o) = .ok (.tuple #[.agg #[.string x.key, .string x.val, .int .u32 x.flags, .int .i64 x.exp, .int .u64 x.ver], .bool true]) (w.alloc o) := fun o => run_look_some _ g l k x (h.at_.alloc o) hl
  clear h hx hl
  rcases hexp with he | he
  · have t1 : (x.exp != 0) = false := by simp [he]
    have HE := Lib.hid he
    clear he
    go_enter Tryd.func24, Tryd.ntmps24
    go_wp2_with fail
    refine bodyPost_ret (v := .tuple #[.agg #[.string x.key, .string x.val, .int .u32 x.flags, .int .i64 x.exp, .int .u64 x.ver], .bool true]) (by simp [results, Tryd.results24, go_sem]) rfl ⟨rfl, ?_⟩
    repeat (first | with_reducible exact bel_refl _ | (with_reducible refine Below.setCell ?_ ?_ _; rotate_left; · simp) | with_reducible apply bel_alloc)
  · have t2 : decide (x.exp ≤ now) = false := by simp; omega
    have HE := Lib.hid he
    clear he
    by_cases h0 : x.exp = 0
    · have t1 : (x.exp != 0) = false := by simp [h0]
      clear h0
      go_enter Tryd.func24, Tryd.ntmps24
      go_wp2_with fail
      refine bodyPost_ret (v := .tuple #[.agg #[.string x.key, .string x.val, .int .u32 x.flags, .int .i64 x.exp, .int .u64 x.ver], .bool true]) (by simp [results, Tryd.results24, go_sem]) rfl ⟨rfl, ?_⟩
      repeat (first | with_reducible exact bel_refl _ | (with_reducible refine Below.setCell ?_ ?_ _; rotate_left; · simp) | with_reducible apply bel_alloc)
    · have t1 : (x.exp != 0) = true := by simp [h0]
      clear h0
      go_enter Tryd.func24, Tryd.ntmps24
      go_wp2_with fail
      refine bodyPost_ret (v := .tuple #[.agg #[.string x.key, .string x.val, .int .u32 x.flags, .int .i64 x.exp, .int .u64 x.ver], .bool true]) (by simp [results, Tryd.results24, go_sem]) rfl ⟨rfl, ?_⟩
      repeat (first | with_reducible exact bel_refl _ | (with_reducible refine Below.setCell ?_ ?_ _; rotate_left; · simp) | with_reducible apply bel_alloc)

set_option maxHeartbeats 1000000 in
theorem mget_none (mb g : Nat) (l : M.Mp) (k : ByteArray) (now : Int) (w : World) (h : MapSt w mb g l) (hx : M.mget l k now = none) :
    Calls Tryd.prog 24 #[.pointer (some ⟨mb, 0, none⟩), .string k, .int .i64 now] w fun e w' => e = .returned (.tuple #[.agg #[.string ⟨#[]⟩, .string ⟨#[]⟩, .int .u32 0, .int .i64 0, .int .u64 0], .bool false]) ∧ Below w.heap.size w w' := by
  have hc := h.cell
  have hmb := h.lt
  have hl : M.look l k = none ∨ ∃ x, M.look l k = some x ∧ x.exp ≠ 0 ∧ x.exp ≤ now := by
    unfold M.mget at hx
    cases hk : M.look l k with
    | none => exact .inl rfl
    | some y =>
      rw [hk] at hx
      simp only at hx
      split at hx
      · rename_i hh; exact .inr ⟨y, rfl, hh⟩
      · cases hx
  rcases hl with hl | ⟨x, hl, h1, h2⟩
  · have hrun : ∀ o, (Instr.lookup 91 (.map (some g)) (.string k) true).run Tryd.prog (w.alloc o) = .ok (.tuple #[.agg #[.string ⟨#[]⟩, .string ⟨#[]⟩, .int .u32 0, .int .i64 0, .int .u64 0], .bool false]) (w.alloc o) := fun o => run_look_none _ g l k (h.at_.alloc o) hl
    clear h hx hl
    go_enter Tryd.func24, Tryd.ntmps24
    go_wp2_with fail
    refine bodyPost_ret (v := .tuple #[.agg #[.string ⟨#[]⟩, .string ⟨#[]⟩, .int .u32 0, .int .i64 0, .int .u64 0], .bool false]) (by simp [results, Tryd.results24, go_sem]) rfl ⟨rfl, ?_⟩
    repeat (first | with_reducible exact bel_refl _ | (with_reducible refine Below.setCell ?_ ?_ _; rotate_left; · simp) | with_reducible apply bel_alloc)
  · have hrun : ∀ o, (Instr.lookup 91 (.map (some g)) (.string k) true).run Tryd.prog (w.alloc o) = .ok (.tuple #[.agg #[.string x.key, .string x.val, .int .u32 x.flags, .int .i64 x.exp, .int .u64 x.ver], .bool true]) (w.alloc o) := fun o => run_look_some _ g l k x (h.at_.alloc o) hl
    have t1 : (x.exp != 0) = true := by simp [h1]
    have t2 : decide (x.exp ≤ now) = true := by simp [h2]
    clear h hx hl h1 h2
    go_enter Tryd.func24, Tryd.ntmps24
    go_wp2_with fail
    refine bodyPost_ret (v := .tuple #[.agg #[.string ⟨#[]⟩, .string ⟨#[]⟩, .int .u32 0, .int .i64 0, .int .u64 0], .bool false]) (by simp [results, Tryd.results24, go_sem]) rfl ⟨rfl, ?_⟩
    repeat (first | with_reducible exact bel_refl _ | (with_reducible refine Below.setCell ?_ ?_ _; rotate_left; · simp) | with_reducible apply bel_alloc)

set_option maxHeartbeats 1000000 in
theorem mlose_any (mb g : Nat) (l : M.Mp) (k : ByteArray) (w : World) (h : MapSt w mb g l) :
    Calls Tryd.prog 25 #[.pointer (some ⟨mb, 0, none⟩), .string k] w fun e w' => e = .returned (.tuple #[]) ∧ MapSt w' mb g (M.mdel l k) ∧ w.grownBy w' (some g) := by
  have hc := h.cell
  have hmb := h.lt
  obtain ⟨w1, hrun, ha, hg⟩ := run_mdel w g l k h.at_
  have H := Lib.hid h
  have HA := Lib.hid ha
  clear h ha
  go_enter Tryd.func25, Tryd.ntmps25
  go_wp2_with fail
  go_end0
  exact ⟨rfl, H.out.grown hg HA.out, hg⟩

set_option maxHeartbeats 2000000 in
theorem mset_any (mb g : Nat) (l : M.Mp) (x : M.Item) (ver : Int) (t : ByteArray) (w : World) (h : MapSt w mb g l) :
    Calls Tryd.prog 45 #[.pointer (some ⟨mb, 0, none⟩), .agg #[.string x.key, .string x.val, .int .u32 x.flags, .int .i64 x.exp, .int .u64 x.ver], .int .u64 ver, .string t] w
      fun e w' => ∃ v, e = .returned v ∧ Row1 w w' v 1 46 #[.bool false, .string ⟨#[]⟩, .string ⟨#[]⟩, .string t, .int .u32 0, .int .u64 0, .bool false] ∧ MapSt w' mb g (M.mset l x.key { x with ver := ver }) ∧ w.grownBy w' (some g) := by
  have hc := h.cell
  have hmb := h.lt
  obtain ⟨w1, hrun, ha, hg⟩ := run_mset (w.alloc (.cells #[.string x.key, .string x.val, .int .u32 x.flags, .int .i64 x.exp, .int .u64 ver] 65)).drew g l x.key { x with ver := ver } ((h.at_.alloc _).same rfl)
  simp only [itemV] at hrun
  have hgw : w.grownBy w1 (some g) := gr_bel (bel_drew (bel_alloc (bel_refl w) _)) hg
  have hmg : mb ≠ g := h.ne
  have hgl := h.at_.lt
  have hm1 : w1.cell? ⟨mb, 0, none⟩ = some (.map (some g)) := (World.cell?_of_block (hg.block mb (by show mb < (w.alloc _).heap.size; simp; omega) (fun e => hmg (by injection e)))).trans ((World.cell?_alloc_lt w _ ⟨mb, 0, none⟩ hmb).trans hc)
  have hq : ∀ o, w1.cell? ⟨w.heap.size, o, none⟩ = #[.string x.key, .string x.val, .int .u32 x.flags, .int .i64 x.exp, .int .u64 ver][o]? := fun o => (World.cell?_of_block (hg.block w.heap.size (by show _ < (w.alloc _).heap.size; simp) (fun e => by injection e with e; omega))).trans (World.cell?_alloc_new w _ 65 o)
  have H := Lib.hid (h.grown hgw ha)
  have HG := Lib.hid hgw
  clear h ha hg hgw hmg
  go_enter Tryd.func45, Tryd.ntmps45
  go_wp2_with fail
  go_region_held3 (fun w' => w'.cell? ⟨mb, 0, none⟩ = some (.map (some g)) ∧ w'.cell? ⟨w.heap.size, 0, none⟩ = some (.string x.key) ∧ w'.cell? ⟨w.heap.size, 1, none⟩ = some (.string x.val) ∧ w'.cell? ⟨w.heap.size, 2, none⟩ = some (.int .u32 x.flags) ∧ w'.cell? ⟨w.heap.size, 3, none⟩ = some (.int .i64 x.exp) ∧ w'.cell? ⟨w.heap.size, 4, none⟩ = some (.int .u64 ver)) (first | (go_keep; done) | (simp [go_sem]; done) | (simp [*, go_sem]; done)) (fail)
  go_wp2_with (go_at_call 40; refine (mline_any _ _).mono ?_; rintro e w2 ⟨v, rfl, hrow, hb⟩; have HR := Lib.hid hrow; clear hrow)
  go_ret
  obtain ⟨g2, hv, r1, r2, r3⟩ := HR.out
  exact ⟨v, rfl, ⟨g2, hv, Nat.le_trans HG.out.size r1, r2, r3⟩, H.out.below hb, gr_after HG.out hb⟩
end Go.Proofs.YtbhnmaghnnpboaaDoor
/- model.Map: one, Key. -/
namespace Go.Proofs.YtbhnmaghnnpboaaDoor
open Go.RowKit
attribute [local go_sem ↓] Go.wp_at_zero Go.wp_at_succ

/-- What a Get of one key answers of an item. -/
def oneAns (key : ByteArray) (cas : Bool) (x : M.Item) : M.Ans := ⟨true, key, x.val, ⟨#[]⟩, x.flags, if cas then x.ver else 0, cas⟩
def I64 (n : Int) : Prop := -9223372036854775808 ≤ n ∧ n ≤ 9223372036854775807

theorem heap_alloc_at (w : World) (o : Obj) (g : Nat) (hg : g = w.heap.size) : (w.alloc o).heap[g]? = some o := by subst hg; exact heap_alloc_new w o
theorem size_of {w w1 : World} {o : Obj} (hb : Below (w.alloc o).heap.size (w.alloc o) w1) : w.heap.size < w1.heap.size := by have := hb.size; simp at this; omega

set_option maxHeartbeats 1000000 in
theorem one_none (mb g : Nat) (l : M.Mp) (K : Value) (cas touch : Bool) (exp : Int) (key : ByteArray) (now ver : Int) (w : World) (h : MapSt w mb g l) (hx : M.mget l key now = none) :
    Calls Tryd.prog 39 #[.pointer (some ⟨mb, 0, none⟩), .agg #[K, .bool cas, .bool touch, .int .i64 exp], .string key, .int .i64 now, .int .u64 ver] w
      fun e w' => e = .returned (.slice none 0 0) ∧ Below w.heap.size w w' := by
  have HC := Lib.hid (mget_none mb g l key now _ (h.below (bel_alloc (bel_refl w) (.cells #[K, .bool cas, .bool touch, .int .i64 exp] 98))) hx)
  clear h hx
  go_enter Tryd.func39, Tryd.ntmps39
  go_wp2_with (go_at_call 24; refine HC.out.mono ?_; rintro e w1 ⟨rfl, hb1⟩)
  go_ret
  exact ⟨rfl, bel_alloc (bel_of hb1) _⟩

set_option maxHeartbeats 1000000 in
theorem one_plain_false (mb g : Nat) (l : M.Mp) (A : Option Addr) (n c : Nat) (exp : Int) (key : ByteArray) (now ver : Int) (x : M.Item) (w : World) (h : MapSt w mb g l) (hx : M.mget l key now = some x) :
    Calls Tryd.prog 39 #[.pointer (some ⟨mb, 0, none⟩), .agg #[.slice A n c, .bool false, .bool false, .int .i64 exp], .string key, .int .i64 now, .int .u64 ver] w
      fun e w' => ∃ v, e = .returned v ∧ Row1 w w' v 1 46 #[.bool true, .string key, .string x.val, .string ⟨#[]⟩, .int .u32 x.flags, .int .u64 0, .bool false] ∧ Below w.heap.size w w' := by
  have HC := Lib.hid (mget_some mb g l key now x _ (h.below (bel_alloc (bel_refl w) (.cells #[.slice A n c, .bool false, .bool false, .int .i64 exp] 98))) hx)
  clear h hx
  go_enter Tryd.func39, Tryd.ntmps39
  go_wp2_with (go_at_call 24; refine HC.out.mono ?_; rintro e w1 ⟨rfl, hb1⟩; have hq := own_cell hb1; have hs1 := size_of hb1)
  go_ret
  exact ⟨_, rfl, ⟨_, rfl, by (try simp); omega, by simp, heap_alloc_at _ _ _ (by simp)⟩, bel_alloc (bel_alloc (bel_alloc (bel_of hb1) _) _) _⟩

set_option maxHeartbeats 2000000 in
theorem one_touch_false (mb g : Nat) (l : M.Mp) (A : Option Addr) (n c : Nat) (exp : Int) (key : ByteArray) (now ver : Int) (x : M.Item) (w : World) (h : MapSt w mb g l) (hx : M.mget l key now = some x) (he : I64 exp) (hn : I64 now) :
    Calls Tryd.prog 39 #[.pointer (some ⟨mb, 0, none⟩), .agg #[.slice A n c, .bool false, .bool true, .int .i64 exp], .string key, .int .i64 now, .int .u64 ver] w
      fun e w' => ∃ v, e = .returned v ∧ Row1 w w' v 1 46 #[.bool true, .string key, .string x.val, .string ⟨#[]⟩, .int .u32 x.flags, .int .u64 0, .bool false] ∧ MapSt w' mb g (M.mset l key { x with exp := M.time exp now, ver := ver }) ∧ w.grownBy w' (some g) := by
  have HC := Lib.hid (mget_some mb g l key now x _ (h.below (bel_alloc (bel_refl w) (.cells #[.slice A n c, .bool false, .bool true, .int .i64 exp] 98))) hx)
  have H := Lib.hid h
  have HE := Lib.hid he
  have HN := Lib.hid hn
  clear h hx he hn
  go_enter Tryd.func39, Tryd.ntmps39
  go_wp2_with fail
  refine HC.out.mono ?_
  rintro e w1 ⟨rfl, hb1⟩
  have hq := own_cell hb1
  have hs1 := size_of hb1
  have h1 : MapSt w1 mb g l := H.out.below (bel_of hb1)
  have hc := h1.cell
  have hmb := h1.lt
  have hmg := h1.ne
  have hgl := h1.at_.lt
  have hgw := H.out.at_.lt
  obtain ⟨w3, hrun, ha, hg⟩ := run_mset (w1.alloc (.cells #[.string x.key, .string x.val, .int .u32 x.flags, .int .i64 (M.time exp now), .int .u64 ver] 65)).drew g l key { x with exp := M.time exp now, ver := ver } ((h1.at_.alloc _).same rfl)
  simp only [itemV] at hrun
  have hm3 : w3.cell? ⟨mb, 0, none⟩ = some (.map (some g)) := (World.cell?_of_block (hg.block mb (by show mb < (w1.alloc _).heap.size; simp; omega) (fun e => hmg (by injection e)))).trans ((World.cell?_alloc_lt w1 _ ⟨mb, 0, none⟩ hmb).trans hc)
  have hq3 : ∀ o, w3.cell? ⟨w1.heap.size, o, none⟩ = #[.string x.key, .string x.val, .int .u32 x.flags, .int .i64 (M.time exp now), .int .u64 ver][o]? := fun o => (World.cell?_of_block (hg.block w1.heap.size (by show _ < (w1.alloc _).heap.size; simp) (fun e => by injection e with e; omega))).trans (World.cell?_alloc_new w1 _ 65 o)
  have hq4 : ∀ o, w3.cell? ⟨w.heap.size, o, none⟩ = #[.slice A n c, .bool false, .bool true, .int .i64 exp][o]? := fun o => ((World.cell?_of_block (hg.block w.heap.size (by show _ < (w1.alloc _).heap.size; simp; omega) (fun e => by injection e with e; omega))).trans (World.cell?_alloc_lt w1 _ ⟨w.heap.size, o, none⟩ hs1)).trans (hq o)
  have h5 : (w1.alloc (.cells #[.string x.key, .string x.val, .int .u32 x.flags, .int .i64 (M.time exp now), .int .u64 ver] 65)).drew.heap.size = w1.heap.size + 1 := by
    show (w1.alloc _).heap.size = _
    simp
  have h6 := hg.size
  rw [h5] at h6
  have hs3 : w1.heap.size < w3.heap.size := by omega
  clear h5 h6
  have hs4 : w.heap.size < w3.heap.size := by omega
  have hgg : w.grownBy w3 (some g) := gr_bel (bel_drew (bel_alloc (bel_of hb1) _)) hg
  have HM := Lib.hid (H.out.grown hgg ha)
  have HG := Lib.hid hgg
  clear ha hg h1 hmg hgg hb1
  go_wp2_with (go_at_call 44; refine (time_any exp now HE.out.1 HE.out.2 HN.out.1 HN.out.2 _).mono ?_; rintro e w2 ⟨rfl, rfl⟩)
  go_region_held3 (fun w' => w'.cell? ⟨mb, 0, none⟩ = some (.map (some g)) ∧ w'.cell? ⟨w1.heap.size, 0, none⟩ = some (.string x.key) ∧ w'.cell? ⟨w1.heap.size, 1, none⟩ = some (.string x.val) ∧ w'.cell? ⟨w1.heap.size, 2, none⟩ = some (.int .u32 x.flags) ∧ w'.cell? ⟨w1.heap.size, 3, none⟩ = some (.int .i64 (M.time exp now)) ∧ w'.cell? ⟨w1.heap.size, 4, none⟩ = some (.int .u64 ver)) (first | (go_keep; done) | (simp [go_sem]; done) | (simp [*, go_sem]; done)) (fail)
  go_wp2_with fail
  go_ret
  exact ⟨_, rfl, ⟨_, rfl, by (try simp); omega, by simp, heap_alloc_at _ _ _ (by simp)⟩, HM.out.below (bel_alloc (bel_alloc (bel_refl _) _) _), gr_after HG.out (bel_alloc (bel_alloc (bel_refl _) _) _)⟩

set_option maxHeartbeats 1000000 in
theorem one_plain_true (mb g : Nat) (l : M.Mp) (A : Option Addr) (n c : Nat) (exp : Int) (key : ByteArray) (now ver : Int) (x : M.Item) (w : World) (h : MapSt w mb g l) (hx : M.mget l key now = some x) :
    Calls Tryd.prog 39 #[.pointer (some ⟨mb, 0, none⟩), .agg #[.slice A n c, .bool true, .bool false, .int .i64 exp], .string key, .int .i64 now, .int .u64 ver] w
      fun e w' => ∃ v, e = .returned v ∧ Row1 w w' v 1 46 #[.bool true, .string key, .string x.val, .string ⟨#[]⟩, .int .u32 x.flags, .int .u64 x.ver, .bool true] ∧ Below w.heap.size w w' := by
  have HC := Lib.hid (mget_some mb g l key now x _ (h.below (bel_alloc (bel_refl w) (.cells #[.slice A n c, .bool true, .bool false, .int .i64 exp] 98))) hx)
  clear h hx
  go_enter Tryd.func39, Tryd.ntmps39
  go_wp2_with (go_at_call 24; refine HC.out.mono ?_; rintro e w1 ⟨rfl, hb1⟩; have hq := own_cell hb1; have hs1 := size_of hb1)
  go_ret
  exact ⟨_, rfl, ⟨_, rfl, by (try simp); omega, by simp, heap_alloc_at _ _ _ (by simp)⟩, bel_alloc (bel_alloc (bel_alloc (bel_of hb1) _) _) _⟩

set_option maxHeartbeats 2000000 in
theorem one_touch_true (mb g : Nat) (l : M.Mp) (A : Option Addr) (n c : Nat) (exp : Int) (key : ByteArray) (now ver : Int) (x : M.Item) (w : World) (h : MapSt w mb g l) (hx : M.mget l key now = some x) (he : I64 exp) (hn : I64 now) :
    Calls Tryd.prog 39 #[.pointer (some ⟨mb, 0, none⟩), .agg #[.slice A n c, .bool true, .bool true, .int .i64 exp], .string key, .int .i64 now, .int .u64 ver] w
      fun e w' => ∃ v, e = .returned v ∧ Row1 w w' v 1 46 #[.bool true, .string key, .string x.val, .string ⟨#[]⟩, .int .u32 x.flags, .int .u64 ver, .bool true] ∧ MapSt w' mb g (M.mset l key { x with exp := M.time exp now, ver := ver }) ∧ w.grownBy w' (some g) := by
  have HC := Lib.hid (mget_some mb g l key now x _ (h.below (bel_alloc (bel_refl w) (.cells #[.slice A n c, .bool true, .bool true, .int .i64 exp] 98))) hx)
  have H := Lib.hid h
  have HE := Lib.hid he
  have HN := Lib.hid hn
  clear h hx he hn
  go_enter Tryd.func39, Tryd.ntmps39
  go_wp2_with fail
  refine HC.out.mono ?_
  rintro e w1 ⟨rfl, hb1⟩
  have hq := own_cell hb1
  have hs1 := size_of hb1
  have h1 : MapSt w1 mb g l := H.out.below (bel_of hb1)
  have hc := h1.cell
  have hmb := h1.lt
  have hmg := h1.ne
  have hgl := h1.at_.lt
  have hgw := H.out.at_.lt
  obtain ⟨w3, hrun, ha, hg⟩ := run_mset (w1.alloc (.cells #[.string x.key, .string x.val, .int .u32 x.flags, .int .i64 (M.time exp now), .int .u64 ver] 65)).drew g l key { x with exp := M.time exp now, ver := ver } ((h1.at_.alloc _).same rfl)
  simp only [itemV] at hrun
  have hm3 : w3.cell? ⟨mb, 0, none⟩ = some (.map (some g)) := (World.cell?_of_block (hg.block mb (by show mb < (w1.alloc _).heap.size; simp; omega) (fun e => hmg (by injection e)))).trans ((World.cell?_alloc_lt w1 _ ⟨mb, 0, none⟩ hmb).trans hc)
  have hq3 : ∀ o, w3.cell? ⟨w1.heap.size, o, none⟩ = #[.string x.key, .string x.val, .int .u32 x.flags, .int .i64 (M.time exp now), .int .u64 ver][o]? := fun o => (World.cell?_of_block (hg.block w1.heap.size (by show _ < (w1.alloc _).heap.size; simp) (fun e => by injection e with e; omega))).trans (World.cell?_alloc_new w1 _ 65 o)
  have hq4 : ∀ o, w3.cell? ⟨w.heap.size, o, none⟩ = #[.slice A n c, .bool true, .bool true, .int .i64 exp][o]? := fun o => ((World.cell?_of_block (hg.block w.heap.size (by show _ < (w1.alloc _).heap.size; simp; omega) (fun e => by injection e with e; omega))).trans (World.cell?_alloc_lt w1 _ ⟨w.heap.size, o, none⟩ hs1)).trans (hq o)
  have h5 : (w1.alloc (.cells #[.string x.key, .string x.val, .int .u32 x.flags, .int .i64 (M.time exp now), .int .u64 ver] 65)).drew.heap.size = w1.heap.size + 1 := by
    show (w1.alloc _).heap.size = _
    simp
  have h6 := hg.size
  rw [h5] at h6
  have hs3 : w1.heap.size < w3.heap.size := by omega
  clear h5 h6
  have hs4 : w.heap.size < w3.heap.size := by omega
  have hgg : w.grownBy w3 (some g) := gr_bel (bel_drew (bel_alloc (bel_of hb1) _)) hg
  have HM := Lib.hid (H.out.grown hgg ha)
  have HG := Lib.hid hgg
  clear ha hg h1 hmg hgg hb1
  go_wp2_with (go_at_call 44; refine (time_any exp now HE.out.1 HE.out.2 HN.out.1 HN.out.2 _).mono ?_; rintro e w2 ⟨rfl, rfl⟩)
  go_region_held3 (fun w' => w'.cell? ⟨mb, 0, none⟩ = some (.map (some g)) ∧ w'.cell? ⟨w1.heap.size, 0, none⟩ = some (.string x.key) ∧ w'.cell? ⟨w1.heap.size, 1, none⟩ = some (.string x.val) ∧ w'.cell? ⟨w1.heap.size, 2, none⟩ = some (.int .u32 x.flags) ∧ w'.cell? ⟨w1.heap.size, 3, none⟩ = some (.int .i64 (M.time exp now)) ∧ w'.cell? ⟨w1.heap.size, 4, none⟩ = some (.int .u64 ver)) (first | (go_keep; done) | (simp [go_sem]; done) | (simp [*, go_sem]; done)) (fail)
  go_wp2_with fail
  go_ret
  exact ⟨_, rfl, ⟨_, rfl, by (try simp); omega, by simp, heap_alloc_at _ _ _ (by simp)⟩, HM.out.below (bel_alloc (bel_alloc (bel_refl _) _) _), gr_after HG.out (bel_alloc (bel_alloc (bel_refl _) _) _)⟩
end Go.Proofs.YtbhnmaghnnpboaaDoor
/- model.Map: Key. -/
namespace Go.Proofs.YtbhnmaghnnpboaaDoor
open Go.RowKit

/-- An item that is touched, or not. -/
def touchF (t : Bool) (exp now ver : Int) (x : M.Item) : M.Item := if t then { x with exp := M.time exp now, ver := ver } else x
theorem Row1.mono {w0 w1 w : World} {v : Value} {n : Nat} {e : TypeId} {cs : Array Value} (h : Row1 w1 w v n e cs) (hs : w0.heap.size ≤ w1.heap.size) : Row1 w0 w v n e cs := by
  obtain ⟨g, hv, h1, h2, h3⟩ := h
  exact ⟨g, hv, Nat.le_trans hs h1, h2, h3⟩

theorem one_some (mb g : Nat) (l : M.Mp) (A : Option Addr) (n c : Nat) (cas touch : Bool) (exp : Int) (key : ByteArray) (now ver : Int) (x : M.Item) (w : World) (h : MapSt w mb g l) (hx : M.mget l key now = some x) (he : I64 exp) (hn : I64 now) :
    Calls Tryd.prog 39 #[.pointer (some ⟨mb, 0, none⟩), .agg #[.slice A n c, .bool cas, .bool touch, .int .i64 exp], .string key, .int .i64 now, .int .u64 ver] w
      fun e w' => ∃ v, e = .returned v ∧ Row1 w w' v 1 46 (ansCells (oneAns key cas (touchF touch exp now ver x))).toArray ∧ MapSt w' mb g (if touch then M.mset l key (touchF touch exp now ver x) else l) ∧ w.grownBy w' (some g) := by
  cases touch <;> cases cas
  · exact (one_plain_false mb g l A n c exp key now ver x w h hx).mono fun e w' ⟨v, he, hr, hb⟩ => ⟨v, he, hr, h.below hb, gr_of hb⟩
  · exact (one_plain_true mb g l A n c exp key now ver x w h hx).mono fun e w' ⟨v, he, hr, hb⟩ => ⟨v, he, hr, h.below hb, gr_of hb⟩
  · exact (one_touch_false mb g l A n c exp key now ver x w h hx he hn).mono fun e w' ⟨v, he, hr, hm, hg⟩ => ⟨v, he, hr, hm, hg⟩
  · exact (one_touch_true mb g l A n c exp key now ver x w h hx he hn).mono fun e w' ⟨v, he, hr, hm, hg⟩ => ⟨v, he, hr, hm, hg⟩

set_option maxHeartbeats 1000000 in
theorem mkey_none (mb g : Nat) (l : M.Mp) (x : M.Cmd) (A : Option Addr) (n c : Nat) (key : ByteArray) (now ver : Int) (w : World) (h : MapSt w mb g l) (hr : RdS w w.heap.size A n x.keys) (h1 : x.of = .get x.keys x.withCas x.withTouch x.exp) (hx : M.mget l key now = none) :
    Calls Tryd.prog 26 #[.pointer (some ⟨mb, 0, none⟩), .agg #[.string x.what, .string x.verb, .slice A n c, .string x.data, .int .u32 x.flags, .int .i64 x.exp, .int .u64 x.cas, .int .u64 x.by_, .bool x.withCas, .bool x.withTouch, .bool x.down, .bool x.quiet], .string key, .int .i64 now, .int .u64 ver] w
      fun e w' => e = .returned (.slice none 0 0) ∧ Below w.heap.size w w' := by
  have hv := of_any x A n c _ ((hr.below (bel_alloc (bel_refl w) (.cells #[.string x.what, .string x.verb, .slice A n c, .string x.data, .int .u32 x.flags, .int .i64 x.exp, .int .u64 x.cas, .int .u64 x.by_, .bool x.withCas, .bool x.withTouch, .bool x.down, .bool x.quiet] 29)) (Nat.le_refl _)).more (by simp))
  rw [h1] at hv
  simp only [cV] at hv
  have HV := Lib.hid hv
  have H := Lib.hid h
  have HX := Lib.hid hx
  clear hv hr h hx
  go_enter Tryd.func26, Tryd.ntmps26
  go_wp2_with fail
  refine HV.out.mono ?_
  rintro e w1 ⟨A1, c1, rfl, hr1, hb1⟩
  have h1' : MapSt w1 mb g l := H.out.below (bel_of hb1)
  have hw := bel_of hb1
  clear hr1 hb1
  have h2 := h1'.below (bel_alloc (bel_refl w1) (.cells #[.slice A1 n c1, .bool x.withCas, .bool x.withTouch, .int .i64 x.exp] 98))
  have HC := Lib.hid (one_none mb g l (.slice A1 n c1) x.withCas x.withTouch x.exp key now ver _ h2 HX.out)
  clear h1 h1' h2
  go_wp2_with (go_at_call 39; refine HC.out.mono ?_; rintro e w2 ⟨rfl, hb2⟩)
  go_ret
  exact ⟨rfl, bel_trans (bel_alloc hw _) hb2⟩

/-- What a Get's key that is there leaves. -/
def Keyed (mb g : Nat) (l : M.Mp) (x : M.Cmd) (key : ByteArray) (now ver : Int) (y : M.Item) (w : World) (e : Ending) (w' : World) : Prop :=
  ∃ v, e = .returned v ∧ Row1 w w' v 1 46 (ansCells (oneAns key x.withCas (touchF x.withTouch x.exp now ver y))).toArray ∧ MapSt w' mb g (if x.withTouch then M.mset l key (touchF x.withTouch x.exp now ver y) else l) ∧ w.grownBy w' (some g)

set_option maxHeartbeats 1000000 in
theorem mkey_some (mb g : Nat) (l : M.Mp) (x : M.Cmd) (A : Option Addr) (n c : Nat) (key : ByteArray) (now ver : Int) (y : M.Item) (w : World) (h : MapSt w mb g l) (hr : RdS w w.heap.size A n x.keys) (h1 : x.of = .get x.keys x.withCas x.withTouch x.exp) (hx : M.mget l key now = some y) (he : I64 x.exp) (hn : I64 now) :
    Calls Tryd.prog 26 #[.pointer (some ⟨mb, 0, none⟩), .agg #[.string x.what, .string x.verb, .slice A n c, .string x.data, .int .u32 x.flags, .int .i64 x.exp, .int .u64 x.cas, .int .u64 x.by_, .bool x.withCas, .bool x.withTouch, .bool x.down, .bool x.quiet], .string key, .int .i64 now, .int .u64 ver] w
      (Keyed mb g l x key now ver y w) := by
  have HE := Lib.hid he
  have HN := Lib.hid hn
  clear he hn
  have hv := of_any x A n c _ ((hr.below (bel_alloc (bel_refl w) (.cells #[.string x.what, .string x.verb, .slice A n c, .string x.data, .int .u32 x.flags, .int .i64 x.exp, .int .u64 x.cas, .int .u64 x.by_, .bool x.withCas, .bool x.withTouch, .bool x.down, .bool x.quiet] 29)) (Nat.le_refl _)).more (by simp))
  rw [h1] at hv
  simp only [cV] at hv
  have HV := Lib.hid hv
  have H := Lib.hid h
  have HX := Lib.hid hx
  clear hv hr h hx
  go_enter Tryd.func26, Tryd.ntmps26
  go_wp2_with fail
  refine HV.out.mono ?_
  rintro e w1 ⟨A1, c1, rfl, hr1, hb1⟩
  have h1' : MapSt w1 mb g l := H.out.below (bel_of hb1)
  have hw := bel_of hb1
  clear hr1 hb1
  have h2 := h1'.below (bel_alloc (bel_refl w1) (.cells #[.slice A1 n c1, .bool x.withCas, .bool x.withTouch, .int .i64 x.exp] 98))
  have HC := Lib.hid (one_some mb g l A1 n c1 x.withCas x.withTouch x.exp key now ver y _ h2 HX.out HE.out HN.out)
  clear h1 h1' h2
  go_wp2_with (go_at_call 39; refine HC.out.mono ?_; rintro e w2 ⟨v, rfl, hrow, hm, hg⟩; have HR := Lib.hid hrow; have HM := Lib.hid hm; clear hrow hm)
  go_ret
  exact ⟨v, rfl, HR.out.mono (bel_alloc hw _).size, HM.out, gr_bel (bel_alloc hw _) hg⟩
end Go.Proofs.YtbhnmaghnnpboaaDoor

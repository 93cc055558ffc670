/- lossy: the laws' own steps, in memory; a slice of steps that was just made. -/
import Derived.Test.YtbhnmaghnnpboaaDoorZm
namespace Go.Proofs.YtbhnmaghnnpboaaDoor
open Go.RowKit
attribute [local go_sem ↓] Go.wp_at_zero Go.wp_at_succ

/-- A step and where its slices lie. -/
structure Sp where
  x : M.Stp
  A : Option Addr
  n : Nat
  c : Nat
  SA : Option Addr
  m : Nat
  sc : Nat
def Sp.cells (p : Sp) : List Value := (stpCells p.x p.A p.n p.c p.SA p.m p.sc).toList
theorem Sp.len (p : Sp) : p.cells.length = 15 := rfl
theorem sp_at : ∀ (l : List Sp) (j k : Nat) (hj : j < l.length) (_ : k < 15), (l.flatMap Sp.cells)[j * 15 + k]? = l[j].cells[k]?
  | p :: l, 0, k, _, hk => by
    rw [List.flatMap_cons, List.getElem?_append_left (by rw [p.len]; omega)]
    simp
  | p :: l, j + 1, k, hj, hk => by
    rw [List.flatMap_cons, List.getElem?_append_right (by rw [p.len]; omega), p.len, show (j + 1) * 15 + k - 15 = j * 15 + k by omega]
    exact sp_at l j k (by simpa using hj) hk
theorem rdst_of {w : World} {b : Nat} (l : List Sp) (h : w.heap[b]? = some (.cells (l.flatMap Sp.cells).toArray 32)) (hs : ∀ p ∈ l, StpAt w w.heap.size p.x p.A p.n p.SA p.m p.sc) : RdSt w w.heap.size (some ⟨b, 0, none⟩) l.length (l.map Sp.x) := by
  refine ⟨List.length_map _, fun _ => ⟨b, 0, rfl, (Array.getElem?_eq_some_iff.1 h).1, fun j hj => ?_⟩⟩
  have hg : (l.map Sp.x).getD j default = l[j].x := by simp [List.getD, hj]
  rw [hg]
  refine ⟨l[j].A, l[j].n, l[j].c, l[j].SA, l[j].m, l[j].sc, fun k hk => ?_, hs _ (List.getElem_mem hj)⟩
  rw [cell_of_row w b _ _ 32 (0, 0) h, Nat.zero_add]
  have := sp_at l j k hj hk
  simp only [List.getElem?_toArray] at this ⊢
  rw [this]
  simp [Sp.cells]
theorem StpAt.bel {w w' : World} {x : M.Stp} {A : Option Addr} {n : Nat} {SA : Option Addr} {m sc : Nat} (h : StpAt w w.heap.size x A n SA m sc) (hb : Below w.heap.size w w') : StpAt w' w'.heap.size x A n SA m sc :=
  ⟨(h.keys.below hb (Nat.le_refl _)).more hb.size, (h.ans.below hb (Nat.le_refl _)).more hb.size, h.cap⟩

def ka : ByteArray := ⟨#[97]⟩
def k1 : ByteArray := ⟨#[49]⟩
def k9 : ByteArray := ⟨#[57]⟩
def xSet : M.Stp := ⟨⟨M.sStore, M.vset, [ka], k1, 0, 0, 0, 0, false, false, false, false⟩, ⟨#[]⟩, [M.line M.tSTORED], 0⟩
def xNone : M.Stp := ⟨⟨M.sGet, ⟨#[]⟩, [ka], ⟨#[]⟩, 0, 0, 0, 0, false, false, false, false⟩, ka, [M.line M.tEND], 0⟩
def xTold (cas : Int) : M.Stp := ⟨⟨M.sGet, ⟨#[]⟩, [ka], ⟨#[]⟩, 0, 0, 0, 0, decide (0 < cas), false, false, false⟩, ka, [⟨true, ka, k1, ⟨#[]⟩, 0, cas, decide (0 < cas)⟩, M.line M.tEND], 0⟩
def xEx (v : Int) : M.Stp := ⟨⟨M.sStore, M.vcas, [ka], k9, 0, 0, v, 0, false, false, false, false⟩, ⟨#[]⟩, [M.line M.tEX], 0⟩

theorem keys1 {w : World} {g : Nat} {k : ByteArray} (h : w.heap[g]? = some (.cells #[.string k] 9)) : RdS w w.heap.size (some ⟨g, 0, none⟩) 1 [k] := by
  refine ⟨rfl, by decide, fun _ => ⟨g, 0, rfl, (Array.getElem?_eq_some_iff.1 h).1, fun j hj => ?_⟩⟩
  obtain rfl : j = 0 := by omega
  exact cells_at (j := 0) h rfl
theorem ans1 {w : World} {g : Nat} {a : M.Ans} (h : w.heap[g]? = some (.cells (ansCells a).toArray 46)) : RdA w w.heap.size (some ⟨g, 0, none⟩) 1 [a] := by
  refine ⟨rfl, fun _ => ⟨g, 0, rfl, (Array.getElem?_eq_some_iff.1 h).1, fun j hj k hk => ?_⟩⟩
  obtain rfl : j = 0 := by omega
  rw [cell_of_row w g _ _ 46 (0, 0) h]
  simp
theorem ans2 {w : World} {g : Nat} {a b : M.Ans} (h : w.heap[g]? = some (.cells (ansCells a ++ ansCells b).toArray 46)) : RdA w w.heap.size (some ⟨g, 0, none⟩) 2 [a, b] := by
  refine ⟨rfl, fun _ => ⟨g, 0, rfl, (Array.getElem?_eq_some_iff.1 h).1, fun j hj k hk => ?_⟩⟩
  rw [cell_of_row w g _ _ 46 (0, 0) h]
  rcases (show j = 0 ∨ j = 1 by omega) with rfl | rfl
  · simp only [List.getElem?_toArray, Nat.zero_add, Nat.zero_mul]
    rw [List.getElem?_append_left (by show k < 7; exact hk)]
    rfl
  · simp only [List.getElem?_toArray, Nat.zero_add, Nat.one_mul]
    rw [List.getElem?_append_right (by show 7 ≤ 7 + k; omega), show 7 + k - (ansCells a).length = k by show 7 + k - 7 = k; omega]
    rfl

/-- What a maker of a step hands out. -/
def MadeSet (w : World) (e : Ending) (w' : World) : Prop := ∃ KA SA, e = .returned (.agg #[.string ⟨#[115, 116, 111, 114, 101]⟩, .string ⟨#[115, 101, 116]⟩, .slice KA 1 1, .string ⟨#[49]⟩, .int .u32 0, .int .i64 0, .int .u64 0, .int .u64 0, .bool false, .bool false, .bool false, .bool false, .string ⟨#[]⟩, .slice SA 1 1, .int .i64 0]) ∧ StpAt w' w'.heap.size xSet KA 1 SA 1 1 ∧ Below w.heap.size w w'
def MadeNone (w : World) (e : Ending) (w' : World) : Prop := ∃ KA SA, e = .returned (.agg #[.string ⟨#[103, 101, 116]⟩, .string ⟨#[]⟩, .slice KA 1 1, .string ⟨#[]⟩, .int .u32 0, .int .i64 0, .int .u64 0, .int .u64 0, .bool false, .bool false, .bool false, .bool false, .string ⟨#[97]⟩, .slice SA 1 1, .int .i64 0]) ∧ StpAt w' w'.heap.size xNone KA 1 SA 1 1 ∧ Below w.heap.size w w'
def MadeTold (cas : Int) (w : World) (e : Ending) (w' : World) : Prop := ∃ KA SA, e = .returned (.agg #[.string ⟨#[103, 101, 116]⟩, .string ⟨#[]⟩, .slice KA 1 1, .string ⟨#[]⟩, .int .u32 0, .int .i64 0, .int .u64 0, .int .u64 0, .bool (decide (0 < cas)), .bool false, .bool false, .bool false, .string ⟨#[97]⟩, .slice SA 2 2, .int .i64 0]) ∧ StpAt w' w'.heap.size (xTold cas) KA 1 SA 2 2 ∧ Below w.heap.size w w'
def MadeEx (v : Int) (w : World) (e : Ending) (w' : World) : Prop := ∃ KA SA, e = .returned (.agg #[.string ⟨#[115, 116, 111, 114, 101]⟩, .string ⟨#[99, 97, 115]⟩, .slice KA 1 1, .string ⟨#[57]⟩, .int .u32 0, .int .i64 0, .int .u64 v, .int .u64 0, .bool false, .bool false, .bool false, .bool false, .string ⟨#[]⟩, .slice SA 1 1, .int .i64 0]) ∧ StpAt w' w'.heap.size (xEx v) KA 1 SA 1 1 ∧ Below w.heap.size w w'

theorem RdS.bel {w w' : World} {A : Option Addr} {n : Nat} {ks : List ByteArray} (h : RdS w w.heap.size A n ks) (hb : Below w.heap.size w w') : RdS w' w'.heap.size A n ks := (h.below hb (Nat.le_refl _)).more hb.size
set_option maxRecDepth 100000 in
set_option maxHeartbeats 1000000 in
theorem set_any (w : World) : Calls Tryd.prog 13 #[] w (MadeSet w) := by
  go_enter Tryd.func13, Tryd.ntmps13
  go_wp2_with fail
  refine bodyPost_ret (v := .agg #[.string ⟨#[115, 116, 111, 114, 101]⟩, .string ⟨#[115, 101, 116]⟩, .slice (some ⟨w.heap.size + 1, 0, none⟩) 1 1, .string ⟨#[49]⟩, .int .u32 0, .int .i64 0, .int .u64 0, .int .u64 0, .bool false, .bool false, .bool false, .bool false, .string ⟨#[]⟩, .slice (some ⟨w.heap.size + 1 + 1, 0, none⟩) 1 1, .int .i64 0]) (by simp [results, Tryd.results13, go_sem]) rfl ⟨_, _, rfl, ⟨?_, ?_, by decide⟩, ?_⟩
  · exact (keys1 (k := ka) (heap_alloc_at _ _ _ (by simp))).bel (bel_alloc (bel_refl _) _)
  · exact ans1 (a := M.line M.tSTORED) (heap_alloc_at _ _ _ (by simp))
  · repeat (first | with_reducible exact bel_refl _ | with_reducible apply bel_alloc)
set_option maxRecDepth 100000 in
set_option maxHeartbeats 1000000 in
theorem none_any (w : World) : Calls Tryd.prog 14 #[] w (MadeNone w) := by
  go_enter Tryd.func14, Tryd.ntmps14
  go_wp2_with fail
  refine bodyPost_ret (v := .agg #[.string ⟨#[103, 101, 116]⟩, .string ⟨#[]⟩, .slice (some ⟨w.heap.size + 1, 0, none⟩) 1 1, .string ⟨#[]⟩, .int .u32 0, .int .i64 0, .int .u64 0, .int .u64 0, .bool false, .bool false, .bool false, .bool false, .string ⟨#[97]⟩, .slice (some ⟨w.heap.size + 1 + 1, 0, none⟩) 1 1, .int .i64 0]) (by simp [results, Tryd.results14, go_sem]) rfl ⟨_, _, rfl, ⟨?_, ?_, by decide⟩, ?_⟩
  · exact (keys1 (k := ka) (heap_alloc_at _ _ _ (by simp))).bel (bel_alloc (bel_refl _) _)
  · exact ans1 (a := M.line M.tEND) (heap_alloc_at _ _ _ (by simp))
  · repeat (first | with_reducible exact bel_refl _ | with_reducible apply bel_alloc)
set_option maxRecDepth 100000 in
set_option maxHeartbeats 1000000 in
theorem told_any (cas : Int) (w : World) : Calls Tryd.prog 15 #[.int .u64 cas] w (MadeTold cas w) := by
  go_enter Tryd.func15, Tryd.ntmps15
  go_wp2_with fail
  refine bodyPost_ret (v := .agg #[.string ⟨#[103, 101, 116]⟩, .string ⟨#[]⟩, .slice (some ⟨w.heap.size + 1, 0, none⟩) 1 1, .string ⟨#[]⟩, .int .u32 0, .int .i64 0, .int .u64 0, .int .u64 0, .bool (decide (0 < cas)), .bool false, .bool false, .bool false, .string ⟨#[97]⟩, .slice (some ⟨w.heap.size + 1 + 1, 0, none⟩) 2 2, .int .i64 0]) (by simp [results, Tryd.results15, go_sem]) rfl ⟨_, _, rfl, ⟨?_, ?_, by decide⟩, ?_⟩
  · exact (keys1 (k := ka) (heap_alloc_at _ _ _ (by simp))).bel (bel_alloc (bel_refl _) _)
  · exact ans2 (a := ⟨true, ka, k1, ⟨#[]⟩, 0, cas, decide (0 < cas)⟩) (b := M.line M.tEND) (heap_alloc_at _ _ _ (by simp))
  · repeat (first | with_reducible exact bel_refl _ | with_reducible apply bel_alloc)
set_option maxRecDepth 100000 in
set_option maxHeartbeats 1000000 in
theorem ex_any (v : Int) (w : World) : Calls Tryd.prog 18 #[.int .u64 v] w (MadeEx v w) := by
  go_enter Tryd.func18, Tryd.ntmps18
  go_wp2_with fail
  refine bodyPost_ret (v := .agg #[.string ⟨#[115, 116, 111, 114, 101]⟩, .string ⟨#[99, 97, 115]⟩, .slice (some ⟨w.heap.size + 1, 0, none⟩) 1 1, .string ⟨#[57]⟩, .int .u32 0, .int .i64 0, .int .u64 v, .int .u64 0, .bool false, .bool false, .bool false, .bool false, .string ⟨#[]⟩, .slice (some ⟨w.heap.size + 1 + 1, 0, none⟩) 1 1, .int .i64 0]) (by simp [results, Tryd.results18, go_sem]) rfl ⟨_, _, rfl, ⟨?_, ?_, by decide⟩, ?_⟩
  · exact (keys1 (k := ka) (heap_alloc_at _ _ _ (by simp))).bel (bel_alloc (bel_refl _) _)
  · exact ans1 (a := M.line M.tEX) (heap_alloc_at _ _ _ (by simp))
  · repeat (first | with_reducible exact bel_refl _ | with_reducible apply bel_alloc)
end Go.Proofs.YtbhnmaghnnpboaaDoor
/- lossy: logs of a few steps that were just made. -/
namespace Go.Proofs.YtbhnmaghnnpboaaDoor
open Go.RowKit

abbrev SpAt (w : World) (p : Sp) : Prop := StpAt w w.heap.size p.x p.A p.n p.SA p.m p.sc
abbrev SpOk (x : M.Stp) : Prop := StpOk x ∧ NoPan x
theorem logat {w : World} (l : List Sp) {cs : Array Value} (h : cs = (l.flatMap Sp.cells).toArray) (hs : ∀ p ∈ l, SpAt w p) (hok : ∀ p ∈ l, SpOk p.x) (hn : l.length < 1000000) : LogAt (w.alloc (.cells cs 32)) (some ⟨w.heap.size, 0, none⟩) l.length (l.map Sp.x) := by
  subst h
  refine ⟨rdst_of l (heap_alloc_new w _) (fun p hp => (hs p hp).bel (bel_alloc (bel_refl w) _)), fun x hx => ?_, hn⟩
  obtain ⟨p, hp, rfl⟩ := List.mem_map.1 hx
  exact hok p hp
theorem all1 {α : Type} {P : α → Prop} {a : α} (ha : P a) : ∀ p ∈ [a], P p := fun p hp => by
  rw [List.mem_singleton] at hp; subst hp; exact ha
theorem allc {α : Type} {P : α → Prop} {a : α} {l : List α} (ha : P a) (hl : ∀ p ∈ l, P p) : ∀ p ∈ a :: l, P p := fun p hp => by
  rcases List.mem_cons.1 hp with rfl | hp
  · exact ha
  · exact hl p hp
theorem logat1 {w : World} {a : Sp} {cs : Array Value} (h : cs = ([a].flatMap Sp.cells).toArray) (ha : SpAt w a) (oa : SpOk a.x) : LogAt (w.alloc (.cells cs 32)) (some ⟨w.heap.size, 0, none⟩) 1 [a.x] :=
  logat [a] h (all1 ha) (all1 (P := fun p : Sp => SpOk p.x) oa) (show _ < 1000000 by simp)
theorem logat2 {w : World} {a b : Sp} {cs : Array Value} (h : cs = ([a, b].flatMap Sp.cells).toArray) (ha : SpAt w a) (hb : SpAt w b) (oa : SpOk a.x) (ob : SpOk b.x) : LogAt (w.alloc (.cells cs 32)) (some ⟨w.heap.size, 0, none⟩) 2 [a.x, b.x] :=
  logat [a, b] h (allc ha (all1 hb)) (allc (P := fun p : Sp => SpOk p.x) oa (all1 ob)) (show _ < 1000000 by simp)
theorem logat3 {w : World} {a b c : Sp} {cs : Array Value} (h : cs = ([a, b, c].flatMap Sp.cells).toArray) (ha : SpAt w a) (hb : SpAt w b) (hc : SpAt w c) (oa : SpOk a.x) (ob : SpOk b.x) (oc : SpOk c.x) : LogAt (w.alloc (.cells cs 32)) (some ⟨w.heap.size, 0, none⟩) 3 [a.x, b.x, c.x] :=
  logat [a, b, c] h (allc ha (allc hb (all1 hc))) (allc (P := fun p : Sp => SpOk p.x) oa (allc ob (all1 oc))) (show _ < 1000000 by simp)
theorem logat4 {w : World} {a b c d : Sp} {cs : Array Value} (h : cs = ([a, b, c, d].flatMap Sp.cells).toArray) (ha : SpAt w a) (hb : SpAt w b) (hc : SpAt w c) (hd : SpAt w d) (oa : SpOk a.x) (ob : SpOk b.x) (oc : SpOk c.x) (od : SpOk d.x) : LogAt (w.alloc (.cells cs 32)) (some ⟨w.heap.size, 0, none⟩) 4 [a.x, b.x, c.x, d.x] :=
  logat [a, b, c, d] h (allc ha (allc hb (allc hc (all1 hd)))) (allc (P := fun p : Sp => SpOk p.x) oa (allc ob (allc oc (all1 od)))) (show _ < 1000000 by simp)
theorem logat5 {w : World} {a b c d e : Sp} {cs : Array Value} (h : cs = ([a, b, c, d, e].flatMap Sp.cells).toArray) (ha : SpAt w a) (hb : SpAt w b) (hc : SpAt w c) (hd : SpAt w d) (he : SpAt w e) (oa : SpOk a.x) (ob : SpOk b.x) (oc : SpOk c.x) (od : SpOk d.x) (oe : SpOk e.x) : LogAt (w.alloc (.cells cs 32)) (some ⟨w.heap.size, 0, none⟩) 5 [a.x, b.x, c.x, d.x, e.x] :=
  logat [a, b, c, d, e] h (allc ha (allc hb (allc hc (allc hd (all1 he))))) (allc (P := fun p : Sp => SpOk p.x) oa (allc ob (allc oc (allc od (all1 oe))))) (show _ < 1000000 by simp)

theorem ans_one {a : M.Ans} (h : U64 a.cas) : ∀ x ∈ [a], U64 x.cas := all1 (P := fun x : M.Ans => U64 x.cas) h
theorem u0 : U64 0 := ⟨by decide, by decide⟩
theorem u1 : U64 1 := ⟨by decide, by decide⟩
theorem u2 : U64 2 := ⟨by decide, by decide⟩
theorem cmd_ok {x : M.Cmd} (h1 : x.exp = 0) (h2 : x.by_ = 0) (h3 : U64 x.cas) : CmdOk x := ⟨by rw [h1]; exact ⟨by decide, by decide⟩, by rw [h2]; exact u0, h3⟩
theorem i0 : I64 0 := ⟨by decide, by decide⟩
theorem set_ok : SpOk xSet := ⟨⟨cmd_ok rfl rfl u0, i0, ans_one u0⟩, fun _ _ _ _ => by decide⟩
theorem none_ok : SpOk xNone := ⟨⟨cmd_ok rfl rfl u0, i0, ans_one u0⟩, fun h => by cases h⟩
theorem told_ok (c : Int) (h : U64 c) : SpOk (xTold c) := ⟨⟨cmd_ok rfl rfl u0, i0, allc (P := fun x : M.Ans => U64 x.cas) h (ans_one u0)⟩, fun h => by cases h⟩
theorem ex_ok (v : Int) (h : U64 v) : SpOk (xEx v) := ⟨⟨cmd_ok rfl rfl h, i0, ans_one u0⟩, fun _ _ _ _ => by show 0 < 1; decide⟩
end Go.Proofs.YtbhnmaghnnpboaaDoor
/- lossy: logs of a few made steps, awake. -/
namespace Go.Proofs.YtbhnmaghnnpboaaDoor
open Go.RowKit
attribute [local go_sem ↓] Go.wp_at_zero Go.wp_at_succ

theorem awA_n : lossF [xSet, xTold 0] = 0 := by decide +kernel
theorem awA_b : decide ((goF s0 [xSet, xTold 0]).2 = [xSet, xTold 0].length) = true := by decide +kernel
theorem awB_n : lossF [xSet, xNone] = 1 := by decide +kernel
theorem awB_b : decide ((goF s0 [xSet, xNone]).2 = [xSet, xNone].length) = true := by decide +kernel
theorem awC_n : (goF s0 [xTold 0]).2 = 0 := by decide +kernel
theorem awC_b : decide ((goF s0 [xTold 0]).2 = [xTold 0].length) = false := by decide +kernel
theorem awD_n : (goF s0 [xSet, xSet, xTold 1]).2 = 2 := by decide +kernel
theorem awD_b : decide ((goF s0 [xSet, xSet, xTold 1]).2 = [xSet, xSet, xTold 1].length) = false := by decide +kernel
theorem awE_n : (goF s0 [xSet, xSet, xTold 2]).2 = 3 := by decide +kernel
theorem awE_b : decide ((goF s0 [xSet, xSet, xTold 2]).2 = [xSet, xSet, xTold 2].length) = true := by decide +kernel

set_option maxRecDepth 100000 in
set_option maxHeartbeats 4000000 in
theorem awake_any (w : World) (ht : Tabs w) : Calls Tryd.prog 10 #[] w fun e w' => e = .returned (.bool true) ∧ Below w.heap.size w w' := by
  have HT := Lib.hid ht
  clear ht
  go_enter Tryd.func10, Tryd.ntmps10
  go_wp2_with fail
  refine (set_any _).mono ?_
  rintro e waA0 ⟨KA0, SA0, rfl, hsA0, hbA0⟩
  have HAA0 := Lib.hid hsA0
  have HBA0 := Lib.hid hbA0
  clear hsA0 hbA0
  go_wp2_with fail
  refine (told_any 0 _).mono ?_
  rintro e waA1 ⟨KA1, SA1, rfl, hsA1, hbA1⟩
  have HAA1 := Lib.hid hsA1
  have HBA1 := Lib.hid hbA1
  clear hsA1 hbA1
  go_wp2_with fail
  have HLA := Lib.hid (logat2 (w := waA1) (a := ⟨xSet, KA0, 1, 1, SA0, 1, 1⟩) (b := ⟨xTold 0, KA1, 1, 1, SA1, 2, 2⟩) rfl (HAA0.out.bel HBA1.out) HAA1.out set_ok (told_ok 0 u0))
  refine (losses_any _ 2 2 _ _ (HT.out.bel (bel_alloc (bel_trans (bel_trans (bel_refl w) HBA0.out) HBA1.out) _)) HLA.out).mono ?_
  rw [awA_b, awA_n]
  rintro e wzA ⟨rfl, hzA⟩
  have HZA := Lib.hid (bel_trans (bel_alloc (bel_trans (bel_trans (bel_refl w) HBA0.out) HBA1.out) _) hzA)
  clear hzA
  go_wp2_with fail
  refine (set_any _).mono ?_
  rintro e waB0 ⟨KB0, SB0, rfl, hsB0, hbB0⟩
  have HAB0 := Lib.hid hsB0
  have HBB0 := Lib.hid hbB0
  clear hsB0 hbB0
  go_wp2_with fail
  refine (none_any _).mono ?_
  rintro e waB1 ⟨KB1, SB1, rfl, hsB1, hbB1⟩
  have HAB1 := Lib.hid hsB1
  have HBB1 := Lib.hid hbB1
  clear hsB1 hbB1
  go_wp2_with fail
  have HLB := Lib.hid (logat2 (w := waB1) (a := ⟨xSet, KB0, 1, 1, SB0, 1, 1⟩) (b := ⟨xNone, KB1, 1, 1, SB1, 1, 1⟩) rfl (HAB0.out.bel HBB1.out) HAB1.out set_ok none_ok)
  refine (losses_any _ 2 2 _ _ (HT.out.bel (bel_alloc (bel_trans (bel_trans (HZA.out) HBB0.out) HBB1.out) _)) HLB.out).mono ?_
  rw [awB_b, awB_n]
  rintro e wzB ⟨rfl, hzB⟩
  have HZB := Lib.hid (bel_trans (bel_alloc (bel_trans (bel_trans (HZA.out) HBB0.out) HBB1.out) _) hzB)
  clear hzB
  go_wp2_with fail
  refine (told_any 0 _).mono ?_
  rintro e waC0 ⟨KC0, SC0, rfl, hsC0, hbC0⟩
  have HAC0 := Lib.hid hsC0
  have HBC0 := Lib.hid hbC0
  clear hsC0 hbC0
  go_wp2_with fail
  have HLC := Lib.hid (logat1 (w := waC0) (a := ⟨xTold 0, KC0, 1, 1, SC0, 2, 2⟩) rfl HAC0.out (told_ok 0 u0))
  refine (run_any _ 1 1 _ _ (HT.out.bel (bel_alloc (bel_trans (HZB.out) HBC0.out) _)) HLC.out).mono ?_
  rw [awC_b, awC_n]
  rintro e wzC ⟨rfl, hzC⟩
  have HZC := Lib.hid (bel_trans (bel_alloc (bel_trans (HZB.out) HBC0.out) _) hzC)
  clear hzC
  go_wp2_with fail
  refine (set_any _).mono ?_
  rintro e waD0 ⟨KD0, SD0, rfl, hsD0, hbD0⟩
  have HAD0 := Lib.hid hsD0
  have HBD0 := Lib.hid hbD0
  clear hsD0 hbD0
  go_wp2_with fail
  refine (set_any _).mono ?_
  rintro e waD1 ⟨KD1, SD1, rfl, hsD1, hbD1⟩
  have HAD1 := Lib.hid hsD1
  have HBD1 := Lib.hid hbD1
  clear hsD1 hbD1
  go_wp2_with fail
  refine (told_any 1 _).mono ?_
  rintro e waD2 ⟨KD2, SD2, rfl, hsD2, hbD2⟩
  have HAD2 := Lib.hid hsD2
  have HBD2 := Lib.hid hbD2
  clear hsD2 hbD2
  go_wp2_with fail
  have HLD := Lib.hid (logat3 (w := waD2) (a := ⟨xSet, KD0, 1, 1, SD0, 1, 1⟩) (b := ⟨xSet, KD1, 1, 1, SD1, 1, 1⟩) (c := ⟨xTold 1, KD2, 1, 1, SD2, 2, 2⟩) rfl ((HAD0.out.bel HBD1.out).bel HBD2.out) (HAD1.out.bel HBD2.out) HAD2.out set_ok set_ok (told_ok 1 u1))
  refine (run_any _ 3 3 _ _ (HT.out.bel (bel_alloc (bel_trans (bel_trans (bel_trans (HZC.out) HBD0.out) HBD1.out) HBD2.out) _)) HLD.out).mono ?_
  rw [awD_b, awD_n]
  rintro e wzD ⟨rfl, hzD⟩
  have HZD := Lib.hid (bel_trans (bel_alloc (bel_trans (bel_trans (bel_trans (HZC.out) HBD0.out) HBD1.out) HBD2.out) _) hzD)
  clear hzD
  go_wp2_with fail
  refine (set_any _).mono ?_
  rintro e waE0 ⟨KE0, SE0, rfl, hsE0, hbE0⟩
  have HAE0 := Lib.hid hsE0
  have HBE0 := Lib.hid hbE0
  clear hsE0 hbE0
  go_wp2_with fail
  refine (set_any _).mono ?_
  rintro e waE1 ⟨KE1, SE1, rfl, hsE1, hbE1⟩
  have HAE1 := Lib.hid hsE1
  have HBE1 := Lib.hid hbE1
  clear hsE1 hbE1
  go_wp2_with fail
  refine (told_any 2 _).mono ?_
  rintro e waE2 ⟨KE2, SE2, rfl, hsE2, hbE2⟩
  have HAE2 := Lib.hid hsE2
  have HBE2 := Lib.hid hbE2
  clear hsE2 hbE2
  go_wp2_with fail
  have HLE := Lib.hid (logat3 (w := waE2) (a := ⟨xSet, KE0, 1, 1, SE0, 1, 1⟩) (b := ⟨xSet, KE1, 1, 1, SE1, 1, 1⟩) (c := ⟨xTold 2, KE2, 1, 1, SE2, 2, 2⟩) rfl ((HAE0.out.bel HBE1.out).bel HBE2.out) (HAE1.out.bel HBE2.out) HAE2.out set_ok set_ok (told_ok 2 u2))
  refine (run_any _ 3 3 _ _ (HT.out.bel (bel_alloc (bel_trans (bel_trans (bel_trans (HZD.out) HBE0.out) HBE1.out) HBE2.out) _)) HLE.out).mono ?_
  rw [awE_b, awE_n]
  rintro e wzE ⟨rfl, hzE⟩
  have HZE := Lib.hid (bel_trans (bel_alloc (bel_trans (bel_trans (bel_trans (HZD.out) HBE0.out) HBE1.out) HBE2.out) _) hzE)
  clear hzE
  go_wp2_with fail
  go_ret
  exact ⟨rfl, HZE.out⟩
end Go.Proofs.YtbhnmaghnnpboaaDoor

/- lossy: cas, a key that is not there. -/
import Derived.Test.YtbhnmaghnnpboaaDoorZj
import Derived.BigRegion
namespace Go.Proofs.YtbhnmaghnnpboaaDoor
open Go.RowKit
attribute [local go_sem ↓] Go.wp_at_zero Go.wp_at_succ

theorem put5 {w : World} {q : Nat} {a b c d e : Value} {t : TypeId} (h : w.heap[q]? = some (.cells #[a, b, c, d, e] t)) (v0 v1 v2 v3 v4 : Value) :
    (((((w.setCell ⟨q, 0, none⟩ v0).setCell ⟨q, 1, none⟩ v1).setCell ⟨q, 2, none⟩ v2).setCell ⟨q, 3, none⟩ v3).setCell ⟨q, 4, none⟩ v4).heap[q]? = some (.cells #[v0, v1, v2, v3, v4] t) :=
  heap_put v4 (heap_put v3 (heap_put v2 (heap_put v1 (heap_put v0 h))))
theorem below5 {B : Nat} {w0 w : World} {q : Nat} (h : Below B w0 w) (hq : B ≤ q) (v0 v1 v2 v3 v4 : Value) :
    Below B w0 (((((w.setCell ⟨q, 0, none⟩ v0).setCell ⟨q, 1, none⟩ v1).setCell ⟨q, 2, none⟩ v2).setCell ⟨q, 3, none⟩ v3).setCell ⟨q, 4, none⟩ v4) :=
  ((((h.setCell (by exact hq) v0).setCell (by exact hq) v1).setCell (by exact hq) v2).setCell (by exact hq) v3).setCell (by exact hq) v4

set_option maxRecDepth 100000 in
set_option maxHeartbeats 2000000 in
theorem cas_none {B : Nat} {w : World} {rb mb g : Nat} {l : M.Mp} {is : List Ch} {losses : Int} {A0 : Option Addr} {cc : Nat} (h : RunSt B w rb mb g l is losses A0 cc) (cv ck cd : ByteArray) (cf ce ca : Int) (cq : Bool) (xw xv : ByteArray) (xd : ByteArray) (xf xe xc xb : Int) (xwc xwt xdn xq : Bool) (A SA : Option Addr) (n c m sc : Nat) (key : ByteArray) (now : Int) (told : ByteArray) (hx : M.mget l ck now = none) :
    Calls Tryd.prog 57 #[.pointer (some ⟨rb, 0, none⟩), .agg (#[Value.string cv, Value.string ck, Value.string cd, Value.int .u32 cf, Value.int .i64 ce, Value.int .u64 ca, Value.bool cq] : Array Value), .agg (#[Value.string xw, Value.string xv, Value.slice A n c, Value.string xd, Value.int .u32 xf, Value.int .i64 xe, Value.int .u64 xc, Value.int .u64 xb, Value.bool xwc, Value.bool xwt, Value.bool xdn, Value.bool xq, Value.string key, Value.slice SA m sc, Value.int .i64 now] : Array Value), .string told] w fun e w' => e = .returned (.bool false) ∧ Below B w w' := by
  have hrl : rb < w.heap.size := (Array.getElem?_eq_some_iff.1 h.hd).1
  have hB : B ≤ w.heap.size := by have := h.lo.1; omega
  have hW : Below w.heap.size w ((w.alloc (.cells (#[Value.string cv, Value.string ck, Value.string cd, Value.int .u32 cf, Value.int .i64 ce, Value.int .u64 ca, Value.bool cq] : Array Value) 83)).alloc (.cells (#[Value.string xw, Value.string xv, Value.slice A n c, Value.string xd, Value.int .u32 xf, Value.int .i64 xe, Value.int .u64 xc, Value.int .u64 xb, Value.bool xwc, Value.bool xwt, Value.bool xdn, Value.bool xq, Value.string key, Value.slice SA m sc, Value.int .i64 now] : Array Value) 32)) := bel_alloc (bel_alloc (bel_refl w) _) _
  have hq0 : ((w.alloc (.cells (#[Value.string cv, Value.string ck, Value.string cd, Value.int .u32 cf, Value.int .i64 ce, Value.int .u64 ca, Value.bool cq] : Array Value) 83)).alloc (.cells (#[Value.string xw, Value.string xv, Value.slice A n c, Value.string xd, Value.int .u32 xf, Value.int .i64 xe, Value.int .u64 xc, Value.int .u64 xb, Value.bool xwc, Value.bool xwt, Value.bool xdn, Value.bool xq, Value.string key, Value.slice SA m sc, Value.int .i64 now] : Array Value) 32)).heap[w.heap.size]? = some (.cells (#[Value.string cv, Value.string ck, Value.string cd, Value.int .u32 cf, Value.int .i64 ce, Value.int .u64 ca, Value.bool cq] : Array Value) 83) := (heap_alloc_old _ _ (by simp)).trans (heap_alloc_new w _)
  have hq1 : ((w.alloc (.cells (#[Value.string cv, Value.string ck, Value.string cd, Value.int .u32 cf, Value.int .i64 ce, Value.int .u64 ca, Value.bool cq] : Array Value) 83)).alloc (.cells (#[Value.string xw, Value.string xv, Value.slice A n c, Value.string xd, Value.int .u32 xf, Value.int .i64 xe, Value.int .u64 xc, Value.int .u64 xb, Value.bool xwc, Value.bool xwt, Value.bool xdn, Value.bool xq, Value.string key, Value.slice SA m sc, Value.int .i64 now] : Array Value) 32)).heap[w.heap.size + 1]? = some (.cells (#[Value.string xw, Value.string xv, Value.slice A n c, Value.string xd, Value.int .u32 xf, Value.int .i64 xe, Value.int .u64 xc, Value.int .u64 xb, Value.bool xwc, Value.bool xwt, Value.bool xdn, Value.bool xq, Value.string key, Value.slice SA m sc, Value.int .i64 now] : Array Value) 32) := heap_alloc_at _ _ _ (by simp)
  have hsz : w.heap.size + 1 < ((w.alloc (.cells (#[Value.string cv, Value.string ck, Value.string cd, Value.int .u32 cf, Value.int .i64 ce, Value.int .u64 ca, Value.bool cq] : Array Value) 83)).alloc (.cells (#[Value.string xw, Value.string xv, Value.slice A n c, Value.string xd, Value.int .u32 xf, Value.int .i64 xe, Value.int .u64 xc, Value.int .u64 xb, Value.bool xwc, Value.bool xwt, Value.bool xdn, Value.bool xq, Value.string key, Value.slice SA m sc, Value.int .i64 now] : Array Value) 32)).heap.size := by simp
  have H := Lib.hid (h.below hW)
  have HX := Lib.hid hx
  clear h hx
  go_enter Tryd.func57, Tryd.ntmps57
  go_wp2_with fail
  generalize (w.alloc (.cells (#[Value.string cv, Value.string ck, Value.string cd, Value.int .u32 cf, Value.int .i64 ce, Value.int .u64 ca, Value.bool cq] : Array Value) 83)).alloc (.cells (#[Value.string xw, Value.string xv, Value.slice A n c, Value.string xd, Value.int .u32 xf, Value.int .i64 xe, Value.int .u64 xc, Value.int .u64 xb, Value.bool xwc, Value.bool xwt, Value.bool xdn, Value.bool xq, Value.string key, Value.slice SA m sc, Value.int .i64 now] : Array Value) 32) = wz at *
  have k0 := cells_at (j := 0) H.out.hd rfl
  have hz0 := cells_at (j := 1) hq0 rfl
  have hz1 := cells_at (j := 14) hq1 rfl
  have HQ0 := Lib.hid hq0
  have HQ1 := Lib.hid hq1
  clear hq0 hq1
  go_cut [9, 10] from 11 to 22 (fun x9 x10 wx => ∃ q, x9 = .pointer (some ⟨q, 0, none⟩) ∧ x10 = .bool false ∧ wx.heap[q]? = some (.cells #[.string ⟨#[]⟩, .string ⟨#[]⟩, .int .u32 0, .int .i64 0, .int .u64 0] 65) ∧ wz.heap.size ≤ q ∧ Below wz.heap.size wz wx)
  case first =>
    go_region_held3 (fun w' => w'.cell? ⟨rb, 0, none⟩ = some (.pointer (some ⟨mb, 0, none⟩)) ∧ w'.cell? ⟨w.heap.size, 1, none⟩ = some (.string ck) ∧ w'.cell? ⟨w.heap.size + 1, 14, none⟩ = some (.int .i64 now)) (first | (go_keep; done) | (simp [go_sem]; done) | (simp [*, go_sem]; done)) (first | (go_at_call 24; (with_reducible refine (mget_none mb g l ck now (wz.alloc (.cells #[.string ⟨#[]⟩, .string ⟨#[]⟩, .int .u32 0, .int .i64 0, .int .u64 0] 65)).drew ((H.out.below (bel_drew (bel_alloc (bel_refl wz) _))).map) HX.out).mono ?_); rintro e w6 ⟨rfl, hb6⟩; have hb7 : Below wz.heap.size wz w6 := bel_trans (bel_drew (bel_alloc (bel_refl wz) _)) hb6; have hk9 : w6.heap[wz.heap.size]? = some (.cells #[.string ⟨#[]⟩, .string ⟨#[]⟩, .int .u32 0, .int .i64 0, .int .u64 0] 65) := (hb6.block wz.heap.size (by simp)).trans (heap_alloc_new wz _); have hk10 : ∀ o, w6.cell? ⟨wz.heap.size, o, none⟩ = (#[Value.string ⟨#[]⟩, Value.string ⟨#[]⟩, Value.int .u32 0, Value.int .i64 0, Value.int .u64 0] : Array Value)[o]? := (fun o => cell_of_row w6 wz.heap.size o _ 65 (0, 0) hk9); have hk11 : ∀ o, w6.frozen? ⟨wz.heap.size, o, none⟩ = false := (fun o => froz_at hk9); have HK9 := Lib.hid hk9; clear hk9; have hk6 : ∀ o, w6.cell? ⟨w.heap.size, o, none⟩ = wz.cell? ⟨w.heap.size, o, none⟩ := (fun o => hb7.cell (p := ⟨w.heap.size, o, none⟩) (show w.heap.size < wz.heap.size by omega)); have hk7 : ∀ o, w6.cell? ⟨w.heap.size + 1, o, none⟩ = wz.cell? ⟨w.heap.size + 1, o, none⟩ := (fun o => hb7.cell (p := ⟨w.heap.size + 1, o, none⟩) (show w.heap.size + 1 < wz.heap.size by omega)); have hk8 : w6.cell? ⟨rb, 0, none⟩ = wz.cell? ⟨rb, 0, none⟩ := hb7.cell (p := ⟨rb, 0, none⟩) (show rb < wz.heap.size by omega)) | (go_at_call 24; (with_reducible refine (mget_none mb g l ck now wz.drew ((H.out.below (bel_drew (bel_refl wz))).map) HX.out).mono ?_); rintro e w6 ⟨rfl, hb6⟩; have hb7 : Below wz.heap.size wz w6 := bel_trans (bel_drew (bel_refl wz)) hb6; have hk6 : ∀ o, w6.cell? ⟨w.heap.size, o, none⟩ = wz.cell? ⟨w.heap.size, o, none⟩ := (fun o => hb7.cell (p := ⟨w.heap.size, o, none⟩) (show w.heap.size < wz.heap.size by omega)); have hk7 : ∀ o, w6.cell? ⟨w.heap.size + 1, o, none⟩ = wz.cell? ⟨w.heap.size + 1, o, none⟩ := (fun o => hb7.cell (p := ⟨w.heap.size + 1, o, none⟩) (show w.heap.size + 1 < wz.heap.size by omega)); have hk8 : w6.cell? ⟨rb, 0, none⟩ = wz.cell? ⟨rb, 0, none⟩ := hb7.cell (p := ⟨rb, 0, none⟩) (show rb < wz.heap.size by omega)))
    · go_wp2_with fail
      go_meet
      exact ⟨_, rfl, rfl, heap_alloc_new w6 _, hb7.size, bel_alloc hb7 _⟩
    · go_wp2_with fail
      go_meet
      exact ⟨_, rfl, rfl, put5 HK9.out _ _ _ _ _, Nat.le_refl _, below5 hb7 (Nat.le_refl _) _ _ _ _ _⟩
  case rest =>
  obtain ⟨q, rfl, rfl, hx9, hqz, hbx⟩ := hcut
  go_wp2_with fail
  go_ret
  exact ⟨rfl, (hW.trans (hbx.mono hW.size)).mono hB⟩
end Go.Proofs.YtbhnmaghnnpboaaDoor
/- lossy: cas, told to have another version. -/
namespace Go.Proofs.YtbhnmaghnnpboaaDoor
open Go.RowKit
attribute [local go_sem ↓] Go.wp_at_zero Go.wp_at_succ

/-- What an append that runs to its end yields, and leaves. -/
def apV (P : Program) (ts : Array TypeId) (ty : TypeId) (args : Array Value) (w : World) : Value := match (Builtin.append_ ts ty args).run P w with | .ok v _ => v | _ => undef
def apW (P : Program) (ts : Array TypeId) (ty : TypeId) (args : Array Value) (w : World) : World := match (Builtin.append_ ts ty args).run P w with | .ok _ w' => w' | _ => w
def ApOk (P : Program) (ts : Array TypeId) (ty : TypeId) (args : Array Value) (w : World) : Prop := (Builtin.append_ ts ty args).run P w = .ok (apV P ts ty args w) (apW P ts ty args w)
theorem ap_run {P : Program} {ts : Array TypeId} {ty : TypeId} {args : Array Value} {w : World} (h : ApOk P ts ty args w) : (Builtin.append_ ts ty args).run P w = .ok (apV P ts ty args w) (apW P ts ty args w) := h
theorem ApOk.of {P : Program} {ts : Array TypeId} {ty : TypeId} {args : Array Value} {w : World} {v : Value} {w' : World} (h : (Builtin.append_ ts ty args).run P w = .ok v w') : ApOk P ts ty args w ∧ apV P ts ty args w = v ∧ apW P ts ty args w = w' := by
  unfold ApOk apV apW; rw [h]; exact ⟨rfl, rfl, rfl⟩
theorem oper_append {P : Program} {a : Act} {w : World} {K : Act → World → Prop} {Q : Exit → Act → World → Prop} {dst : Option Nat} {s x : Operand} {t ty : TypeId} {pos : String} {after : Array Edge}
    (h : ApOk P #[t, t] ty #[a.eval s, a.eval x] w) :
    Oper.wp P { dst := dst, op := .call { callee := .builtin .append, args := #[s, x], argTypes := #[t, t] }, type := ty, pos := pos, after := after, guard := none } a w K Q = K (a.put dst (apV P #[t, t] ty #[a.eval s, a.eval x] w)) (apW P #[t, t] ty #[a.eval s, a.eval x] w) := by
  unfold ApOk at h
  unfold Oper.wp execOp
  simp only [resolve, invoke, builtin, Sem.run_bind, Sem.run_pure, Result.andThen_ok, List.map_toArray, List.map_cons, List.map_nil, h]
  rfl
/-- What an append at a change's own slice keeps. -/
theorem RunSt.not_keep {B : Nat} {w w2 : World} {rb mb g : Nat} {l : M.Mp} {is : List Ch} {losses : Int} {A : Option Addr} {c : Nat} {o : Obj} (h : RunSt B w rb mb g l is losses A c) {x : Ch} (hx : x ∈ is) (hg : (w.alloc o).grownBy w2 x.nv.ownBlock) :
    (∀ (k : Nat) (ob : Obj), w.heap[k]? = some ob → (∀ cur : Array Value, ob ≠ Obj.cells cur 27 (0, 0)) → w2.heap[k]? = some ob) ∧ Below B w w2 := by
  have hsz : w.heap.size ≤ w2.heap.size := by have := hg.size; simp at this; omega
  have hrb : rb < w.heap.size := (Array.getElem?_eq_some_iff.1 h.hd).1
  refine ⟨fun k ob hk hne => ?_, hg.os, hg.tape, hg.output, hsz, fun k hk => ?_⟩
  · have hlt : k < w.heap.size := (Array.getElem?_eq_some_iff.1 hk).1
    rw [hg.block k (by simp; omega) (fun e => by
      rcases owns_ne (_e' := 27) (h.nots x hx) hk hne with hz | hz
      · rw [hz] at e; cases e
      · exact hz e.symm), heap_alloc_old w o hlt]
    exact hk
  · have := h.lo.1
    rw [hg.block k (by simp; omega) (fun e => by
      have := (h.nots x hx).lt k e.symm
      omega)]
    exact heap_alloc_old w o (by omega)
attribute [local go_sem ↓] oper_append

set_option maxRecDepth 100000 in
set_option maxHeartbeats 4000000 in
theorem cas_ex {B : Nat} {w : World} {rb mb g : Nat} {l : M.Mp} {is : List Ch} {losses : Int} {A0 : Option Addr} {cc : Nat} (h : RunSt B w rb mb g l is losses A0 cc) (cv ck cd : ByteArray) (cf ce ca : Int) (cq : Bool) (xw xv : ByteArray) (xd : ByteArray) (xf xe xc xb : Int) (xwc xwt xdn xq : Bool) (A SA : Option Addr) (n c m sc : Nat) (key : ByteArray) (now : Int) (_told : ByteArray) (y : M.Item) (hx : M.mget l ck now = some y) (j : Nat) (hj : j < is.length) (hv : y.ver = (j : Int) + 1) (hnots : ∀ x ∈ is, x.nots.length < 1000000) :
    Calls Tryd.prog 57 #[.pointer (some ⟨rb, 0, none⟩), .agg (#[Value.string cv, Value.string ck, Value.string cd, Value.int .u32 cf, Value.int .i64 ce, Value.int .u64 ca, Value.bool cq] : Array Value), .agg (#[Value.string xw, Value.string xv, Value.slice A n c, Value.string xd, Value.int .u32 xf, Value.int .i64 xe, Value.int .u64 xc, Value.int .u64 xb, Value.bool xwc, Value.bool xwt, Value.bool xdn, Value.bool xq, Value.string key, Value.slice SA m sc, Value.int .i64 now] : Array Value), .string ⟨#[69, 88, 73, 83, 84, 83]⟩] w (Stepped B w rb mb g (true, ⟨l, addNot (is.map Ch.sees) y.ver ca, losses⟩)) := by
  have hrl : rb < w.heap.size := (Array.getElem?_eq_some_iff.1 h.hd).1
  have hB : B ≤ w.heap.size := by have := h.lo.1; omega
  have hW : Below w.heap.size w ((w.alloc (.cells (#[Value.string cv, Value.string ck, Value.string cd, Value.int .u32 cf, Value.int .i64 ce, Value.int .u64 ca, Value.bool cq] : Array Value) 83)).alloc (.cells (#[Value.string xw, Value.string xv, Value.slice A n c, Value.string xd, Value.int .u32 xf, Value.int .i64 xe, Value.int .u64 xc, Value.int .u64 xb, Value.bool xwc, Value.bool xwt, Value.bool xdn, Value.bool xq, Value.string key, Value.slice SA m sc, Value.int .i64 now] : Array Value) 32)) := bel_alloc (bel_alloc (bel_refl w) _) _
  have hq0 : ((w.alloc (.cells (#[Value.string cv, Value.string ck, Value.string cd, Value.int .u32 cf, Value.int .i64 ce, Value.int .u64 ca, Value.bool cq] : Array Value) 83)).alloc (.cells (#[Value.string xw, Value.string xv, Value.slice A n c, Value.string xd, Value.int .u32 xf, Value.int .i64 xe, Value.int .u64 xc, Value.int .u64 xb, Value.bool xwc, Value.bool xwt, Value.bool xdn, Value.bool xq, Value.string key, Value.slice SA m sc, Value.int .i64 now] : Array Value) 32)).heap[w.heap.size]? = some (.cells (#[Value.string cv, Value.string ck, Value.string cd, Value.int .u32 cf, Value.int .i64 ce, Value.int .u64 ca, Value.bool cq] : Array Value) 83) := (heap_alloc_old _ _ (by simp)).trans (heap_alloc_new w _)
  have hq1 : ((w.alloc (.cells (#[Value.string cv, Value.string ck, Value.string cd, Value.int .u32 cf, Value.int .i64 ce, Value.int .u64 ca, Value.bool cq] : Array Value) 83)).alloc (.cells (#[Value.string xw, Value.string xv, Value.slice A n c, Value.string xd, Value.int .u32 xf, Value.int .i64 xe, Value.int .u64 xc, Value.int .u64 xb, Value.bool xwc, Value.bool xwt, Value.bool xdn, Value.bool xq, Value.string key, Value.slice SA m sc, Value.int .i64 now] : Array Value) 32)).heap[w.heap.size + 1]? = some (.cells (#[Value.string xw, Value.string xv, Value.slice A n c, Value.string xd, Value.int .u32 xf, Value.int .i64 xe, Value.int .u64 xc, Value.int .u64 xb, Value.bool xwc, Value.bool xwt, Value.bool xdn, Value.bool xq, Value.string key, Value.slice SA m sc, Value.int .i64 now] : Array Value) 32) := heap_alloc_at _ _ _ (by simp)
  have hsz : w.heap.size + 1 < ((w.alloc (.cells (#[Value.string cv, Value.string ck, Value.string cd, Value.int .u32 cf, Value.int .i64 ce, Value.int .u64 ca, Value.bool cq] : Array Value) 83)).alloc (.cells (#[Value.string xw, Value.string xv, Value.slice A n c, Value.string xd, Value.int .u32 xf, Value.int .i64 xe, Value.int .u64 xc, Value.int .u64 xb, Value.bool xwc, Value.bool xwt, Value.bool xdn, Value.bool xq, Value.string key, Value.slice SA m sc, Value.int .i64 now] : Array Value) 32)).heap.size := by simp
  have H := Lib.hid (h.below hW)
  have HX := Lib.hid hx
  have HN := Lib.hid hnots
  have HL := Lib.hid (show addNot (is.map Ch.sees) y.ver ca = (is.map Ch.sees).set j (is[j].told, is[j].nots ++ [ca]) by
    unfold addNot; rw [hv, show ((j : Int) + 1 - 1).toNat = j by omega]; simp [List.getD, hj, Ch.sees])
  have hss := h.small
  clear h hx hnots
  obtain ⟨ykey, yval, yfl, yexp, yver⟩ := y
  simp only at hv
  subst hv
  go_enter Tryd.func57, Tryd.ntmps57
  go_wp2_with fail
  generalize (w.alloc (.cells (#[Value.string cv, Value.string ck, Value.string cd, Value.int .u32 cf, Value.int .i64 ce, Value.int .u64 ca, Value.bool cq] : Array Value) 83)).alloc (.cells (#[Value.string xw, Value.string xv, Value.slice A n c, Value.string xd, Value.int .u32 xf, Value.int .i64 xe, Value.int .u64 xc, Value.int .u64 xb, Value.bool xwc, Value.bool xwt, Value.bool xdn, Value.bool xq, Value.string key, Value.slice SA m sc, Value.int .i64 now] : Array Value) 32) = wz at *
  have k0 := cells_at (j := 0) H.out.hd rfl
  have hz0 := cells_at (j := 1) hq0 rfl
  have hz1 := cells_at (j := 14) hq1 rfl
  have HQ0 := Lib.hid hq0
  have HQ1 := Lib.hid hq1
  clear hq0 hq1
  go_cut [9, 10] from 11 to 22 (fun x9 x10 wx => ∃ q, x9 = .pointer (some ⟨q, 0, none⟩) ∧ x10 = .bool true ∧ wx.heap[q]? = some (.cells #[.string ykey, .string yval, .int .u32 yfl, .int .i64 yexp, .int .u64 ((j : Int) + 1)] 65) ∧ wz.heap.size ≤ q ∧ Below wz.heap.size wz wx)
  case first =>
    go_region_held3 (fun w' => w'.cell? ⟨rb, 0, none⟩ = some (.pointer (some ⟨mb, 0, none⟩)) ∧ w'.cell? ⟨w.heap.size, 1, none⟩ = some (.string ck) ∧ w'.cell? ⟨w.heap.size + 1, 14, none⟩ = some (.int .i64 now)) (first | (go_keep; done) | (simp [go_sem]; done) | (simp [*, go_sem]; done)) (first | (go_at_call 24; (with_reducible refine (mget_some mb g l ck now ⟨ykey, yval, yfl, yexp, (j : Int) + 1⟩ (wz.alloc (.cells #[.string ⟨#[]⟩, .string ⟨#[]⟩, .int .u32 0, .int .i64 0, .int .u64 0] 65)).drew ((H.out.below (bel_drew (bel_alloc (bel_refl wz) _))).map) HX.out).mono ?_); rintro e w6 ⟨rfl, hb6⟩; have hb7 : Below wz.heap.size wz w6 := bel_trans (bel_drew (bel_alloc (bel_refl wz) _)) hb6; have hk9 : w6.heap[wz.heap.size]? = some (.cells #[.string ⟨#[]⟩, .string ⟨#[]⟩, .int .u32 0, .int .i64 0, .int .u64 0] 65) := (hb6.block wz.heap.size (by simp)).trans (heap_alloc_new wz _); have hk10 : ∀ o, w6.cell? ⟨wz.heap.size, o, none⟩ = (#[Value.string ⟨#[]⟩, Value.string ⟨#[]⟩, Value.int .u32 0, Value.int .i64 0, Value.int .u64 0] : Array Value)[o]? := (fun o => cell_of_row w6 wz.heap.size o _ 65 (0, 0) hk9); have hk11 : ∀ o, w6.frozen? ⟨wz.heap.size, o, none⟩ = false := (fun o => froz_at hk9); have HK9 := Lib.hid hk9; clear hk9; have hk6 : ∀ o, w6.cell? ⟨w.heap.size, o, none⟩ = wz.cell? ⟨w.heap.size, o, none⟩ := (fun o => hb7.cell (p := ⟨w.heap.size, o, none⟩) (show w.heap.size < wz.heap.size by omega)); have hk7 : ∀ o, w6.cell? ⟨w.heap.size + 1, o, none⟩ = wz.cell? ⟨w.heap.size + 1, o, none⟩ := (fun o => hb7.cell (p := ⟨w.heap.size + 1, o, none⟩) (show w.heap.size + 1 < wz.heap.size by omega)); have hk8 : w6.cell? ⟨rb, 0, none⟩ = wz.cell? ⟨rb, 0, none⟩ := hb7.cell (p := ⟨rb, 0, none⟩) (show rb < wz.heap.size by omega)) | (go_at_call 24; (with_reducible refine (mget_some mb g l ck now ⟨ykey, yval, yfl, yexp, (j : Int) + 1⟩ wz.drew ((H.out.below (bel_drew (bel_refl wz))).map) HX.out).mono ?_); rintro e w6 ⟨rfl, hb6⟩; have hb7 : Below wz.heap.size wz w6 := bel_trans (bel_drew (bel_refl wz)) hb6; have hk6 : ∀ o, w6.cell? ⟨w.heap.size, o, none⟩ = wz.cell? ⟨w.heap.size, o, none⟩ := (fun o => hb7.cell (p := ⟨w.heap.size, o, none⟩) (show w.heap.size < wz.heap.size by omega)); have hk7 : ∀ o, w6.cell? ⟨w.heap.size + 1, o, none⟩ = wz.cell? ⟨w.heap.size + 1, o, none⟩ := (fun o => hb7.cell (p := ⟨w.heap.size + 1, o, none⟩) (show w.heap.size + 1 < wz.heap.size by omega)); have hk8 : w6.cell? ⟨rb, 0, none⟩ = wz.cell? ⟨rb, 0, none⟩ := hb7.cell (p := ⟨rb, 0, none⟩) (show rb < wz.heap.size by omega)))
    · go_wp2_with fail
      go_meet
      exact ⟨_, rfl, rfl, heap_alloc_new w6 _, hb7.size, bel_alloc hb7 _⟩
    · go_wp2_with fail
      go_meet
      exact ⟨_, rfl, rfl, put5 HK9.out _ _ _ _ _, Nat.le_refl _, below5 hb7 (Nat.le_refl _) _ _ _ _ _⟩
  case rest =>
  obtain ⟨q, rfl, rfl, hx9, hqz, hbx⟩ := hcut
  have hR := H.out.below hbx
  obtain ⟨A', c', w7, cb, hrun, hg7, rfl, e1, e2, hR7, hBcb⟩ := (hR.below (bel_drew (bel_refl wc))).not_run j hj ca (HN.out _ (List.getElem_mem hj))
  obtain ⟨cb', hA', hBB, c1, c2, hf, _⟩ := hR.told_ j hj
  obtain rfl : cb = cb' := by injection hA' with hA'; injection hA'
  have q1 := cells_at (j := 1) hR.hd rfl
  have q4 := cells_at (j := 4) hx9 rfl
  have qc := cells_at (j := 5) ((hbx.block w.heap.size (by omega)).trans HQ0.out) rfl
  have hrun' : (Builtin.append_ #[132, 132] 132 #[is[j].nv, .slice (some ⟨wc.heap.size, 0, none⟩) 1 1]).run Tryd.prog (wc.alloc (.cells #[.int .u64 ca] 27)).drew = .ok (.slice A' (is[j].nots.length + 1) c') w7 := hrun
  obtain ⟨hap, hapv, hapw⟩ := ApOk.of hrun'
  obtain ⟨kk, hb7⟩ := (hR.below (bel_drew (bel_refl wc))).not_keep (List.getElem_mem hj) hg7
  have p1 : w7.cell? ⟨rb, 1, none⟩ = some (.slice (some ⟨cb, 0, none⟩) is.length cc) := cells_at (kk rb _ hR.hd (fun _ e => by cases e)) rfl
  have p4 : w7.cell? ⟨q, 4, none⟩ = some (.int .u64 ((j : Int) + 1)) := cells_at (kk q _ hx9 (fun _ e => by cases e)) rfl
  have HB7 := Lib.hid ((hW.trans (hbx.mono hW.size)).mono hB |>.trans (Below.trans ((bel_drew (bel_refl wc)).mono (by have := hbx.size; omega)) hb7))
  have e3 : IntKind.u64.wrap ((j : Int) + 1 - 1) = (j : Int) := by rw [IntKind.wrap_u64]; omega
  have e4 : IntKind.u64.wrap (j : Int) = (j : Int) := by rw [IntKind.wrap_u64]; omega
  have l1 : q < wc.heap.size := (Array.getElem?_eq_some_iff.1 hx9).1
  have l2 : rb < wc.heap.size := (Array.getElem?_eq_some_iff.1 hR.hd).1
  have l3 : w.heap.size < wc.heap.size := by have := hbx.size; omega
  have l4 : cb < wc.heap.size := by
    obtain ⟨cb', cur, hA, _, hcb, _⟩ := hR.open (by omega)
    obtain rfl : cb = cb' := by injection hA with hA; injection hA
    exact (Array.getElem?_eq_some_iff.1 hcb).1
  have HR7 := Lib.hid hR7
  have HG7 := Lib.hid hg7
  have HRR := Lib.hid hR
  have HX9 := Lib.hid hx9
  have HBX := Lib.hid hbx
  clear hR hR7 hg7 hrun hrun' c1 k0 hx9 hbx hz0 hz1 hA' kk hb7
  simp only [Ch.nv] at *
  go_wp2_with fail
  go_region
  go_wp2_with fail
  go_ret
  refine ⟨rfl, Below.setCell HB7.out (by exact hBcb) _, fun _ => ⟨_, _, _, HR7.out, ?_⟩⟩
  rw [HL.out, List.map_set]; rfl
end Go.Proofs.YtbhnmaghnnpboaaDoor
/- lossy: event.To of a Store. -/
namespace Go.Proofs.YtbhnmaghnnpboaaDoor
open Go.RowKit
attribute [local go_sem ↓] Go.wp_at_zero Go.wp_at_succ

/-- What To tells of a Store. -/
def ToCmd (w : World) (verb key data : ByteArray) (flags exp cas : Int) (q : Bool) (e : Ending) (w' : World) : Prop :=
  ∃ A', e = .returned (.agg #[.string M.sStore, .string verb, .slice A' 1 1, .string data, .int .u32 flags, .int .i64 exp, .int .u64 cas, .int .u64 0, .bool false, .bool false, .bool false, .bool q]) ∧ RdS w' w'.heap.size A' 1 [key] ∧ Below w.heap.size w w'
set_option maxRecDepth 100000 in
set_option maxHeartbeats 2000000 in
theorem to_store (verb key data : ByteArray) (flags exp cas : Int) (q : Bool) (w : World) :
    Calls Tryd.prog 67 #[.iface 83 (.agg #[.string verb, .string key, .string data, .int .u32 flags, .int .i64 exp, .int .u64 cas, .bool q])] w (ToCmd w verb key data flags exp cas q) := by
  go_enter Tryd.func67, Tryd.ntmps67
  go_wp2_with fail
  refine bodyPost_ret (v := .agg #[.string M.sStore, .string verb, .slice (some ⟨w.heap.size + 1 + 1 + 1, 0, none⟩) 1 1, .string data, .int .u32 flags, .int .i64 exp, .int .u64 cas, .int .u64 0, .bool false, .bool false, .bool false, .bool q]) (by simp [results, Tryd.results67, go_sem, M.sStore]) rfl ⟨_, rfl, ?_, ?_⟩
  · refine ⟨rfl, by decide, fun _ => ⟨w.heap.size + 1 + 1 + 1, 0, rfl, by simp, fun j hj => ?_⟩⟩
    obtain rfl : j = 0 := by omega
    refine (cells_at (j := 0) (heap_alloc_at _ _ _ (by simp)) rfl).trans ?_
    rfl
  · repeat (first | with_reducible exact bel_refl _ | with_reducible apply bel_alloc)
end Go.Proofs.YtbhnmaghnnpboaaDoor

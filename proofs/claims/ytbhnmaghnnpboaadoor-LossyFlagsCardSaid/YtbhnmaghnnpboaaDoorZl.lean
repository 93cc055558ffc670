/- lossy: cas, told what can not be. -/
import Derived.Test.YtbhnmaghnnpboaaDoorZk
import Derived.BigRegion
namespace Go.Proofs.YtbhnmaghnnpboaaDoor
open Go.RowKit
attribute [local go_sem ↓] Go.wp_at_zero Go.wp_at_succ

set_option maxRecDepth 100000 in
set_option maxHeartbeats 4000000 in
theorem cas_other {B : Nat} {w : World} {rb mb g : Nat} {l : M.Mp} {is : List Ch} {losses : Int} {A0 : Option Addr} {cc : Nat} (h : RunSt B w rb mb g l is losses A0 cc) (cv ck cd : ByteArray) (cf ce ca : Int) (cq : Bool) (xw xv : ByteArray) (xd : ByteArray) (xf xe xc xb : Int) (xwc xwt xdn xq : Bool) (A SA : Option Addr) (n c m sc : Nat) (key : ByteArray) (now : Int) (told : ByteArray) (y : M.Item) (hx : M.mget l ck now = some y) (j : Nat) (_hj : j < is.length) (hv : y.ver = (j : Int) + 1) (h1 : (told.toList == [69, 88, 73, 83, 84, 83]) = false) (h2 : (told.toList == [83, 84, 79, 82, 69, 68]) = false) :
    Calls Tryd.prog 57 #[.pointer (some ⟨rb, 0, none⟩), .agg (#[Value.string cv, Value.string ck, Value.string cd, Value.int .u32 cf, Value.int .i64 ce, Value.int .u64 ca, Value.bool cq] : Array Value), .agg (#[Value.string xw, Value.string xv, Value.slice A n c, Value.string xd, Value.int .u32 xf, Value.int .i64 xe, Value.int .u64 xc, Value.int .u64 xb, Value.bool xwc, Value.bool xwt, Value.bool xdn, Value.bool xq, Value.string key, Value.slice SA m sc, Value.int .i64 now] : Array Value), .string told] w fun e w' => e = .returned (.bool false) ∧ Below B w w' := by
  have hrl : rb < w.heap.size := (Array.getElem?_eq_some_iff.1 h.hd).1
  have hB : B ≤ w.heap.size := by have := h.lo.1; omega
  have hW : Below w.heap.size w ((w.alloc (.cells (#[Value.string cv, Value.string ck, Value.string cd, Value.int .u32 cf, Value.int .i64 ce, Value.int .u64 ca, Value.bool cq] : Array Value) 83)).alloc (.cells (#[Value.string xw, Value.string xv, Value.slice A n c, Value.string xd, Value.int .u32 xf, Value.int .i64 xe, Value.int .u64 xc, Value.int .u64 xb, Value.bool xwc, Value.bool xwt, Value.bool xdn, Value.bool xq, Value.string key, Value.slice SA m sc, Value.int .i64 now] : Array Value) 32)) := bel_alloc (bel_alloc (bel_refl w) _) _
  have hq0 : ((w.alloc (.cells (#[Value.string cv, Value.string ck, Value.string cd, Value.int .u32 cf, Value.int .i64 ce, Value.int .u64 ca, Value.bool cq] : Array Value) 83)).alloc (.cells (#[Value.string xw, Value.string xv, Value.slice A n c, Value.string xd, Value.int .u32 xf, Value.int .i64 xe, Value.int .u64 xc, Value.int .u64 xb, Value.bool xwc, Value.bool xwt, Value.bool xdn, Value.bool xq, Value.string key, Value.slice SA m sc, Value.int .i64 now] : Array Value) 32)).heap[w.heap.size]? = some (.cells (#[Value.string cv, Value.string ck, Value.string cd, Value.int .u32 cf, Value.int .i64 ce, Value.int .u64 ca, Value.bool cq] : Array Value) 83) := (heap_alloc_old _ _ (by simp)).trans (heap_alloc_new w _)
  have hq1 : ((w.alloc (.cells (#[Value.string cv, Value.string ck, Value.string cd, Value.int .u32 cf, Value.int .i64 ce, Value.int .u64 ca, Value.bool cq] : Array Value) 83)).alloc (.cells (#[Value.string xw, Value.string xv, Value.slice A n c, Value.string xd, Value.int .u32 xf, Value.int .i64 xe, Value.int .u64 xc, Value.int .u64 xb, Value.bool xwc, Value.bool xwt, Value.bool xdn, Value.bool xq, Value.string key, Value.slice SA m sc, Value.int .i64 now] : Array Value) 32)).heap[w.heap.size + 1]? = some (.cells (#[Value.string xw, Value.string xv, Value.slice A n c, Value.string xd, Value.int .u32 xf, Value.int .i64 xe, Value.int .u64 xc, Value.int .u64 xb, Value.bool xwc, Value.bool xwt, Value.bool xdn, Value.bool xq, Value.string key, Value.slice SA m sc, Value.int .i64 now] : Array Value) 32) := heap_alloc_at _ _ _ (by simp)
  have hsz : w.heap.size + 1 < ((w.alloc (.cells (#[Value.string cv, Value.string ck, Value.string cd, Value.int .u32 cf, Value.int .i64 ce, Value.int .u64 ca, Value.bool cq] : Array Value) 83)).alloc (.cells (#[Value.string xw, Value.string xv, Value.slice A n c, Value.string xd, Value.int .u32 xf, Value.int .i64 xe, Value.int .u64 xc, Value.int .u64 xb, Value.bool xwc, Value.bool xwt, Value.bool xdn, Value.bool xq, Value.string key, Value.slice SA m sc, Value.int .i64 now] : Array Value) 32)).heap.size := by simp
  have H := Lib.hid (h.below hW)
  have HX := Lib.hid hx
  clear h hx
  obtain ⟨ykey, yval, yfl, yexp, yver⟩ := y
  simp only at hv
  subst hv
  go_enter Tryd.func57, Tryd.ntmps57
  go_wp2_with fail
  generalize (w.alloc (.cells (#[Value.string cv, Value.string ck, Value.string cd, Value.int .u32 cf, Value.int .i64 ce, Value.int .u64 ca, Value.bool cq] : Array Value) 83)).alloc (.cells (#[Value.string xw, Value.string xv, Value.slice A n c, Value.string xd, Value.int .u32 xf, Value.int .i64 xe, Value.int .u64 xc, Value.int .u64 xb, Value.bool xwc, Value.bool xwt, Value.bool xdn, Value.bool xq, Value.string key, Value.slice SA m sc, Value.int .i64 now] : Array Value) 32) = wz at *
  have k0 := cells_at (j := 0) H.out.hd rfl
  have hz0 := cells_at (j := 1) hq0 rfl
  have hz1 := cells_at (j := 14) hq1 rfl
  have HQ0 := Lib.hid hq0
  have HQ1 := Lib.hid hq1
  clear hq0 hq1
  go_cut [9, 10] from 11 to 22 (fun x9 x10 wx => ∃ q, x9 = .pointer (some ⟨q, 0, none⟩) ∧ x10 = .bool true ∧ wx.heap[q]? = some (.cells #[.string ykey, .string yval, .int .u32 yfl, .int .i64 yexp, .int .u64 ((j : Int) + 1)] 65) ∧ wz.heap.size ≤ q ∧ Below wz.heap.size wz wx)
  case first =>
    go_region_held3 (fun w' => w'.cell? ⟨rb, 0, none⟩ = some (.pointer (some ⟨mb, 0, none⟩)) ∧ w'.cell? ⟨w.heap.size, 1, none⟩ = some (.string ck) ∧ w'.cell? ⟨w.heap.size + 1, 14, none⟩ = some (.int .i64 now)) (first | (go_keep; done) | (simp [go_sem]; done) | (simp [*, go_sem]; done)) (first | (go_at_call 24; (with_reducible refine (mget_some mb g l ck now ⟨ykey, yval, yfl, yexp, (j : Int) + 1⟩ (wz.alloc (.cells #[.string ⟨#[]⟩, .string ⟨#[]⟩, .int .u32 0, .int .i64 0, .int .u64 0] 65)).drew ((H.out.below (bel_drew (bel_alloc (bel_refl wz) _))).map) HX.out).mono ?_); rintro e w6 ⟨rfl, hb6⟩; have hb7 : Below wz.heap.size wz w6 := bel_trans (bel_drew (bel_alloc (bel_refl wz) _)) hb6; have hk9 : w6.heap[wz.heap.size]? = some (.cells #[.string ⟨#[]⟩, .string ⟨#[]⟩, .int .u32 0, .int .i64 0, .int .u64 0] 65) := (hb6.block wz.heap.size (by simp)).trans (heap_alloc_new wz _); have hk10 : ∀ o, w6.cell? ⟨wz.heap.size, o, none⟩ = (#[Value.string ⟨#[]⟩, Value.string ⟨#[]⟩, Value.int .u32 0, Value.int .i64 0, Value.int .u64 0] : Array Value)[o]? := (fun o => cell_of_row w6 wz.heap.size o _ 65 (0, 0) hk9); have hk11 : ∀ o, w6.frozen? ⟨wz.heap.size, o, none⟩ = false := (fun o => froz_at hk9); have HK9 := Lib.hid hk9; clear hk9; have hk6 : ∀ o, w6.cell? ⟨w.heap.size, o, none⟩ = wz.cell? ⟨w.heap.size, o, none⟩ := (fun o => hb7.cell (p := ⟨w.heap.size, o, none⟩) (show w.heap.size < wz.heap.size by omega)); have hk7 : ∀ o, w6.cell? ⟨w.heap.size + 1, o, none⟩ = wz.cell? ⟨w.heap.size + 1, o, none⟩ := (fun o => hb7.cell (p := ⟨w.heap.size + 1, o, none⟩) (show w.heap.size + 1 < wz.heap.size by omega)); have hk8 : w6.cell? ⟨rb, 0, none⟩ = wz.cell? ⟨rb, 0, none⟩ := hb7.cell (p := ⟨rb, 0, none⟩) (show rb < wz.heap.size by omega)) | (go_at_call 24; (with_reducible refine (mget_some mb g l ck now ⟨ykey, yval, yfl, yexp, (j : Int) + 1⟩ wz.drew ((H.out.below (bel_drew (bel_refl wz))).map) HX.out).mono ?_); rintro e w6 ⟨rfl, hb6⟩; have hb7 : Below wz.heap.size wz w6 := bel_trans (bel_drew (bel_refl wz)) hb6; have hk6 : ∀ o, w6.cell? ⟨w.heap.size, o, none⟩ = wz.cell? ⟨w.heap.size, o, none⟩ := (fun o => hb7.cell (p := ⟨w.heap.size, o, none⟩) (show w.heap.size < wz.heap.size by omega)); have hk7 : ∀ o, w6.cell? ⟨w.heap.size + 1, o, none⟩ = wz.cell? ⟨w.heap.size + 1, o, none⟩ := (fun o => hb7.cell (p := ⟨w.heap.size + 1, o, none⟩) (show w.heap.size + 1 < wz.heap.size by omega)); have hk8 : w6.cell? ⟨rb, 0, none⟩ = wz.cell? ⟨rb, 0, none⟩ := hb7.cell (p := ⟨rb, 0, none⟩) (show rb < wz.heap.size by omega)))
    · go_wp2_with fail
      go_meet
      exact ⟨_, rfl, rfl, heap_alloc_new w6 _, hb7.size, bel_alloc hb7 _⟩
    · go_wp2_with fail
      go_meet
      exact ⟨_, rfl, rfl, put5 HK9.out _ _ _ _ _, Nat.le_refl _, below5 hb7 (Nat.le_refl _) _ _ _ _ _⟩
  case rest =>
  obtain ⟨q, rfl, rfl, hx9, hqz, hbx⟩ := hcut
  have HBX := Lib.hid hbx
  clear k0 hx9 hz0 hz1 hbx
  go_wp2_with fail
  go_ret
  exact ⟨rfl, (hW.trans (HBX.out.mono hW.size)).mono hB⟩

set_option maxRecDepth 100000 in
set_option maxHeartbeats 4000000 in
theorem cas_untold {B : Nat} {w : World} {rb mb g : Nat} {l : M.Mp} {is : List Ch} {losses : Int} {A0 : Option Addr} {cc : Nat} (h : RunSt B w rb mb g l is losses A0 cc) (cv ck cd : ByteArray) (cf ce ca : Int) (cq : Bool) (xw xv : ByteArray) (xd : ByteArray) (xf xe xc xb : Int) (xwc xwt xdn xq : Bool) (A SA : Option Addr) (n c m sc : Nat) (key : ByteArray) (now : Int) (_told : ByteArray) (y : M.Item) (hx : M.mget l ck now = some y) (j : Nat) (hj : j < is.length) (hv : y.ver = (j : Int) + 1) (hk : tellOk is[j].told ca = false) :
    Calls Tryd.prog 57 #[.pointer (some ⟨rb, 0, none⟩), .agg (#[Value.string cv, Value.string ck, Value.string cd, Value.int .u32 cf, Value.int .i64 ce, Value.int .u64 ca, Value.bool cq] : Array Value), .agg (#[Value.string xw, Value.string xv, Value.slice A n c, Value.string xd, Value.int .u32 xf, Value.int .i64 xe, Value.int .u64 xc, Value.int .u64 xb, Value.bool xwc, Value.bool xwt, Value.bool xdn, Value.bool xq, Value.string key, Value.slice SA m sc, Value.int .i64 now] : Array Value), .string ⟨#[83, 84, 79, 82, 69, 68]⟩] w fun e w' => e = .returned (.bool false) ∧ Below B w w' := by
  have hrl : rb < w.heap.size := (Array.getElem?_eq_some_iff.1 h.hd).1
  have hB : B ≤ w.heap.size := by have := h.lo.1; omega
  have hW : Below w.heap.size w ((w.alloc (.cells (#[Value.string cv, Value.string ck, Value.string cd, Value.int .u32 cf, Value.int .i64 ce, Value.int .u64 ca, Value.bool cq] : Array Value) 83)).alloc (.cells (#[Value.string xw, Value.string xv, Value.slice A n c, Value.string xd, Value.int .u32 xf, Value.int .i64 xe, Value.int .u64 xc, Value.int .u64 xb, Value.bool xwc, Value.bool xwt, Value.bool xdn, Value.bool xq, Value.string key, Value.slice SA m sc, Value.int .i64 now] : Array Value) 32)) := bel_alloc (bel_alloc (bel_refl w) _) _
  have hq0 : ((w.alloc (.cells (#[Value.string cv, Value.string ck, Value.string cd, Value.int .u32 cf, Value.int .i64 ce, Value.int .u64 ca, Value.bool cq] : Array Value) 83)).alloc (.cells (#[Value.string xw, Value.string xv, Value.slice A n c, Value.string xd, Value.int .u32 xf, Value.int .i64 xe, Value.int .u64 xc, Value.int .u64 xb, Value.bool xwc, Value.bool xwt, Value.bool xdn, Value.bool xq, Value.string key, Value.slice SA m sc, Value.int .i64 now] : Array Value) 32)).heap[w.heap.size]? = some (.cells (#[Value.string cv, Value.string ck, Value.string cd, Value.int .u32 cf, Value.int .i64 ce, Value.int .u64 ca, Value.bool cq] : Array Value) 83) := (heap_alloc_old _ _ (by simp)).trans (heap_alloc_new w _)
  have hq1 : ((w.alloc (.cells (#[Value.string cv, Value.string ck, Value.string cd, Value.int .u32 cf, Value.int .i64 ce, Value.int .u64 ca, Value.bool cq] : Array Value) 83)).alloc (.cells (#[Value.string xw, Value.string xv, Value.slice A n c, Value.string xd, Value.int .u32 xf, Value.int .i64 xe, Value.int .u64 xc, Value.int .u64 xb, Value.bool xwc, Value.bool xwt, Value.bool xdn, Value.bool xq, Value.string key, Value.slice SA m sc, Value.int .i64 now] : Array Value) 32)).heap[w.heap.size + 1]? = some (.cells (#[Value.string xw, Value.string xv, Value.slice A n c, Value.string xd, Value.int .u32 xf, Value.int .i64 xe, Value.int .u64 xc, Value.int .u64 xb, Value.bool xwc, Value.bool xwt, Value.bool xdn, Value.bool xq, Value.string key, Value.slice SA m sc, Value.int .i64 now] : Array Value) 32) := heap_alloc_at _ _ _ (by simp)
  have hsz : w.heap.size + 1 < ((w.alloc (.cells (#[Value.string cv, Value.string ck, Value.string cd, Value.int .u32 cf, Value.int .i64 ce, Value.int .u64 ca, Value.bool cq] : Array Value) 83)).alloc (.cells (#[Value.string xw, Value.string xv, Value.slice A n c, Value.string xd, Value.int .u32 xf, Value.int .i64 xe, Value.int .u64 xc, Value.int .u64 xb, Value.bool xwc, Value.bool xwt, Value.bool xdn, Value.bool xq, Value.string key, Value.slice SA m sc, Value.int .i64 now] : Array Value) 32)).heap.size := by simp
  have H := Lib.hid (h.below hW)
  have HX := Lib.hid hx
  have HK := Lib.hid hk
  clear h hx hk
  obtain ⟨ykey, yval, yfl, yexp, yver⟩ := y
  simp only at hv
  subst hv
  go_enter Tryd.func57, Tryd.ntmps57
  go_wp2_with fail
  generalize (w.alloc (.cells (#[Value.string cv, Value.string ck, Value.string cd, Value.int .u32 cf, Value.int .i64 ce, Value.int .u64 ca, Value.bool cq] : Array Value) 83)).alloc (.cells (#[Value.string xw, Value.string xv, Value.slice A n c, Value.string xd, Value.int .u32 xf, Value.int .i64 xe, Value.int .u64 xc, Value.int .u64 xb, Value.bool xwc, Value.bool xwt, Value.bool xdn, Value.bool xq, Value.string key, Value.slice SA m sc, Value.int .i64 now] : Array Value) 32) = wz at *
  have k0 := cells_at (j := 0) H.out.hd rfl
  have hz0 := cells_at (j := 1) hq0 rfl
  have hz1 := cells_at (j := 14) hq1 rfl
  have HQ0 := Lib.hid hq0
  have HQ1 := Lib.hid hq1
  clear hq0 hq1
  go_cut [9, 10] from 11 to 22 (fun x9 x10 wx => ∃ q, x9 = .pointer (some ⟨q, 0, none⟩) ∧ x10 = .bool true ∧ wx.heap[q]? = some (.cells #[.string ykey, .string yval, .int .u32 yfl, .int .i64 yexp, .int .u64 ((j : Int) + 1)] 65) ∧ wz.heap.size ≤ q ∧ Below wz.heap.size wz wx)
  case first =>
    go_region_held3 (fun w' => w'.cell? ⟨rb, 0, none⟩ = some (.pointer (some ⟨mb, 0, none⟩)) ∧ w'.cell? ⟨w.heap.size, 1, none⟩ = some (.string ck) ∧ w'.cell? ⟨w.heap.size + 1, 14, none⟩ = some (.int .i64 now)) (first | (go_keep; done) | (simp [go_sem]; done) | (simp [*, go_sem]; done)) (first | (go_at_call 24; (with_reducible refine (mget_some mb g l ck now ⟨ykey, yval, yfl, yexp, (j : Int) + 1⟩ (wz.alloc (.cells #[.string ⟨#[]⟩, .string ⟨#[]⟩, .int .u32 0, .int .i64 0, .int .u64 0] 65)).drew ((H.out.below (bel_drew (bel_alloc (bel_refl wz) _))).map) HX.out).mono ?_); rintro e w6 ⟨rfl, hb6⟩; have hb7 : Below wz.heap.size wz w6 := bel_trans (bel_drew (bel_alloc (bel_refl wz) _)) hb6; have hk9 : w6.heap[wz.heap.size]? = some (.cells #[.string ⟨#[]⟩, .string ⟨#[]⟩, .int .u32 0, .int .i64 0, .int .u64 0] 65) := (hb6.block wz.heap.size (by simp)).trans (heap_alloc_new wz _); have hk10 : ∀ o, w6.cell? ⟨wz.heap.size, o, none⟩ = (#[Value.string ⟨#[]⟩, Value.string ⟨#[]⟩, Value.int .u32 0, Value.int .i64 0, Value.int .u64 0] : Array Value)[o]? := (fun o => cell_of_row w6 wz.heap.size o _ 65 (0, 0) hk9); have hk11 : ∀ o, w6.frozen? ⟨wz.heap.size, o, none⟩ = false := (fun o => froz_at hk9); have HK9 := Lib.hid hk9; clear hk9; have hk6 : ∀ o, w6.cell? ⟨w.heap.size, o, none⟩ = wz.cell? ⟨w.heap.size, o, none⟩ := (fun o => hb7.cell (p := ⟨w.heap.size, o, none⟩) (show w.heap.size < wz.heap.size by omega)); have hk7 : ∀ o, w6.cell? ⟨w.heap.size + 1, o, none⟩ = wz.cell? ⟨w.heap.size + 1, o, none⟩ := (fun o => hb7.cell (p := ⟨w.heap.size + 1, o, none⟩) (show w.heap.size + 1 < wz.heap.size by omega)); have hk8 : w6.cell? ⟨rb, 0, none⟩ = wz.cell? ⟨rb, 0, none⟩ := hb7.cell (p := ⟨rb, 0, none⟩) (show rb < wz.heap.size by omega)) | (go_at_call 24; (with_reducible refine (mget_some mb g l ck now ⟨ykey, yval, yfl, yexp, (j : Int) + 1⟩ wz.drew ((H.out.below (bel_drew (bel_refl wz))).map) HX.out).mono ?_); rintro e w6 ⟨rfl, hb6⟩; have hb7 : Below wz.heap.size wz w6 := bel_trans (bel_drew (bel_refl wz)) hb6; have hk6 : ∀ o, w6.cell? ⟨w.heap.size, o, none⟩ = wz.cell? ⟨w.heap.size, o, none⟩ := (fun o => hb7.cell (p := ⟨w.heap.size, o, none⟩) (show w.heap.size < wz.heap.size by omega)); have hk7 : ∀ o, w6.cell? ⟨w.heap.size + 1, o, none⟩ = wz.cell? ⟨w.heap.size + 1, o, none⟩ := (fun o => hb7.cell (p := ⟨w.heap.size + 1, o, none⟩) (show w.heap.size + 1 < wz.heap.size by omega)); have hk8 : w6.cell? ⟨rb, 0, none⟩ = wz.cell? ⟨rb, 0, none⟩ := hb7.cell (p := ⟨rb, 0, none⟩) (show rb < wz.heap.size by omega)))
    · go_wp2_with fail
      go_meet
      exact ⟨_, rfl, rfl, heap_alloc_new w6 _, hb7.size, bel_alloc hb7 _⟩
    · go_wp2_with fail
      go_meet
      exact ⟨_, rfl, rfl, put5 HK9.out _ _ _ _ _, Nat.le_refl _, below5 hb7 (Nat.le_refl _) _ _ _ _ _⟩
  case rest =>
  obtain ⟨q, rfl, rfl, hx9, hqz, hbx⟩ := hcut
  have q4 := cells_at (j := 4) hx9 rfl
  have qc := cells_at (j := 5) ((hbx.block w.heap.size (by omega)).trans HQ0.out) rfl
  have HT := Lib.hid (tell_no (H.out.below hbx) j hj ca HK.out)
  have HBX := Lib.hid hbx
  clear k0 hx9 hz0 hz1 hbx
  go_wp2_with (go_at_call 65; refine HT.out.mono ?_; rintro e w9 ⟨rfl, rfl⟩)
  go_ret
  exact ⟨rfl, (hW.trans (HBX.out.mono hW.size)).mono hB⟩
end Go.Proofs.YtbhnmaghnnpboaaDoor
/- lossy: cas, told that it was stored. -/
namespace Go.Proofs.YtbhnmaghnnpboaaDoor
open Go.RowKit
attribute [local go_sem ↓] Go.wp_at_zero Go.wp_at_succ

set_option maxRecDepth 100000 in
set_option maxHeartbeats 4000000 in
theorem cas_stored {B : Nat} {w : World} {rb mb g : Nat} {l : M.Mp} {is : List Ch} {losses : Int} {A0 : Option Addr} {cc : Nat} (h : RunSt B w rb mb g l is losses A0 cc) (cv ck cd : ByteArray) (cf ce ca : Int) (cq : Bool) (xw xv : ByteArray) (xd : ByteArray) (xf xe xc xb : Int) (xwc xwt xdn xq : Bool) (A SA : Option Addr) (n c m sc : Nat) (key : ByteArray) (now : Int) (_told : ByteArray) (y : M.Item) (hx : M.mget l ck now = some y) (j : Nat) (hj : j < is.length) (hv : y.ver = (j : Int) + 1) (hk : tellOk is[j].told ca = true) (ht : Tabs w) (h7 : 7 ≤ B) (hg : goodF ⟨M.sStore, cv, [ck], cd, cf, ce, y.ver, 0, false, false, false, cq⟩ = true) (he : I64 ce) (hn : I64 now) (hsm : Small l) (_hl : 0 ≤ losses ∧ losses < 9223372036854775807) (hs : is.length < 1000000) :
    Calls Tryd.prog 57 #[.pointer (some ⟨rb, 0, none⟩), .agg (#[Value.string cv, Value.string ck, Value.string cd, Value.int .u32 cf, Value.int .i64 ce, Value.int .u64 ca, Value.bool cq] : Array Value), .agg (#[Value.string xw, Value.string xv, Value.slice A n c, Value.string xd, Value.int .u32 xf, Value.int .i64 xe, Value.int .u64 xc, Value.int .u64 xb, Value.bool xwc, Value.bool xwt, Value.bool xdn, Value.bool xq, Value.string key, Value.slice SA m sc, Value.int .i64 now] : Array Value), .string ⟨#[83, 84, 79, 82, 69, 68]⟩] w (Stepped B w rb mb g (true, ⟨(M.store l cv ck cd cf ce y.ver now (is.length + 1)).2, setTold (is.map Ch.sees) y.ver ca ++ [(0, [])], losses⟩)) := by
  have hrl : rb < w.heap.size := (Array.getElem?_eq_some_iff.1 h.hd).1
  have hB : B ≤ w.heap.size := by have := h.lo.1; omega
  have hW : Below w.heap.size w ((w.alloc (.cells (#[Value.string cv, Value.string ck, Value.string cd, Value.int .u32 cf, Value.int .i64 ce, Value.int .u64 ca, Value.bool cq] : Array Value) 83)).alloc (.cells (#[Value.string xw, Value.string xv, Value.slice A n c, Value.string xd, Value.int .u32 xf, Value.int .i64 xe, Value.int .u64 xc, Value.int .u64 xb, Value.bool xwc, Value.bool xwt, Value.bool xdn, Value.bool xq, Value.string key, Value.slice SA m sc, Value.int .i64 now] : Array Value) 32)) := bel_alloc (bel_alloc (bel_refl w) _) _
  have hq0 : ((w.alloc (.cells (#[Value.string cv, Value.string ck, Value.string cd, Value.int .u32 cf, Value.int .i64 ce, Value.int .u64 ca, Value.bool cq] : Array Value) 83)).alloc (.cells (#[Value.string xw, Value.string xv, Value.slice A n c, Value.string xd, Value.int .u32 xf, Value.int .i64 xe, Value.int .u64 xc, Value.int .u64 xb, Value.bool xwc, Value.bool xwt, Value.bool xdn, Value.bool xq, Value.string key, Value.slice SA m sc, Value.int .i64 now] : Array Value) 32)).heap[w.heap.size]? = some (.cells (#[Value.string cv, Value.string ck, Value.string cd, Value.int .u32 cf, Value.int .i64 ce, Value.int .u64 ca, Value.bool cq] : Array Value) 83) := (heap_alloc_old _ _ (by simp)).trans (heap_alloc_new w _)
  have hq1 : ((w.alloc (.cells (#[Value.string cv, Value.string ck, Value.string cd, Value.int .u32 cf, Value.int .i64 ce, Value.int .u64 ca, Value.bool cq] : Array Value) 83)).alloc (.cells (#[Value.string xw, Value.string xv, Value.slice A n c, Value.string xd, Value.int .u32 xf, Value.int .i64 xe, Value.int .u64 xc, Value.int .u64 xb, Value.bool xwc, Value.bool xwt, Value.bool xdn, Value.bool xq, Value.string key, Value.slice SA m sc, Value.int .i64 now] : Array Value) 32)).heap[w.heap.size + 1]? = some (.cells (#[Value.string xw, Value.string xv, Value.slice A n c, Value.string xd, Value.int .u32 xf, Value.int .i64 xe, Value.int .u64 xc, Value.int .u64 xb, Value.bool xwc, Value.bool xwt, Value.bool xdn, Value.bool xq, Value.string key, Value.slice SA m sc, Value.int .i64 now] : Array Value) 32) := heap_alloc_at _ _ _ (by simp)
  have hsz : w.heap.size + 1 < ((w.alloc (.cells (#[Value.string cv, Value.string ck, Value.string cd, Value.int .u32 cf, Value.int .i64 ce, Value.int .u64 ca, Value.bool cq] : Array Value) 83)).alloc (.cells (#[Value.string xw, Value.string xv, Value.slice A n c, Value.string xd, Value.int .u32 xf, Value.int .i64 xe, Value.int .u64 xc, Value.int .u64 xb, Value.bool xwc, Value.bool xwt, Value.bool xdn, Value.bool xq, Value.string key, Value.slice SA m sc, Value.int .i64 now] : Array Value) 32)).heap.size := by simp
  have H := Lib.hid (h.below hW)
  have HX := Lib.hid hx
  have HK := Lib.hid hk
  have HL := Lib.hid (show setTold (is.map Ch.sees) y.ver ca = (is.set j { is[j] with told := ca }).map Ch.sees by rw [hv, setTold_sees is j hj])
  have HDO := Lib.hid (show doF l ⟨M.sStore, cv, [ck], cd, cf, ce, y.ver, 0, false, false, false, cq⟩ now (is.length + 1) = (some (M.store l cv ck cd cf ce y.ver now (is.length + 1)).1, (M.store l cv ck cd cf ce y.ver now (is.length + 1)).2) by
    unfold doF
    rw [show M.Cmd.of ⟨M.sStore, cv, [ck], cd, cf, ce, y.ver, 0, false, false, false, cq⟩ = .store cv ck cd cf ce y.ver cq from rfl]
    simp only [hg, if_true])
  have HOK := Lib.hid (show CmdOk ⟨M.sStore, cv, [ck], cd, cf, ce, y.ver, 0, false, false, false, cq⟩ from ⟨he, ⟨by show (0 : Int) ≤ 0; omega, by show (0 : Int) < _; omega⟩, by show 0 ≤ y.ver ∧ y.ver < _; have := h.small; omega⟩)
  have HT7 := Lib.hid (ht.bel hW)
  have HN := Lib.hid hn
  have HSM := Lib.hid hsm
  have hss := h.small
  have hgl := h.map.at_.lt
  have hlo := h.lo
  clear h hx hk ht hg he hn hsm
  generalize hr1 : (M.store l cv ck cd cf ce y.ver now (is.length + 1)).1 = t1 at HDO
  generalize hr2 : (M.store l cv ck cd cf ce y.ver now (is.length + 1)).2 = l2 at HDO ⊢
  clear hr1 hr2
  obtain ⟨ykey, yval, yfl, yexp, yver⟩ := y
  simp only at hv
  subst hv
  go_enter Tryd.func57, Tryd.ntmps57
  go_wp2_with fail
  generalize (w.alloc (.cells (#[Value.string cv, Value.string ck, Value.string cd, Value.int .u32 cf, Value.int .i64 ce, Value.int .u64 ca, Value.bool cq] : Array Value) 83)).alloc (.cells (#[Value.string xw, Value.string xv, Value.slice A n c, Value.string xd, Value.int .u32 xf, Value.int .i64 xe, Value.int .u64 xc, Value.int .u64 xb, Value.bool xwc, Value.bool xwt, Value.bool xdn, Value.bool xq, Value.string key, Value.slice SA m sc, Value.int .i64 now] : Array Value) 32) = wz at *
  have k0 := cells_at (j := 0) H.out.hd rfl
  have hz0 := cells_at (j := 1) hq0 rfl
  have hz1 := cells_at (j := 14) hq1 rfl
  have HQ0 := Lib.hid hq0
  have HQ1 := Lib.hid hq1
  clear hq0 hq1
  go_cut [9, 10] from 11 to 22 (fun x9 x10 wx => ∃ q, x9 = .pointer (some ⟨q, 0, none⟩) ∧ x10 = .bool true ∧ wx.heap[q]? = some (.cells #[.string ykey, .string yval, .int .u32 yfl, .int .i64 yexp, .int .u64 ((j : Int) + 1)] 65) ∧ wz.heap.size ≤ q ∧ Below wz.heap.size wz wx)
  case first =>
    go_region_held3 (fun w' => w'.cell? ⟨rb, 0, none⟩ = some (.pointer (some ⟨mb, 0, none⟩)) ∧ w'.cell? ⟨w.heap.size, 1, none⟩ = some (.string ck) ∧ w'.cell? ⟨w.heap.size + 1, 14, none⟩ = some (.int .i64 now)) (first | (go_keep; done) | (simp [go_sem]; done) | (simp [*, go_sem]; done)) (first | (go_at_call 24; (with_reducible refine (mget_some mb g l ck now ⟨ykey, yval, yfl, yexp, (j : Int) + 1⟩ (wz.alloc (.cells #[.string ⟨#[]⟩, .string ⟨#[]⟩, .int .u32 0, .int .i64 0, .int .u64 0] 65)).drew ((H.out.below (bel_drew (bel_alloc (bel_refl wz) _))).map) HX.out).mono ?_); rintro e w6 ⟨rfl, hb6⟩; have hb7 : Below wz.heap.size wz w6 := bel_trans (bel_drew (bel_alloc (bel_refl wz) _)) hb6; have hk9 : w6.heap[wz.heap.size]? = some (.cells #[.string ⟨#[]⟩, .string ⟨#[]⟩, .int .u32 0, .int .i64 0, .int .u64 0] 65) := (hb6.block wz.heap.size (by simp)).trans (heap_alloc_new wz _); have hk10 : ∀ o, w6.cell? ⟨wz.heap.size, o, none⟩ = (#[Value.string ⟨#[]⟩, Value.string ⟨#[]⟩, Value.int .u32 0, Value.int .i64 0, Value.int .u64 0] : Array Value)[o]? := (fun o => cell_of_row w6 wz.heap.size o _ 65 (0, 0) hk9); have hk11 : ∀ o, w6.frozen? ⟨wz.heap.size, o, none⟩ = false := (fun o => froz_at hk9); have HK9 := Lib.hid hk9; clear hk9; have hk6 : ∀ o, w6.cell? ⟨w.heap.size, o, none⟩ = wz.cell? ⟨w.heap.size, o, none⟩ := (fun o => hb7.cell (p := ⟨w.heap.size, o, none⟩) (show w.heap.size < wz.heap.size by omega)); have hk7 : ∀ o, w6.cell? ⟨w.heap.size + 1, o, none⟩ = wz.cell? ⟨w.heap.size + 1, o, none⟩ := (fun o => hb7.cell (p := ⟨w.heap.size + 1, o, none⟩) (show w.heap.size + 1 < wz.heap.size by omega)); have hk8 : w6.cell? ⟨rb, 0, none⟩ = wz.cell? ⟨rb, 0, none⟩ := hb7.cell (p := ⟨rb, 0, none⟩) (show rb < wz.heap.size by omega)) | (go_at_call 24; (with_reducible refine (mget_some mb g l ck now ⟨ykey, yval, yfl, yexp, (j : Int) + 1⟩ wz.drew ((H.out.below (bel_drew (bel_refl wz))).map) HX.out).mono ?_); rintro e w6 ⟨rfl, hb6⟩; have hb7 : Below wz.heap.size wz w6 := bel_trans (bel_drew (bel_refl wz)) hb6; have hk6 : ∀ o, w6.cell? ⟨w.heap.size, o, none⟩ = wz.cell? ⟨w.heap.size, o, none⟩ := (fun o => hb7.cell (p := ⟨w.heap.size, o, none⟩) (show w.heap.size < wz.heap.size by omega)); have hk7 : ∀ o, w6.cell? ⟨w.heap.size + 1, o, none⟩ = wz.cell? ⟨w.heap.size + 1, o, none⟩ := (fun o => hb7.cell (p := ⟨w.heap.size + 1, o, none⟩) (show w.heap.size + 1 < wz.heap.size by omega)); have hk8 : w6.cell? ⟨rb, 0, none⟩ = wz.cell? ⟨rb, 0, none⟩ := hb7.cell (p := ⟨rb, 0, none⟩) (show rb < wz.heap.size by omega)))
    · go_wp2_with fail
      go_meet
      exact ⟨_, rfl, rfl, heap_alloc_new w6 _, hb7.size, bel_alloc hb7 _⟩
    · go_wp2_with fail
      go_meet
      exact ⟨_, rfl, rfl, put5 HK9.out _ _ _ _ _, Nat.le_refl _, below5 hb7 (Nat.le_refl _) _ _ _ _ _⟩
  case rest =>
  obtain ⟨q, rfl, rfl, hx9, hqz, hbx⟩ := hcut
  have q4 := cells_at (j := 4) hx9 rfl
  have qb := (hbx.block w.heap.size (by omega)).trans HQ0.out
  have qc := cells_at (j := 5) qb rfl
  have HT := Lib.hid (tell_ok (H.out.below hbx) j hj ca HK.out)
  have HXB := Lib.hid hx9
  have HQB := Lib.hid qb
  have HQS := Lib.hid ((hbx.block (w.heap.size + 1) (by omega)).trans HQ1.out)
  have HT8 := Lib.hid (HT7.out.bel hbx)
  have HBX := Lib.hid ((hW.trans (hbx.mono hW.size)).mono hB)
  have hgc : g < wc.heap.size := by have := hbx.size; omega
  have hrc : rb < wc.heap.size := by have := hbx.size; omega
  have hwc : w.heap.size + 1 < wc.heap.size := by have := hbx.size; omega
  clear k0 hx9 hz0 hz1 hbx qb
  go_upto_region 10 with (go_at_call 65; refine HT.out.mono ?_; rintro e w9 ⟨rfl, hr9, hb9, hk9⟩; have q49 := cells_at (j := 4) (hk9 _ _ HXB.out (fun _ e => by cases e)) rfl; have e0 := hk9 _ _ HQB.out (fun _ e => by cases e); have eS := hk9 _ _ HQS.out (fun _ e => by cases e); have z0 : ∀ o, w9.cell? ⟨w.heap.size, o, none⟩ = ((#[Value.string cv, Value.string ck, Value.string cd, Value.int .u32 cf, Value.int .i64 ce, Value.int .u64 ca, Value.bool cq] : Array Value))[o]? := (fun o => cell_of_row w9 w.heap.size o _ 83 (0, 0) e0); have f5 : w9.frozen? ⟨w.heap.size, 5, none⟩ = false := froz_at e0; have HR9 := Lib.hid hr9; have HB9 := Lib.hid hb9; have HE0 := Lib.hid e0; have HES := Lib.hid eS; have HK9 := Lib.hid hk9; clear hr9 hb9 hk9 e0 eS)
  have hr1 := HR9.out.other HE0.out (by decide) (by decide) (by decide) (by decide) 5 (.int .u64 ((j : Int) + 1))
  have p0 : (w9.setCell ⟨w.heap.size, 5, none⟩ (.int .u64 ((j : Int) + 1))).heap[w.heap.size]? = some (.cells (#[Value.string cv, Value.string ck, Value.string cd, Value.int .u32 cf, Value.int .i64 ce, Value.int .u64 ((j : Int) + 1), Value.bool cq] : Array Value) 83) := heap_put _ HE0.out
  have pS : (w9.setCell ⟨w.heap.size, 5, none⟩ (.int .u64 ((j : Int) + 1))).heap[w.heap.size + 1]? = some (.cells (#[Value.string xw, Value.string xv, Value.slice A n c, Value.string xd, Value.int .u32 xf, Value.int .i64 xe, Value.int .u64 xc, Value.int .u64 xb, Value.bool xwc, Value.bool xwt, Value.bool xdn, Value.bool xq, Value.string key, Value.slice SA m sc, Value.int .i64 now] : Array Value) 32) := by rw [Below.heap_setCell _ _ _ _ (by show w.heap.size + 1 ≠ w.heap.size; omega)]; exact HES.out
  have hb1 : Below B w (w9.setCell ⟨w.heap.size, 5, none⟩ (.int .u64 ((j : Int) + 1))) := (HBX.out.trans HB9.out).setCell (by exact hB) _
  have hT1 := HT8.out.below (Below.setCell HB9.out (p := ⟨w.heap.size, 5, none⟩) (by exact hB) (.int .u64 ((j : Int) + 1))) h7
  clear z0 f5 q4 qc q49 HES HE0 HB9 HBX HT8 HQB HQS HT HR9 HXB
  generalize w9.setCell ⟨w.heap.size, 5, none⟩ (.int .u64 ((j : Int) + 1)) = wy at *
  obtain ⟨is', his⟩ : ∃ is', is' = is.set j { is[j] with told := ca } := ⟨_, rfl⟩
  rw [← his] at hr1
  have hlen : is'.length = is.length := by rw [his, List.length_set]
  have HDO2 := HDO.out
  rw [← hlen] at HDO2
  have HDO3 := Lib.hid HDO2
  have HL2 := HL.out
  rw [← his] at HL2
  have HL3 := Lib.hid HL2
  have hs' : is'.length < 1000000 := by omega
  have k0 := cells_at (j := 0) hr1.hd rfl
  have z0 : ∀ o, wy.cell? ⟨w.heap.size, o, none⟩ = ((#[Value.string cv, Value.string ck, Value.string cd, Value.int .u32 cf, Value.int .i64 ce, Value.int .u64 ((j : Int) + 1), Value.bool cq] : Array Value))[o]? := fun o => cell_of_row wy w.heap.size o _ 83 (0, 0) p0
  have zS := cells_at (j := 14) pS rfl
  have hgy : g < wy.heap.size := hr1.map.at_.lt
  have hry : rb < wy.heap.size := (Array.getElem?_eq_some_iff.1 hr1.hd).1
  have hwy : w.heap.size + 1 < wy.heap.size := (Array.getElem?_eq_some_iff.1 pS).1
  have hrg : rb ≠ g := fun e => by
    obtain ⟨es, clk, hh, _⟩ := hr1.map.at_
    rw [← e, hr1.hd] at hh; cases hh
  have HR1 := Lib.hid hr1
  have HB1 := Lib.hid hb1
  have HT1 := Lib.hid hT1
  have HIS := Lib.hid his
  clear hr1 hb1 hT1 p0 pS HDO2 HL2 hlen his
  go_region_held3 (fun w' => w'.cell? ⟨rb, 0, none⟩ = some (.pointer (some ⟨mb, 0, none⟩)) ∧ w'.cell? ⟨w.heap.size, 0, none⟩ = some (.string cv) ∧ w'.cell? ⟨w.heap.size, 1, none⟩ = some (.string ck) ∧ w'.cell? ⟨w.heap.size, 2, none⟩ = some (.string cd) ∧ w'.cell? ⟨w.heap.size, 3, none⟩ = some (.int .u32 cf) ∧ w'.cell? ⟨w.heap.size, 4, none⟩ = some (.int .i64 ce) ∧ w'.cell? ⟨w.heap.size, 5, none⟩ = some (.int .u64 ((j : Int) + 1)) ∧ w'.cell? ⟨w.heap.size, 6, none⟩ = some (.bool cq) ∧ w'.cell? ⟨w.heap.size + 1, 14, none⟩ = some (.int .i64 now)) (first | (go_keep; done) | (simp [go_sem]; done) | (simp [*, go_sem]; done)) (first | (go_at_call 67; (with_reducible refine (to_store cv ck cd cf ce ((j : Int) + 1) cq wy.drew).mono ?_); rintro e w10 ⟨KA, rfl, hrk, hb10⟩; have HRK := Lib.hid hrk; have hbz := bel_trans (bel_drew (bel_refl wy)) hb10; have hk6 : ∀ o, w10.cell? ⟨w.heap.size, o, none⟩ = wy.cell? ⟨w.heap.size, o, none⟩ := (fun o => hbz.cell (p := ⟨w.heap.size, o, none⟩) (show w.heap.size < wy.heap.size by omega)); have hk7 : ∀ o, w10.cell? ⟨w.heap.size + 1, o, none⟩ = wy.cell? ⟨w.heap.size + 1, o, none⟩ := (fun o => hbz.cell (p := ⟨w.heap.size + 1, o, none⟩) (show w.heap.size + 1 < wy.heap.size by omega)); have hk8 : w10.cell? ⟨rb, 0, none⟩ = wy.cell? ⟨rb, 0, none⟩ := hbz.cell (p := ⟨rb, 0, none⟩) (show rb < wy.heap.size by omega); clear hrk) | (go_at_call 58; (with_reducible refine (next_any (HR1.out.below hbz)).mono ?_); rintro e w11 ⟨rfl, rfl⟩) | (go_at_call 27; (with_reducible refine (do_any mb g l ⟨M.sStore, cv, [ck], cd, cf, ce, (j : Int) + 1, 0, false, false, false, cq⟩ KA 1 1 now ((is'.length : Int) + 1) w10 (HR1.out.below hbz).map (HT1.out.bel hbz) HRK.out (show M.sStore ≠ M.sGet by decide) HOK.out HN.out HSM.out).mono ?_); rw [HDO3.out]; rintro e w12 ⟨v, rfl, _, hm12, hg12⟩; have HM12 := Lib.hid hm12; have hk9 : ∀ o, w12.cell? ⟨w.heap.size, o, none⟩ = w10.cell? ⟨w.heap.size, o, none⟩ := (fun o => World.cell?_of_block (hg12.block w.heap.size (by have := hb10.size; simp at this; omega) (fun e => by injection e with e; omega))); have hk10 : ∀ o, w12.cell? ⟨w.heap.size + 1, o, none⟩ = w10.cell? ⟨w.heap.size + 1, o, none⟩ := (fun o => World.cell?_of_block (hg12.block (w.heap.size + 1) (by have := hb10.size; simp at this; omega) (fun e => by injection e with e; omega))); have hk11 : w12.cell? ⟨rb, 0, none⟩ = w10.cell? ⟨rb, 0, none⟩ := World.cell?_of_block (hg12.block rb (by have := hb10.size; simp at this; omega) (fun e => by injection e with e; exact hrg e)); clear hm12))
  have hr12 := (HR1.out.below hbz).mapped hg12 HM12.out
  obtain ⟨A', c', w13, hrun, hg13, e1, e2, hR13⟩ := hr12.push_run hs'
  obtain ⟨k1, k2, k3⟩ := hr12.push_keep hg13 (.slice A' (is'.length + 1) c')
  have hb12 : Below B w w12 := ⟨hg12.os.trans (HB1.out.trans (hbz.mono (by omega))).os, hg12.tape.trans (HB1.out.trans (hbz.mono (by omega))).tape, hg12.output.trans (HB1.out.trans (hbz.mono (by omega))).output, Nat.le_trans (HB1.out.trans (hbz.mono (by omega))).size hg12.size, fun q hq => (hg12.block q (by have := hbz.size; omega) (fun e => by injection e with e; omega)).trans ((HB1.out.trans (hbz.mono (by omega))).block q hq)⟩
  have q1 := cells_at (j := 1) hr12.hd rfl
  have HR13 := Lib.hid hR13
  have HK2 := Lib.hid (hb12.trans k2)
  have HRUN := Lib.hid hrun
  clear hR13 hg13 hr12 hrun k1 k2 k3 hb12 hg12 hk6 hk7 hk8 hk9 hk10 hk11 hbz hb10 z0 zS k0
  go_wp2_with (at_builtin; refine wpList_append_eq rfl _ _ 57 rfl _ _ rfl rfl 57 rfl _ _ HRUN.out ?_)
  go_ret
  refine ⟨rfl, HK2.out, fun _ => ⟨_, _, _, HR13.out, ?_⟩⟩
  rw [List.map_append, ← HL3.out]; rfl
end Go.Proofs.YtbhnmaghnnpboaaDoor
/- lossy: cas, whole; what Do hands out; changes where something was _told. -/
namespace Go.Proofs.YtbhnmaghnnpboaaDoor
open Go.RowKit

/-- What Do hands out: the slice reads as answers of that text. -/
def DoOut (w : World) (mb g : Nat) (r : Option ByteArray × M.Mp) (e : Ending) (w' : World) : Prop :=
  ∃ A n c L, e = .returned (.slice A n c) ∧ RdA w' w'.heap.size A n L ∧ textF L = (r.1.getD ⟨#[]⟩, r.1.isSome) ∧ (n = if r.1.isSome then 1 else 0) ∧ MapSt w' mb g r.2 ∧ w.grownBy w' (some g)
theorem Dod.out {w : World} {mb g : Nat} {r : Option ByteArray × M.Mp} {e : Ending} {w' : World} (h : Dod w mb g r e w') : DoOut w mb g r e w' := by
  obtain ⟨t, l⟩ := r
  cases t with
  | none =>
    obtain ⟨he, hm, hg⟩ := h
    exact ⟨none, 0, 0, [], he, ⟨rfl, fun h => by omega⟩, rfl, rfl, hm, hg⟩
  | some t =>
    obtain ⟨v, he, hr, hm, hg⟩ := h
    obtain ⟨A, rfl, hrd⟩ := RdA.of_row (a := M.line t) hr
    exact ⟨A, 1, 1, [M.line t], he, hrd, rfl, rfl, hm, hg⟩

theorem changes_nz (K : Value) (c : M.C) (told : ByteArray) (w : World) (h : 0 < told.size) :
    Calls Tryd.prog 59 #[cV K c, .string told] w fun e w' => e = .returned (.bool (changesF c told)) ∧ Below w.heap.size w w' := by
  cases c with
  | arith key by_ down q => exact changes_arith key by_ down q told w h
  | _ => exact changes_other K _ told w (fun _ _ _ _ e => by cases e)

theorem eqs_iff (a : ByteArray) (b : ByteArray) (l : List UInt8) (hl : b.toList = l) : eqs a l = decide (a = b) := by
  unfold eqs
  rw [Bool.eq_iff_iff, beq_iff_eq, decide_eq_true_eq, ← hl]
  exact Eq.to_iff (tl_inj a b)
theorem tEX_l : M.tEX.toList = [69, 88, 73, 83, 84, 83] := by rw [ByteArray.toList_eq]; rfl
theorem tST_l : M.tSTORED.toList = [83, 84, 79, 82, 69, 68] := by rw [ByteArray.toList_eq]; rfl
theorem tNF_l : M.tNF.toList = [78, 79, 84, 95, 70, 79, 85, 78, 68] := by rw [ByteArray.toList_eq]; rfl

set_option maxHeartbeats 1000000 in
theorem cas_any {B : Nat} {w : World} {rb mb g : Nat} {l : M.Mp} {is : List Ch} {losses : Int} {A0 : Option Addr} {cc : Nat} (h : RunSt B w rb mb g l is losses A0 cc) (cv ck cd : ByteArray) (cf ce ca : Int) (cq : Bool) (xw xv : ByteArray) (xd : ByteArray) (xf xe xc xb : Int) (xwc xwt xdn xq : Bool) (A SA : Option Addr) (n c m sc : Nat) (key : ByteArray) (now : Int) (told : ByteArray)
    (hcv : cv = M.vcas) (hg : ∀ v, goodF ⟨M.sStore, cv, [ck], cd, cf, ce, v, 0, false, false, false, cq⟩ = true) (ht : Tabs w) (h7 : 7 ≤ B) (he : I64 ce) (hn : I64 now) (hsm : Small l) (hv : VerOk l is.length) (hl : 0 ≤ losses ∧ losses < 9223372036854775807) (hs : is.length < 1000000) (hnots : ∀ x ∈ is, x.nots.length < 1000000) :
    Calls Tryd.prog 57 #[.pointer (some ⟨rb, 0, none⟩), .agg (#[Value.string cv, Value.string ck, Value.string cd, Value.int .u32 cf, Value.int .i64 ce, Value.int .u64 ca, Value.bool cq] : Array Value), .agg (#[Value.string xw, Value.string xv, Value.slice A n c, Value.string xd, Value.int .u32 xf, Value.int .i64 xe, Value.int .u64 xc, Value.int .u64 xb, Value.bool xwc, Value.bool xwt, Value.bool xdn, Value.bool xq, Value.string key, Value.slice SA m sc, Value.int .i64 now] : Array Value), .string told] w
      (Stepped B w rb mb g (casF ⟨l, is.map Ch.sees, losses⟩ ck cd cf ce ca now told)) := by
  have hno : ∀ (s : RS) (e : Ending) (w' : World), (e = .returned (.bool false) ∧ Below B w w') → Stepped B w rb mb g (false, s) e w' := fun s e w' ⟨h1, h2⟩ => ⟨h1, h2, fun h => by cases h⟩
  cases hx : M.mget l ck now with
  | none =>
    have e : casF ⟨l, is.map Ch.sees, losses⟩ ck cd cf ce ca now told = (false, ⟨l, is.map Ch.sees, losses⟩) := by simp only [casF, hx]
    rw [e]
    exact (cas_none h cv ck cd cf ce ca cq xw xv xd xf xe xc xb xwc xwt xdn xq A SA n c m sc key now told hx).mono fun e w' => hno _ e w'
  | some y =>
    obtain ⟨j, hj1, hj2⟩ := hv.at_ hx
    by_cases h1 : told = M.tEX
    · subst h1
      have e : casF ⟨l, is.map Ch.sees, losses⟩ ck cd cf ce ca now M.tEX = (true, ⟨l, addNot (is.map Ch.sees) y.ver ca, losses⟩) := by simp only [casF, hx, if_true]
      rw [e]
      exact cas_ex h cv ck cd cf ce ca cq xw xv xd xf xe xc xb xwc xwt xdn xq A SA n c m sc key now M.tEX y hx j hj2 hj1 hnots
    · by_cases h2 : told = M.tSTORED
      · subst h2
        cases hk : tellOk is[j].told ca with
        | false =>
          have e : casF ⟨l, is.map Ch.sees, losses⟩ ck cd cf ce ca now M.tSTORED = (false, ⟨l, is.map Ch.sees, losses⟩) := by
            simp only [casF, hx, if_neg h1, ne_eq, not_true_eq_false, if_false]
            rw [hj1, tellAt_sees is j hj2, hk]; rfl
          rw [e]
          exact (cas_untold h cv ck cd cf ce ca cq xw xv xd xf xe xc xb xwc xwt xdn xq A SA n c m sc key now M.tSTORED y hx j hj2 hj1 hk).mono fun e w' => hno _ e w'
        | true =>
          have e : casF ⟨l, is.map Ch.sees, losses⟩ ck cd cf ce ca now M.tSTORED = (true, ⟨(M.store l cv ck cd cf ce y.ver now (is.length + 1)).2, setTold (is.map Ch.sees) y.ver ca ++ [(0, [])], losses⟩) := by
            simp only [casF, hx, if_neg h1, ne_eq, not_true_eq_false, if_false]
            rw [hj1, tellAt_sees is j hj2, hk, hcv]; simp
          rw [e]
          exact cas_stored h cv ck cd cf ce ca cq xw xv xd xf xe xc xb xwc xwt xdn xq A SA n c m sc key now M.tSTORED y hx j hj2 hj1 hk ht h7 (hg _) he hn hsm hl hs
      · have e : casF ⟨l, is.map Ch.sees, losses⟩ ck cd cf ce ca now told = (false, ⟨l, is.map Ch.sees, losses⟩) := by simp only [casF, hx, if_neg h1, if_pos (show told ≠ M.tSTORED from h2)]
        rw [e]
        exact (cas_other h cv ck cd cf ce ca cq xw xv xd xf xe xc xb xwc xwt xdn xq A SA n c m sc key now told y hx j hj2 hj1 (by have := eqs_iff told M.tEX _ tEX_l; rw [decide_eq_false h1] at this; exact this) (by have := eqs_iff told M.tSTORED _ tST_l; rw [decide_eq_false h2] at this; exact this)).mono fun e w' => hno _ e w'
end Go.Proofs.YtbhnmaghnnpboaaDoor

/- lossy: step, without an answer, without a text. -/
import Derived.Test.YtbhnmaghnnpboaaDoorZl
namespace Go.Proofs.YtbhnmaghnnpboaaDoor
open Go.RowKit
attribute [local go_sem ↓] Go.wp_at_zero Go.wp_at_succ

set_option maxRecDepth 100000 in
set_option maxHeartbeats 2000000 in
theorem step_empty {B : Nat} {w : World} {rb mb g : Nat} {l : M.Mp} {is : List Ch} {losses : Int} {A0 : Option Addr} {cc : Nat} (h : RunSt B w rb mb g l is losses A0 cc) (ht : Tabs w) (_h7 : 7 ≤ B) (xw xv : ByteArray) (xk : List ByteArray) (xd : ByteArray) (xf xe xc xb : Int) (xwc xwt xdn xq : Bool) (A SA : Option Addr) (n c m sc : Nat) (key : ByteArray) (now : Int) (ans : List M.Ans)
    (hk : RdS w B A n xk) (ha : RdA w B SA m ans) (_hm : m ≤ sc ∧ sc ≤ 9223372036854775807) (hok : CmdOk (⟨xw, xv, xk, xd, xf, xe, xc, xb, xwc, xwt, xdn, xq⟩ : M.Cmd)) (hn : I64 now) (hv : VerOk l is.length) (hsm : Small l) (_hl : 0 ≤ losses ∧ losses < 9223372036854775807) (_hs : is.length < 1000000) (h0 : xw ≠ M.sGet) (hng : isGet (M.Cmd.of (⟨xw, xv, xk, xd, xf, xe, xc, xb, xwc, xwt, xdn, xq⟩ : M.Cmd)) = false) (hm0 : ans = []) :
    Calls Tryd.prog 36 #[.pointer (some ⟨rb, 0, none⟩), .agg (#[Value.string xw, Value.string xv, Value.slice A n c, Value.string xd, Value.int .u32 xf, Value.int .i64 xe, Value.int .u64 xc, Value.int .u64 xb, Value.bool xwc, Value.bool xwt, Value.bool xdn, Value.bool xq, Value.string key, Value.slice SA m sc, Value.int .i64 now] : Array Value)] w (Stepped B w rb mb g ((doF l (⟨xw, xv, xk, xd, xf, xe, xc, xb, xwc, xwt, xdn, xq⟩ : M.Cmd) now 0).1.isNone, ⟨l, is.map Ch.sees, losses⟩)) := by
  have t0 : ((m : Int) == 0) = true := by
    have hmm : m = 0 := by rw [← ha.1, hm0]; rfl
    rw [hmm]; rfl
  clear hm0
  have hB : B ≤ w.heap.size := by have := h.lo.1; have := (Array.getElem?_eq_some_iff.1 h.hd).1; omega
  have hW : Below w.heap.size w (w.alloc (.cells (#[Value.string xw, Value.string xv, Value.slice A n c, Value.string xd, Value.int .u32 xf, Value.int .i64 xe, Value.int .u64 xc, Value.int .u64 xb, Value.bool xwc, Value.bool xwt, Value.bool xdn, Value.bool xq, Value.string key, Value.slice SA m sc, Value.int .i64 now] : Array Value) 32)) := bel_alloc (bel_refl w) _
  have hgl := h.map.at_.lt
  have hlo := h.lo
  have hof := of_any (⟨xw, xv, xk, xd, xf, xe, xc, xb, xwc, xwt, xdn, xq⟩ : M.Cmd) A n c _ ((hk.below hW hB).more (by simp; omega))
  have HOF := Lib.hid hof
  have H := Lib.hid (h.below hW)
  have HA := Lib.hid (ha.below hW hB)
  have HK := Lib.hid (hk.below hW hB)
  have HX := Lib.hid (show (⟨xw, xv, xk, xd, xf, xe, xc, xb, xwc, xwt, xdn, xq⟩ : M.Cmd).what ≠ M.sGet from h0)
  have HG := Lib.hid hng
  have HOK := Lib.hid hok
  have HN := Lib.hid hn
  have HV := Lib.hid hv
  have HSM := Lib.hid hsm
  have HT := Lib.hid (ht.bel hW)
  clear h hk ha hok hn hv hsm h0 hof ht hng
  go_enter Tryd.func36, Tryd.ntmps36
  go_wp2_with fail
  refine HOF.out.mono ?_
  rintro e w1 ⟨KA, kc, rfl, _, hb1⟩
  have hta := ta98 (.slice KA n kc) (⟨xw, xv, xk, xd, xf, xe, xc, xb, xwc, xwt, xdn, xq⟩ : M.Cmd).of HG.out
  have hta83 := ta83 (.slice KA n kc) (⟨xw, xv, xk, xd, xf, xe, xc, xb, xwc, xwt, xdn, xq⟩ : M.Cmd).of
  have hq0 : w1.heap[w.heap.size]? = some (.cells (#[Value.string xw, Value.string xv, Value.slice A n c, Value.string xd, Value.int .u32 xf, Value.int .i64 xe, Value.int .u64 xc, Value.int .u64 xb, Value.bool xwc, Value.bool xwt, Value.bool xdn, Value.bool xq, Value.string key, Value.slice SA m sc, Value.int .i64 now] : Array Value) 32) := (hb1.block w.heap.size (by simp)).trans (heap_alloc_new w _)
  have hW1 : Below w.heap.size w w1 := bel_of hb1
  have hsz : w.heap.size < w1.heap.size := size_of hb1
  have HR := Lib.hid (H.out.below hb1)
  have HA1 := Lib.hid (HA.out.below hb1 (by simp; omega))
  have HK1 := Lib.hid (HK.out.below hb1 (by simp; omega))
  have HT1 := Lib.hid (HT.out.bel hb1)
  have z0 : ∀ o, w1.cell? ⟨w.heap.size, o, none⟩ = ((#[Value.string xw, Value.string xv, Value.slice A n c, Value.string xd, Value.int .u32 xf, Value.int .i64 xe, Value.int .u64 xc, Value.int .u64 xb, Value.bool xwc, Value.bool xwt, Value.bool xdn, Value.bool xq, Value.string key, Value.slice SA m sc, Value.int .i64 now] : Array Value))[o]? := fun o => cell_of_row w1 w.heap.size o _ 32 (0, 0) hq0
  have HQ := Lib.hid hq0
  clear hb1 hta83 HOF
  generalize cV (.slice KA n kc) (⟨xw, xv, xk, xd, xf, xe, xc, xb, xwc, xwt, xdn, xq⟩ : M.Cmd).of = V at *
  go_upto_region 6 with fail
  have hbx : Below w1.heap.size w1 (w1.alloc (.cells #[.slice none 0 0, .bool false, .bool false, .int .i64 0] 98)) := bel_alloc (bel_refl w1) _
  have z1 : ∀ o, (w1.alloc (.cells #[.slice none 0 0, .bool false, .bool false, .int .i64 0] 98)).cell? ⟨w.heap.size, o, none⟩ = ((#[Value.string xw, Value.string xv, Value.slice A n c, Value.string xd, Value.int .u32 xf, Value.int .i64 xe, Value.int .u64 xc, Value.int .u64 xb, Value.bool xwc, Value.bool xwt, Value.bool xdn, Value.bool xq, Value.string key, Value.slice SA m sc, Value.int .i64 now] : Array Value))[o]? := fun o => (hbx.cell (p := ⟨w.heap.size, o, none⟩) (show w.heap.size < w1.heap.size by omega)).trans (z0 o)
  have hzy : w1.heap.size < (w1.alloc (.cells #[.slice none 0 0, .bool false, .bool false, .int .i64 0] 98)).heap.size := by simp
  generalize w1.alloc (.cells #[.slice none 0 0, .bool false, .bool false, .int .i64 0] 98) = wy at *
  have HRY := Lib.hid (HR.out.below hbx)
  have HKY := Lib.hid ((HK1.out.below hbx (by omega)).more (show B ≤ wy.heap.size by omega))
  have HTY := Lib.hid (HT1.out.bel hbx)
  have HWY := Lib.hid ((hW1.trans (hbx.mono hW1.size)).mono hB)
  have k0 := cells_at (j := 0) HRY.out.hd rfl
  have hry : rb < wy.heap.size := (Array.getElem?_eq_some_iff.1 HRY.out.hd).1
  clear z0 hbx hq0
  generalize hd : doF l (⟨xw, xv, xk, xd, xf, xe, xc, xb, xwc, xwt, xdn, xq⟩ : M.Cmd) now 0 = d
  have HD := Lib.hid hd
  clear hd
  obtain ⟨dt, dl⟩ := d
  cases dt
  all_goals
    go_region_held3 (fun w' => w'.cell? ⟨rb, 0, none⟩ = some (.pointer (some ⟨mb, 0, none⟩)) ∧ w'.cell? ⟨w.heap.size, 0, none⟩ = some (.string xw) ∧ w'.cell? ⟨w.heap.size, 1, none⟩ = some (.string xv) ∧ w'.cell? ⟨w.heap.size, 2, none⟩ = some (.slice A n c) ∧ w'.cell? ⟨w.heap.size, 3, none⟩ = some (.string xd) ∧ w'.cell? ⟨w.heap.size, 4, none⟩ = some (.int .u32 xf) ∧ w'.cell? ⟨w.heap.size, 5, none⟩ = some (.int .i64 xe) ∧ w'.cell? ⟨w.heap.size, 6, none⟩ = some (.int .u64 xc) ∧ w'.cell? ⟨w.heap.size, 7, none⟩ = some (.int .u64 xb) ∧ w'.cell? ⟨w.heap.size, 8, none⟩ = some (.bool xwc) ∧ w'.cell? ⟨w.heap.size, 9, none⟩ = some (.bool xwt) ∧ w'.cell? ⟨w.heap.size, 10, none⟩ = some (.bool xdn) ∧ w'.cell? ⟨w.heap.size, 11, none⟩ = some (.bool xq) ∧ w'.cell? ⟨w.heap.size, 14, none⟩ = some (.int .i64 now)) (first | (go_keep; done) | (simp [go_sem]; done) | (simp [*, go_sem]; done)) (first | (go_at_call 53; (with_reducible refine (copy_any mb g l wy.drew (HRY.out.below (bel_drew (bel_refl wy))).map).mono ?_); rintro e w10 ⟨mb', g', rfl, hm10, hg10, hb10⟩; have HM10 := Lib.hid hm10; have hbz := bel_trans (bel_drew (bel_refl wy)) hb10; have hg11 : wy.heap.size ≤ g' := hg10; have hk6 : ∀ o, w10.cell? ⟨w.heap.size, o, none⟩ = wy.cell? ⟨w.heap.size, o, none⟩ := (fun o => hbz.cell (p := ⟨w.heap.size, o, none⟩) (show w.heap.size < wy.heap.size by omega)); have hk8 : w10.cell? ⟨rb, 0, none⟩ = wy.cell? ⟨rb, 0, none⟩ := hbz.cell (p := ⟨rb, 0, none⟩) (show rb < wy.heap.size by omega); clear hm10) | (go_at_call 27; (with_reducible refine (do_any mb' g' l (⟨xw, xv, xk, xd, xf, xe, xc, xb, xwc, xwt, xdn, xq⟩ : M.Cmd) A n c now 0 w10 HM10.out (HTY.out.bel hbz) ((HKY.out.below hbz (Nat.le_refl _)).more hbz.size) HX.out HOK.out HN.out HSM.out).mono ?_); rw [HD.out]; rintro e w12 hd12; obtain ⟨DA, dn, dc, DL, rfl, _, _, hdn, _, hg12⟩ := hd12.out; simp at hdn; subst hdn; have hbw : Below wy.heap.size wy w12 := ⟨hg12.os.trans hbz.os, hg12.tape.trans hbz.tape, hg12.output.trans hbz.output, Nat.le_trans hbz.size hg12.size, fun q hq => (hg12.block q (by have := hbz.size; omega) (fun e => by injection e with e; omega)).trans (hbz.block q hq)⟩; have hk9 : ∀ o, w12.cell? ⟨w.heap.size, o, none⟩ = wy.cell? ⟨w.heap.size, o, none⟩ := (fun o => hbw.cell (p := ⟨w.heap.size, o, none⟩) (show w.heap.size < wy.heap.size by omega)); have hk11 : w12.cell? ⟨rb, 0, none⟩ = wy.cell? ⟨rb, 0, none⟩ := hbw.cell (p := ⟨rb, 0, none⟩) (show rb < wy.heap.size by omega); have HBW := Lib.hid hbw; clear hd12 hbw))
    go_wp2_with fail
    go_ret
    exact ⟨by rw [HD.out]; rfl, HWY.out.trans (HBW.out.mono (by omega)), fun _ => ⟨is, A0, cc, HRY.out.below HBW.out, rfl⟩⟩

set_option maxRecDepth 100000 in
set_option maxHeartbeats 2000000 in
theorem step_notext {B : Nat} {w : World} {rb mb g : Nat} {l : M.Mp} {is : List Ch} {losses : Int} {A0 : Option Addr} {cc : Nat} (h : RunSt B w rb mb g l is losses A0 cc) (ht : Tabs w) (_h7 : 7 ≤ B) (xw xv : ByteArray) (xk : List ByteArray) (xd : ByteArray) (xf xe xc xb : Int) (xwc xwt xdn xq : Bool) (A SA : Option Addr) (n c m sc : Nat) (key : ByteArray) (now : Int) (ans : List M.Ans)
    (hk : RdS w B A n xk) (ha : RdA w B SA m ans) (_hm : m ≤ sc ∧ sc ≤ 9223372036854775807) (hok : CmdOk (⟨xw, xv, xk, xd, xf, xe, xc, xb, xwc, xwt, xdn, xq⟩ : M.Cmd)) (hn : I64 now) (hv : VerOk l is.length) (hsm : Small l) (_hl : 0 ≤ losses ∧ losses < 9223372036854775807) (_hs : is.length < 1000000) (h0 : xw ≠ M.sGet) (hng : isGet (M.Cmd.of (⟨xw, xv, xk, xd, xf, xe, xc, xb, xwc, xwt, xdn, xq⟩ : M.Cmd)) = false) (hm0 : ans ≠ []) (ht0 : (textF ans).2 = false) :
    Calls Tryd.prog 36 #[.pointer (some ⟨rb, 0, none⟩), .agg (#[Value.string xw, Value.string xv, Value.slice A n c, Value.string xd, Value.int .u32 xf, Value.int .i64 xe, Value.int .u64 xc, Value.int .u64 xb, Value.bool xwc, Value.bool xwt, Value.bool xdn, Value.bool xq, Value.string key, Value.slice SA m sc, Value.int .i64 now] : Array Value)] w (Stepped B w rb mb g (false, ⟨l, is.map Ch.sees, losses⟩)) := by
  have hmm : m ≠ 0 := fun e => hm0 (List.length_eq_zero_iff.1 (by rw [ha.1, e]))
  have t0 : ((m : Int) == 0) = false := by simp; omega
  have HTX := Lib.hid ht0
  clear hm0 ht0
  have hB : B ≤ w.heap.size := by have := h.lo.1; have := (Array.getElem?_eq_some_iff.1 h.hd).1; omega
  have hW : Below w.heap.size w (w.alloc (.cells (#[Value.string xw, Value.string xv, Value.slice A n c, Value.string xd, Value.int .u32 xf, Value.int .i64 xe, Value.int .u64 xc, Value.int .u64 xb, Value.bool xwc, Value.bool xwt, Value.bool xdn, Value.bool xq, Value.string key, Value.slice SA m sc, Value.int .i64 now] : Array Value) 32)) := bel_alloc (bel_refl w) _
  have hgl := h.map.at_.lt
  have hlo := h.lo
  have hof := of_any (⟨xw, xv, xk, xd, xf, xe, xc, xb, xwc, xwt, xdn, xq⟩ : M.Cmd) A n c _ ((hk.below hW hB).more (by simp; omega))
  have HOF := Lib.hid hof
  have H := Lib.hid (h.below hW)
  have HA := Lib.hid (ha.below hW hB)
  have HK := Lib.hid (hk.below hW hB)
  have HX := Lib.hid (show (⟨xw, xv, xk, xd, xf, xe, xc, xb, xwc, xwt, xdn, xq⟩ : M.Cmd).what ≠ M.sGet from h0)
  have HG := Lib.hid hng
  have HOK := Lib.hid hok
  have HN := Lib.hid hn
  have HV := Lib.hid hv
  have HSM := Lib.hid hsm
  have HT := Lib.hid (ht.bel hW)
  clear h hk ha hok hn hv hsm h0 hof ht hng
  go_enter Tryd.func36, Tryd.ntmps36
  go_wp2_with fail
  refine HOF.out.mono ?_
  rintro e w1 ⟨KA, kc, rfl, _, hb1⟩
  have hta := ta98 (.slice KA n kc) (⟨xw, xv, xk, xd, xf, xe, xc, xb, xwc, xwt, xdn, xq⟩ : M.Cmd).of HG.out
  have hta83 := ta83 (.slice KA n kc) (⟨xw, xv, xk, xd, xf, xe, xc, xb, xwc, xwt, xdn, xq⟩ : M.Cmd).of
  have hq0 : w1.heap[w.heap.size]? = some (.cells (#[Value.string xw, Value.string xv, Value.slice A n c, Value.string xd, Value.int .u32 xf, Value.int .i64 xe, Value.int .u64 xc, Value.int .u64 xb, Value.bool xwc, Value.bool xwt, Value.bool xdn, Value.bool xq, Value.string key, Value.slice SA m sc, Value.int .i64 now] : Array Value) 32) := (hb1.block w.heap.size (by simp)).trans (heap_alloc_new w _)
  have hW1 : Below w.heap.size w w1 := bel_of hb1
  have hsz : w.heap.size < w1.heap.size := size_of hb1
  have HR := Lib.hid (H.out.below hb1)
  have HA1 := Lib.hid (HA.out.below hb1 (by simp; omega))
  have HK1 := Lib.hid (HK.out.below hb1 (by simp; omega))
  have HT1 := Lib.hid (HT.out.bel hb1)
  have z0 : ∀ o, w1.cell? ⟨w.heap.size, o, none⟩ = ((#[Value.string xw, Value.string xv, Value.slice A n c, Value.string xd, Value.int .u32 xf, Value.int .i64 xe, Value.int .u64 xc, Value.int .u64 xb, Value.bool xwc, Value.bool xwt, Value.bool xdn, Value.bool xq, Value.string key, Value.slice SA m sc, Value.int .i64 now] : Array Value))[o]? := fun o => cell_of_row w1 w.heap.size o _ 32 (0, 0) hq0
  have HQ := Lib.hid hq0
  clear hb1 hta83 HOF
  generalize cV (.slice KA n kc) (⟨xw, xv, xk, xd, xf, xe, xc, xb, xwc, xwt, xdn, xq⟩ : M.Cmd).of = V at *
  have HTC := Lib.hid (text_any_l SA m sc ans _ ((HA1.out.below (bel_alloc (bel_refl w1) (.cells #[.slice none 0 0, .bool false, .bool false, .int .i64 0] 98)) (by omega)).more (by simp; omega)))
  go_wp2_with (go_at_call 54; refine HTC.out.mono ?_; rw [HTX.out]; rintro e w2 ⟨rfl, hb2⟩)
  go_ret
  exact ⟨rfl, ((hW1.trans (((bel_alloc (bel_refl w1) _).trans (hb2.mono (by simp))).mono hW1.size)).mono hB), fun h => by cases h⟩
end Go.Proofs.YtbhnmaghnnpboaaDoor

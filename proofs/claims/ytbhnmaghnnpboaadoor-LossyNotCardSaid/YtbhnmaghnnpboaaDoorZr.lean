/- lossy: get, with a touch. -/
import Derived.Test.YtbhnmaghnnpboaaDoorZi
namespace Go.Proofs.YtbhnmaghnnpboaaDoor
open Go.RowKit
attribute [local go_sem ↓] Go.wp_at_zero Go.wp_at_succ
attribute [local go_sem ↓] run_eq46

set_option maxRecDepth 100000 in
set_option maxHeartbeats 4000000 in
theorem get_true {B : Nat} {w : World} {rb mb g : Nat} {l : M.Mp} {is : List Ch} {losses : Int} {A0 : Option Addr} {cc : Nat} (h : RunSt B w rb mb g l is losses A0 cc) (xw xv : ByteArray) (xk : List ByteArray) (xd : ByteArray) (xf xe xc xb : Int) (xwc xdn xq : Bool) (A KA SA : Option Addr) (n c kc m sc : Nat) (key : ByteArray) (now : Int) (ans : List M.Ans)
    (hk : RdS w B A n xk) (ha : RdA w B SA m ans) (hm : m ≤ sc ∧ sc ≤ 9223372036854775807) (h1 : M.Cmd.of ⟨xw, xv, xk, xd, xf, xe, xc, xb, xwc, true, xdn, xq⟩ = .get xk xwc true xe) (he : I64 xe) (hn : I64 now) (hv : VerOk l is.length) (hl : 0 ≤ losses ∧ losses < 9223372036854775807) (hs : is.length < 1000000) :
    Calls Tryd.prog 52 #[.pointer (some ⟨rb, 0, none⟩), .agg #[.slice KA n kc, .bool xwc, .bool true, .int .i64 xe], .agg (#[Value.string xw, Value.string xv, Value.slice A n c, Value.string xd, Value.int .u32 xf, Value.int .i64 xe, Value.int .u64 xc, Value.int .u64 xb, Value.bool xwc, Value.bool true, Value.bool xdn, Value.bool xq, Value.string key, Value.slice SA m sc, Value.int .i64 now] : Array Value)] w (Stepped B w rb mb g (getF ⟨l, is.map Ch.sees, losses⟩ xwc true xe key ans now)) := by
  have hgl := h.map.at_.lt
  have hrl : rb < w.heap.size := (Array.getElem?_eq_some_iff.1 h.hd).1
  have hrg : rb ≠ g := fun e => by
    obtain ⟨es, clk, hh, _⟩ := h.map.at_
    rw [← e, h.hd] at hh; cases hh
  have hB : B ≤ w.heap.size := by have := h.lo.1; have := (Array.getElem?_eq_some_iff.1 h.hd).1; omega
  have hW : Below w.heap.size w ((w.alloc (.cells #[.slice KA n kc, .bool xwc, .bool true, .int .i64 xe] 98)).alloc (.cells (#[Value.string xw, Value.string xv, Value.slice A n c, Value.string xd, Value.int .u32 xf, Value.int .i64 xe, Value.int .u64 xc, Value.int .u64 xb, Value.bool xwc, Value.bool true, Value.bool xdn, Value.bool xq, Value.string key, Value.slice SA m sc, Value.int .i64 now] : Array Value) 32)) := bel_alloc (bel_alloc (bel_refl _) _) _
  have HA := Lib.hid (ha.below hW hB)
  have HK := Lib.hid (hk.below hW hB)
  have H := Lib.hid (h.below hW)
  have H1 := Lib.hid h1
  have HV := Lib.hid hv
  have HE := Lib.hid he
  have HN := Lib.hid hn
  generalize hr : getF ⟨l, is.map Ch.sees, losses⟩ xwc true xe key ans now = r
  have HR := Lib.hid hr
  clear ha hk h h1 hv he hn hr
  go_enter Tryd.func52, Tryd.ntmps52
  go_upto_region 3 with fail
  go_cut [27] from 16 to 26 (fun v wx => ∃ q : Bool, v = .bool q ∧ q = lastEnd ans ∧ Below ((w.alloc (.cells #[.slice KA n kc, .bool xwc, .bool true, .int .i64 xe] 98)).alloc (.cells (#[Value.string xw, Value.string xv, Value.slice A n c, Value.string xd, Value.int .u32 xf, Value.int .i64 xe, Value.int .u64 xc, Value.int .u64 xb, Value.bool xwc, Value.bool true, Value.bool xdn, Value.bool xq, Value.string key, Value.slice SA m sc, Value.int .i64 now] : Array Value) 32)).heap.size ((w.alloc (.cells #[.slice KA n kc, .bool xwc, .bool true, .int .i64 xe] 98)).alloc (.cells (#[Value.string xw, Value.string xv, Value.slice A n c, Value.string xd, Value.int .u32 xf, Value.int .i64 xe, Value.int .u64 xc, Value.int .u64 xb, Value.bool xwc, Value.bool true, Value.bool xdn, Value.bool xq, Value.string key, Value.slice SA m sc, Value.int .i64 now] : Array Value) 32)) wx)
  case first =>
    rcases List.eq_nil_or_concat ans with hnil | ⟨ini, a, hcc⟩
    · subst hnil
      obtain rfl : m = 0 := HA.out.1.symm
      go_wp2_with fail
      go_meet
      exact ⟨false, rfl, rfl, bel_refl _⟩
    · rw [List.concat_eq_append] at hcc
      subst hcc
      obtain ⟨p, rfl⟩ : ∃ p, m = p + 1 := ⟨ini.length, by have := HA.out.1; simp at this; omega⟩
      have hlen : ini.length = p := by have := HA.out.1; simp at this; exact this
      obtain ⟨b, off, rfl, hb, hc⟩ := HA.out.2 (by omega)
      have hga : (ini ++ [a]).getD p default = a := by simp [List.getD, ← hlen]
      have c0 := hc p (by omega) 0 (by decide)
      have c1 := hc p (by omega) 1 (by decide)
      have c2 := hc p (by omega) 2 (by decide)
      have c3 := hc p (by omega) 3 (by decide)
      have c4 := hc p (by omega) 4 (by decide)
      have c5 := hc p (by omega) 5 (by decide)
      have c6 := hc p (by omega) 6 (by decide)
      rw [hga] at c0 c1 c2 c3 c4 c5 c6
      simp only [ansCells, Nat.add_zero, List.getElem?_cons_zero, List.getElem?_cons_succ] at c0 c1 c2 c3 c4 c5 c6
      clear hc hga
      cases he : isEnd a
      all_goals
        have he2 : eqA (M.plain a).v (M.plain a).key (M.plain a).data (M.plain a).text (M.plain a).flags (M.plain a).cas (M.plain a).withCas false ⟨#[]⟩ ⟨#[]⟩ ⟨#[69, 78, 68]⟩ 0 0 false = _ := he
        have HEE := Lib.hid he
        clear he
        go_wp2_with (first | (go_at_call 64; refine (plain_lit a _).mono ?_; rintro e w3 ⟨rfl, hb3⟩) | (go_at_call 41; refine (line_any _ _).mono ?_; rintro e w4 ⟨rfl, hb4⟩))
        go_meet
        have hb5 := bel_trans hb3 hb4
        exact ⟨_, rfl, by rw [lastEnd_app, HEE.out], hb5⟩
  case rest =>
  obtain ⟨q, rfl, hq, hbx⟩ := hcut
  go_upto_if 27 with fail
  go_cut [7] from 28 to 31 (fun v wx => wx = wc ∧ ∃ m' sc' : Nat, v = .slice SA m' sc' ∧ m' ≤ sc' ∧ sc' ≤ 9223372036854775807 ∧ RdA wx B SA m' (stripF ans))
  case first =>
    have HA2 := Lib.hid (HA.out.below hbx (by simp; omega))
    rcases List.eq_nil_or_concat ans with hnil | ⟨ini, a, hcc⟩
    · subst hnil
      subst hq
      obtain rfl : m = 0 := HA.out.1.symm
      go_wp2_with fail
      go_meet
      exact ⟨rfl, 0, sc, rfl, hm.1, hm.2, HA2.out⟩
    · rw [List.concat_eq_append] at hcc
      subst hcc
      rw [lastEnd_app] at hq
      obtain ⟨p, rfl⟩ : ∃ p, m = p + 1 := ⟨ini.length, by have := HA.out.1; simp at this; omega⟩
      cases q
      · go_wp2_with fail
        go_meet
        exact ⟨rfl, p + 1, sc, rfl, hm.1, hm.2, by rw [strip_not _ _ hq.symm]; exact HA2.out⟩
      · obtain ⟨b, off, rfl, hb, hc⟩ := HA.out.2 (by omega)
        clear hc
        have hm1 := hm.1
        have hm2 := hm.2
        go_wp2_with fail
        go_meet
        exact ⟨rfl, p, sc, rfl, by omega, hm.2, by rw [strip_end _ _ hq.symm]; exact HA2.out.take⟩
  case rest =>
  obtain ⟨rfl, m', sc', rfl, hm1, hm2, ha⟩ := hcut
  have hbw : Below w.heap.size w wc := hW.trans (hbx.mono hW.size)
  have hq0 : ∀ o, wc.cell? ⟨w.heap.size, o, none⟩ = #[Value.slice KA n kc, Value.bool xwc, Value.bool true, Value.int .i64 xe][o]? := fun o => (hbx.cell (p := ⟨w.heap.size, o, none⟩) (by simp; omega)).trans ((World.cell?_alloc_lt _ _ ⟨w.heap.size, o, none⟩ (by simp)).trans (World.cell?_alloc_new w _ _ o))
  have hq1 : ∀ o, wc.cell? ⟨w.heap.size + 1, o, none⟩ = (#[Value.string xw, Value.string xv, Value.slice A n c, Value.string xd, Value.int .u32 xf, Value.int .i64 xe, Value.int .u64 xc, Value.int .u64 xb, Value.bool xwc, Value.bool true, Value.bool xdn, Value.bool xq, Value.string key, Value.slice SA m sc, Value.int .i64 now] : Array Value)[o]? := fun o => by have := own_cell hbx o; simpa using this
  have hp0 : wc.heap[w.heap.size]? = some (.cells #[Value.slice KA n kc, Value.bool xwc, Value.bool true, Value.int .i64 xe] 98) := (hbx.block w.heap.size (by simp; omega)).trans ((heap_alloc_old _ _ (by simp)).trans (heap_alloc_new w _))
  have hz : w.heap.size + 1 < wc.heap.size := by have := hbx.size; simp at this; omega
  have HX := Lib.hid (H.out.below hbx)
  have HKX := Lib.hid (HK.out.below hbx (by simp; omega))
  clear hbx hq HA HK H hW hm
  generalize hst : stripF ans = l2 at ha
  rcases l2 with _ | ⟨a, _ | ⟨a2, r2⟩⟩
  · obtain rfl : m' = 0 := ha.1.symm
    have hG : getF ⟨l, is.map Ch.sees, losses⟩ xwc true xe key ans now = (true, loseF ⟨l, is.map Ch.sees, losses⟩ key now) := by unfold getF; rw [hst]
    clear hst ha
    cases hx : M.mget l key now with
    | none =>
      have HL := Lib.hid (lose_none HX.out key now hx)
      have HGG := Lib.hid (hG.symm.trans HR.out)
      have HXX := Lib.hid hx
      clear hx hG
      go_wp2_with (go_at_call 56; refine HL.out.mono ?_; rintro e w2 ⟨rfl, hb2⟩)
      go_ret
      rw [← HGG.out]
      refine ⟨rfl, (hbw.trans (hb2.mono hbw.size)).mono hB, fun _ => ⟨is, A0, cc, ?_, ?_⟩⟩
      · simp only [loseF, HXX.out]; exact HX.out.below hb2
      · simp only [loseF, HXX.out]
    | some y =>
      have HL := Lib.hid (lose_some HX.out key now y hx hl)
      have HGG := Lib.hid (hG.symm.trans HR.out)
      have HXX := Lib.hid hx
      clear hx hG
      go_wp2_with (go_at_call 56; refine HL.out.mono ?_; rintro e w2 ⟨rfl, hr2, hb2⟩; have HR2 := Lib.hid hr2; clear hr2)
      go_ret
      rw [← HGG.out]
      refine ⟨rfl, (hbw.mono hB).trans hb2, fun _ => ⟨is, A0, cc, ?_, ?_⟩⟩
      · simp only [loseF, HXX.out]; exact HR2.out
      · simp only [loseF, HXX.out]
  · obtain rfl : m' = 1 := ha.1.symm
    obtain ⟨b, off, rfl, hb, hc⟩ := ha.2 (by decide)
    have c0 := hc 0 (by decide) 0 (by decide)
    have c1 := hc 0 (by decide) 1 (by decide)
    have c2 := hc 0 (by decide) 2 (by decide)
    have c3 := hc 0 (by decide) 3 (by decide)
    have c4 := hc 0 (by decide) 4 (by decide)
    have c5 := hc 0 (by decide) 5 (by decide)
    have c6 := hc 0 (by decide) 6 (by decide)
    simp only [List.getD_cons_zero, ansCells, Nat.zero_mul, Nat.add_zero, List.getElem?_cons_zero, List.getElem?_cons_succ] at c0 c1 c2 c3 c4 c5 c6
    clear hc ha
    cases hav : a.v
    · have hG : getF ⟨l, is.map Ch.sees, losses⟩ xwc true xe key ans now = (false, ⟨l, is.map Ch.sees, losses⟩) := by unfold getF; rw [hst]; simp [hav]
      have HGG := Lib.hid (hG.symm.trans HR.out)
      rw [hav] at c0
      clear hst hG hav
      go_wp2_with fail
      go_ret
      rw [← HGG.out]
      exact ⟨rfl, hbw.mono hB, fun h => by cases h⟩
    · rw [hav] at c0
      have hp := plain_lit a wc
      rw [hav] at hp
      have HP := Lib.hid hp
      clear hp
      go_upto_region 11 with (go_at_call 64; refine HP.out.mono ?_; rintro e w3 ⟨rfl, hb3⟩)
      have hpc : (M.plain a).cas = a.cas := by unfold M.plain; rw [hav]; rfl
      have hbz : Below wc.heap.size wc (w3.alloc (.cells #[.bool (M.plain a).v, .string (M.plain a).key, .string (M.plain a).data, .string (M.plain a).text, .int .u32 (M.plain a).flags, .int .u64 (M.plain a).cas, .bool (M.plain a).withCas] 46)) := bel_alloc hb3 _
      have hz0 : ∀ o, (w3.alloc (.cells #[.bool (M.plain a).v, .string (M.plain a).key, .string (M.plain a).data, .string (M.plain a).text, .int .u32 (M.plain a).flags, .int .u64 (M.plain a).cas, .bool (M.plain a).withCas] 46)).cell? ⟨w.heap.size, o, none⟩ = #[Value.slice KA n kc, Value.bool xwc, Value.bool true, Value.int .i64 xe][o]? := fun o => (hbz.cell (p := ⟨w.heap.size, o, none⟩) (by show w.heap.size < _; omega)).trans (hq0 o)
      have hz1 : ∀ o, (w3.alloc (.cells #[.bool (M.plain a).v, .string (M.plain a).key, .string (M.plain a).data, .string (M.plain a).text, .int .u32 (M.plain a).flags, .int .u64 (M.plain a).cas, .bool (M.plain a).withCas] 46)).cell? ⟨w.heap.size + 1, o, none⟩ = (#[Value.string xw, Value.string xv, Value.slice A n c, Value.string xd, Value.int .u32 xf, Value.int .i64 xe, Value.int .u64 xc, Value.int .u64 xb, Value.bool xwc, Value.bool true, Value.bool xdn, Value.bool xq, Value.string key, Value.slice (some ⟨b, off, none⟩) m sc, Value.int .i64 now] : Array Value)[o]? := fun o => (hbz.cell (p := ⟨w.heap.size + 1, o, none⟩) (by show w.heap.size + 1 < _; omega)).trans (hq1 o)
      have hz9 : ∀ o, (w3.alloc (.cells #[.bool (M.plain a).v, .string (M.plain a).key, .string (M.plain a).data, .string (M.plain a).text, .int .u32 (M.plain a).flags, .int .u64 (M.plain a).cas, .bool (M.plain a).withCas] 46)).cell? ⟨w3.heap.size, o, none⟩ = #[Value.bool (M.plain a).v, Value.string (M.plain a).key, Value.string (M.plain a).data, Value.string (M.plain a).text, Value.int .u32 (M.plain a).flags, Value.int .u64 (M.plain a).cas, Value.bool (M.plain a).withCas][o]? := fun o => World.cell?_alloc_new w3 _ _ o
      have hz9h : (w3.alloc (.cells #[.bool (M.plain a).v, .string (M.plain a).key, .string (M.plain a).data, .string (M.plain a).text, .int .u32 (M.plain a).flags, .int .u64 (M.plain a).cas, .bool (M.plain a).withCas] 46)).heap[w3.heap.size]? = some (.cells #[.bool (M.plain a).v, .string (M.plain a).key, .string (M.plain a).data, .string (M.plain a).text, .int .u32 (M.plain a).flags, .int .u64 (M.plain a).cas, .bool (M.plain a).withCas] 46) := heap_alloc_new w3 _
      have hs3 : w3.heap.size < (w3.alloc (.cells #[.bool (M.plain a).v, .string (M.plain a).key, .string (M.plain a).data, .string (M.plain a).text, .int .u32 (M.plain a).flags, .int .u64 (M.plain a).cas, .bool (M.plain a).withCas] 46)).heap.size := by simp
      have hsw : w.heap.size + 1 < w3.heap.size := by have := hb3.size; omega
      generalize w3.alloc (.cells #[.bool (M.plain a).v, .string (M.plain a).key, .string (M.plain a).data, .string (M.plain a).text, .int .u32 (M.plain a).flags, .int .u64 (M.plain a).cas, .bool (M.plain a).withCas] 46) = wz at *
      have HZ := Lib.hid (HX.out.below hbz)
      have hBz : B ≤ wz.heap.size := by omega
      have HKZ := Lib.hid (HKX.out.below hbz (by omega))
      have k0 := cells_at (j := 0) HZ.out.hd rfl
      have k1 := cells_at (j := 1) HZ.out.hd rfl
      clear hq0 hq1 c0 c1 c2 c3 c4 c5 c6 hb3 HP HX HKX
      have HST := Lib.hid hst
      clear hst
      cases hx : M.mget l key now with
      | none =>
        have hG : getF ⟨l, is.map Ch.sees, losses⟩ xwc true xe key ans now = (false, ⟨l, is.map Ch.sees, losses⟩) := by unfold getF; rw [HST.out]; simp [hav, hx]
        have HGG := Lib.hid (hG.symm.trans HR.out)
        have HXX := Lib.hid hx
        clear hx hG
        go_region_held3 (fun w' => w'.cell? ⟨rb, 0, none⟩ = some (.pointer (some ⟨mb, 0, none⟩)) ∧ w'.cell? ⟨w.heap.size + 1, 0, none⟩ = some (.string xw) ∧ w'.cell? ⟨w.heap.size + 1, 1, none⟩ = some (.string xv) ∧ w'.cell? ⟨w.heap.size + 1, 2, none⟩ = some (.slice A n c) ∧ w'.cell? ⟨w.heap.size + 1, 3, none⟩ = some (.string xd) ∧ w'.cell? ⟨w.heap.size + 1, 4, none⟩ = some (.int .u32 xf) ∧ w'.cell? ⟨w.heap.size + 1, 5, none⟩ = some (.int .i64 xe) ∧ w'.cell? ⟨w.heap.size + 1, 6, none⟩ = some (.int .u64 xc) ∧ w'.cell? ⟨w.heap.size + 1, 7, none⟩ = some (.int .u64 xb) ∧ w'.cell? ⟨w.heap.size + 1, 8, none⟩ = some (.bool xwc) ∧ w'.cell? ⟨w.heap.size + 1, 9, none⟩ = some (.bool true) ∧ w'.cell? ⟨w.heap.size + 1, 10, none⟩ = some (.bool xdn) ∧ w'.cell? ⟨w.heap.size + 1, 11, none⟩ = some (.bool xq) ∧ w'.cell? ⟨w.heap.size + 1, 12, none⟩ = some (.string key) ∧ w'.cell? ⟨w.heap.size + 1, 14, none⟩ = some (.int .i64 now)) (first | (go_keep; done) | (simp [go_sem]; done) | (simp [*, go_sem]; done)) (first | (go_at_call 58; refine (next_any (HZ.out.below (by repeat (first | with_reducible exact bel_refl _ | with_reducible apply bel_drew)))).mono ?_; rintro e w5 ⟨rfl, rfl⟩) | (go_at_call 26; refine (mkey_none mb g l ⟨xw, xv, xk, xd, xf, xe, xc, xb, xwc, true, xdn, xq⟩ A n c key now _ _ ((HZ.out.below (by repeat (first | with_reducible exact bel_refl _ | with_reducible apply bel_drew))).map) ((HKZ.out.below (B' := wz.heap.size) (by repeat (first | with_reducible exact bel_refl _ | with_reducible apply bel_drew)) hBz).more (by first | exact hBz | (simp; omega))) H1.out HXX.out).mono ?_; rintro e w6 ⟨rfl, hb6⟩; have hk6 : ∀ o, w6.cell? ⟨w.heap.size + 1, o, none⟩ = wz.cell? ⟨w.heap.size + 1, o, none⟩ := (fun o => hb6.cell (p := ⟨w.heap.size + 1, o, none⟩) (show w.heap.size + 1 < wz.heap.size by omega)); have hk7 : w6.cell? ⟨rb, 0, none⟩ = wz.cell? ⟨rb, 0, none⟩ := hb6.cell (p := ⟨rb, 0, none⟩) (by show rb < wz.heap.size; exact (Array.getElem?_eq_some_iff.1 HZ.out.hd).1)))
        all_goals
          go_wp2_with fail
          go_ret
          rw [← HGG.out]
          refine ⟨rfl, ?_, fun h => by cases h⟩
          have hb7 := bel_trans hbz (bel_trans (bel_drew (bel_refl wz)) hb6)
          exact (hbw.mono hB).trans (hb7.mono (by omega))
      | some y =>
        have HXX := Lib.hid hx
        clear hx
        go_region_held3 (fun w' => w'.cell? ⟨rb, 0, none⟩ = some (.pointer (some ⟨mb, 0, none⟩)) ∧ w'.cell? ⟨w.heap.size + 1, 0, none⟩ = some (.string xw) ∧ w'.cell? ⟨w.heap.size + 1, 1, none⟩ = some (.string xv) ∧ w'.cell? ⟨w.heap.size + 1, 2, none⟩ = some (.slice A n c) ∧ w'.cell? ⟨w.heap.size + 1, 3, none⟩ = some (.string xd) ∧ w'.cell? ⟨w.heap.size + 1, 4, none⟩ = some (.int .u32 xf) ∧ w'.cell? ⟨w.heap.size + 1, 5, none⟩ = some (.int .i64 xe) ∧ w'.cell? ⟨w.heap.size + 1, 6, none⟩ = some (.int .u64 xc) ∧ w'.cell? ⟨w.heap.size + 1, 7, none⟩ = some (.int .u64 xb) ∧ w'.cell? ⟨w.heap.size + 1, 8, none⟩ = some (.bool xwc) ∧ w'.cell? ⟨w.heap.size + 1, 9, none⟩ = some (.bool true) ∧ w'.cell? ⟨w.heap.size + 1, 10, none⟩ = some (.bool xdn) ∧ w'.cell? ⟨w.heap.size + 1, 11, none⟩ = some (.bool xq) ∧ w'.cell? ⟨w.heap.size + 1, 12, none⟩ = some (.string key) ∧ w'.cell? ⟨w.heap.size + 1, 14, none⟩ = some (.int .i64 now)) (first | (go_keep; done) | (simp [go_sem]; done) | (simp [*, go_sem]; done)) (first | (go_at_call 58; refine (next_any (HZ.out.below (by repeat (first | with_reducible exact bel_refl _ | with_reducible apply bel_drew)))).mono ?_; rintro e w5 ⟨rfl, rfl⟩) | (go_at_call 26; refine (mkey_some mb g l ⟨xw, xv, xk, xd, xf, xe, xc, xb, xwc, true, xdn, xq⟩ A n c key now _ y _ ((HZ.out.below (by repeat (first | with_reducible exact bel_refl _ | with_reducible apply bel_drew))).map) ((HKZ.out.below (B' := wz.heap.size) (by repeat (first | with_reducible exact bel_refl _ | with_reducible apply bel_drew)) hBz).more (by first | exact hBz | (simp; omega))) H1.out HXX.out HE.out HN.out).mono ?_; rintro e w6 ⟨v, rfl, hrow, hm6, hg6⟩; have hk6 : ∀ o, w6.cell? ⟨w.heap.size + 1, o, none⟩ = wz.cell? ⟨w.heap.size + 1, o, none⟩ := (fun o => World.cell?_of_block (hg6.block (w.heap.size + 1) (show w.heap.size + 1 < wz.heap.size by omega) (fun e => by injection e with e; omega))); have hk7 : w6.cell? ⟨rb, 0, none⟩ = wz.cell? ⟨rb, 0, none⟩ := World.cell?_of_block (hg6.block rb (Array.getElem?_eq_some_iff.1 HZ.out.hd).1 (fun e => by injection e with e; exact hrg e))))
        all_goals
          obtain ⟨vg, rfl, hv1, hv2, hv3⟩ := hrow
          have hR6 := (HZ.out.below (bel_drew (bel_refl wz))).mapped hg6 hm6
          have p0 : w6.heap[w.heap.size]? = some (.cells #[Value.slice KA n kc, Value.bool xwc, Value.bool true, Value.int .i64 xe] 98) := (hg6.block w.heap.size (show w.heap.size < wz.heap.size by omega) (fun e => by injection e with e; omega)).trans ((hbz.block w.heap.size (by omega)).trans hp0)
          have p9 : w6.heap[w3.heap.size]? = some (.cells #[.bool (M.plain a).v, .string (M.plain a).key, .string (M.plain a).data, .string (M.plain a).text, .int .u32 (M.plain a).flags, .int .u64 (M.plain a).cas, .bool (M.plain a).withCas] 46) := (hg6.block w3.heap.size (show w3.heap.size < wz.heap.size by omega) (fun e => by injection e with e; omega)).trans hz9h
          have hb6 : Below B w w6 := ⟨hg6.os.trans ((hbw.trans (hbz.mono hbw.size)).os), hg6.tape.trans ((hbw.trans (hbz.mono hbw.size)).tape), hg6.output.trans ((hbw.trans (hbz.mono hbw.size)).output), Nat.le_trans ((hbw.trans (hbz.mono hbw.size)).size) hg6.size, fun q hq => (hg6.block q (show q < wz.heap.size by omega) (fun e => by injection e with e; have := HZ.out.lo; omega)).trans ((hbw.trans (hbz.mono hbw.size)).block q (by omega))⟩
          have hs6 : wz.heap.size ≤ w6.heap.size := hg6.size
          have d0 := cells_at (j := 2) p0 rfl
          clear hz0 hz1 hz9 hk6 hk7 hg6 hm6 hp0 hz9h k0 k1
          go_upto_if 72 with fail
          obtain ⟨l1, hl1⟩ : ∃ l1, (if true = true then M.mset l key (touchF true xe now ((is.length : Int) + 1) y) else l) = l1 := ⟨_, rfl⟩
          have hR6 : RunSt B w6 rb mb g l1 is losses A0 cc := by rw [← hl1]; exact hR6
          have hv1 : wz.heap.size ≤ vg := hv1
          generalize hown : oneAns key xwc (touchF true xe now ((is.length : Int) + 1) y) = own at hv3
          have hoc : xwc = true → own.cas = (is.length : Int) + 1 := fun e => by rw [← hown, e]; rfl
          have HL1 := Lib.hid hl1
          have HOWN := Lib.hid hown
          have HOC := Lib.hid hoc
          clear hl1 hown hoc
          go_cut [] from 73 to 82 (fun wx => ∃ is2 A2 c2, RunSt B wx rb mb g l1 is2 losses A2 c2 ∧ is2.map Ch.sees = (if true then is.map Ch.sees ++ [(0, [])] else is.map Ch.sees) ∧ wx.heap[w.heap.size]? = some (.cells #[Value.slice KA n kc, Value.bool xwc, Value.bool true, Value.int .i64 xe] 98) ∧ wx.heap[w3.heap.size]? = some (.cells #[.bool (M.plain a).v, .string (M.plain a).key, .string (M.plain a).data, .string (M.plain a).text, .int .u32 (M.plain a).flags, .int .u64 (M.plain a).cas, .bool (M.plain a).withCas] 46) ∧ wx.heap[vg]? = some (.cells (ansCells own).toArray 46) ∧ Below B w wx ∧ w6.heap.size ≤ wx.heap.size)
          case first =>
            obtain ⟨A', c', w7, hrun, hg7, e1, e2, hR7⟩ := hR6.push_run hs
            obtain ⟨k1, k2, k3⟩ := hR6.push_keep hg7 (.slice A' (is.length + 1) c')
            have q1 := cells_at (j := 1) hR6.hd rfl
            have hR7H := Lib.hid hR7
            have K0 := Lib.hid (k1 _ _ p0 (fun _ e => by cases e) (by omega))
            have K9 := Lib.hid (k1 _ _ p9 (fun _ e => by cases e) (by have := hbw.size; omega))
            have KV := Lib.hid (k1 _ _ hv3 (fun _ e => by cases e) (by have := hbw.size; omega))
            have K2 := Lib.hid (hb6.trans k2)
            have K3 := Lib.hid k3
            have HRUN := Lib.hid hrun
            clear hR7 hg7 hR6 hrun k1 k2 k3 p0 p9 hv3
            go_wp2_with (at_builtin; refine wpList_append_eq rfl _ _ 57 rfl _ _ rfl rfl 57 rfl _ _ HRUN.out ?_)
            go_meet
            exact ⟨_, _, _, hR7H.out, by simp [Ch.sees], K0.out, K9.out, KV.out, K2.out, K3.out⟩
          case rest =>
          obtain ⟨is2, A2, c2, hR8, hsee, q0, q9, qv, hb8, hs8⟩ := hcut
          have hlen2 : is2.length = is.length + 1 := by have := congrArg List.length hsee; simpa using this
          obtain ⟨oj, hoj, hojl⟩ : ∃ oj : Nat, (xwc = true → own.cas = (oj : Int) + 1) ∧ oj < is2.length := ⟨is.length, fun e => by rw [HOC.out e], by omega⟩
          have HSEE := Lib.hid hsee
          have HOJ := Lib.hid hoj
          have z0 := cells_at (j := 1) q0 rfl
          have z9 : ∀ o, wc.cell? ⟨w3.heap.size, o, none⟩ = (#[.bool (M.plain a).v, .string (M.plain a).key, .string (M.plain a).data, .string (M.plain a).text, .int .u32 (M.plain a).flags, .int .u64 (M.plain a).cas, .bool (M.plain a).withCas] : Array Value)[o]? := fun o => cell_of_row wc w3.heap.size o _ 46 (0, 0) q9
          have zv : ∀ o, wc.cell? ⟨vg, o, none⟩ = (ansCells own).toArray[o]? := fun o => cell_of_row wc vg o _ 46 (0, 0) qv
          simp only [ansCells] at zv
          have hsz8 : w3.heap.size < wc.heap.size := (Array.getElem?_eq_some_iff.1 q9).1
          have hsv8 : vg < wc.heap.size := (Array.getElem?_eq_some_iff.1 qv).1
          have hs08 : w.heap.size < wc.heap.size := (Array.getElem?_eq_some_iff.1 q0).1
          have hW8 : Below wc.heap.size wc (wc.alloc (.cells #[.bool own.v, .string own.key, .string own.data, .string own.text, .int .u32 own.flags, .int .u64 own.cas, .bool own.withCas] 46)) := bel_alloc (bel_refl _) _
          have HGO := Lib.hid (getF_some HR.out HST.out hav HXX.out HOWN.out HL1.out hsee)
          have HR8 := Lib.hid (hR8.below hW8)
          have HB8 := Lib.hid hb8
          have Q9 := Lib.hid ((hW8.block w3.heap.size hsz8).trans q9)
          have HPC := Lib.hid hpc
          have hBc : B ≤ wc.heap.size := by omega
          clear hsee hoj hR8 hlen2 q0 q9 qv hb8 hR6 p0 p9 hv3 d0 hpc hsw hs3 hb6 hs6 hs8
          cases xwc
          · have HRR := Lib.hid (getOwn_no HGO.out)
            go_wp2_with fail
            go_ret
            rw [HRR.out]
            exact ⟨rfl, HB8.out.trans (hW8.mono hBc), fun _ => ⟨is2, A2, c2, HR8.out, rfl⟩⟩
          · have hc8 := HOJ.out rfl
            obtain ⟨ov, okey, odata, otext, oflags, ocas, owc⟩ := own
            simp only at hc8
            subst hc8
            cases hk : tellOk is2[oj].told a.cas
            · have HRR := Lib.hid (getOwn_bad HGO.out oj hojl rfl hk)
              have HT := Lib.hid (tell_no HR8.out oj hojl a.cas hk)
              have hpc := HPC.out
              rw [hpc] at z9
              clear hk hpc
              go_wp2_with (go_at_call 65; refine HT.out.mono ?_; rintro e w9 ⟨rfl, rfl⟩)
              go_ret
              rw [HRR.out]
              exact ⟨rfl, HB8.out.trans (hW8.mono hBc), fun h => by cases h⟩
            · have HRR := Lib.hid (getOwn_ok HGO.out oj hojl rfl hk)
              have HT := Lib.hid (tell_ok HR8.out oj hojl a.cas hk)
              have hpc := HPC.out
              rw [hpc] at z9
              clear hk hpc
              go_upto_if 94 with (go_at_call 65; refine HT.out.mono ?_; rintro e w9 ⟨rfl, hr9, hb9, hk9⟩)
              have e1 := hk9 _ _ (heap_alloc_new wc _) (fun _ e => by cases e)
              have e9 := hk9 _ _ Q9.out (fun _ e => by cases e)
              have y1 : ∀ o, w9.cell? ⟨wc.heap.size, o, none⟩ = (#[.bool ov, .string okey, .string odata, .string otext, .int .u32 oflags, .int .u64 ((oj : Int) + 1), .bool owc] : Array Value)[o]? := fun o => cell_of_row w9 wc.heap.size o _ 46 (0, 0) e1
              have hpc := HPC.out
              have y9 : ∀ o, w9.cell? ⟨w3.heap.size, o, none⟩ = (#[.bool (M.plain a).v, .string (M.plain a).key, .string (M.plain a).data, .string (M.plain a).text, .int .u32 (M.plain a).flags, .int .u64 (M.plain a).cas, .bool (M.plain a).withCas] : Array Value)[o]? := fun o => cell_of_row w9 w3.heap.size o _ 46 (0, 0) e9
              rw [hpc] at y9
              have f1 : w9.frozen? ⟨wc.heap.size, 5, none⟩ = false := froz_at e1
              have hne9 : w3.heap.size ≠ wc.heap.size := by omega
              have HR9 := Lib.hid (hr9.other e1 (by decide) (by decide) (by decide) (by decide) 5 (.int .u64 a.cas))
              have HB9 := Lib.hid (HB8.out.trans ((hW8.mono hBc).trans hb9))
              clear hr9 hb9 hk9 e1 e9 z9 zv z0 hW8 hpc
              go_wp2_with fail
              go_ret
              rw [HRR.out]
              exact ⟨congrArg (fun b => Ending.returned (.bool b)) (eqA_plain ov okey odata otext oflags owc a HPC.out), Below.setCell HB9.out (by exact hBc) _, fun _ => ⟨_, A2, c2, HR9.out, rfl⟩⟩
  · have hG : getF ⟨l, is.map Ch.sees, losses⟩ xwc true xe key ans now = (false, ⟨l, is.map Ch.sees, losses⟩) := by unfold getF; rw [hst]
    have HGG := Lib.hid (hG.symm.trans HR.out)
    have hlen := ha.1
    simp only [List.length_cons] at hlen
    have t1 : ((m' : Int) == 0) = false := by simp; omega
    have t2 : ((m' : Int) == 1) = false := by simp; omega
    have t3 : ((m' : Int) != 1) = true := by simp; omega
    clear hst ha hG hlen
    go_wp2_with fail
    go_ret
    rw [← HGG.out]
    exact ⟨rfl, hbw.mono hB, fun h => by cases h⟩
end Go.Proofs.YtbhnmaghnnpboaaDoor

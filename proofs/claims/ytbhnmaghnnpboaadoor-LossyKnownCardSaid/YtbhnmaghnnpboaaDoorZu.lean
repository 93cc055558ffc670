/- lossy: step, the main part. -/
import Derived.Test.YtbhnmaghnnpboaaDoorZt
namespace Go.Proofs.YtbhnmaghnnpboaaDoor
open Go.RowKit
attribute [local go_sem ↓] Go.wp_at_zero Go.wp_at_succ

theorem lostF_chs (s : RS) (x : M.Cmd) (now : Int) (told : ByteArray) : (lostF s x now told).chs = s.chs := by
  unfold lostF loseF
  split
  · split <;> rfl
  · rfl
def restF (s : RS) (x : M.Cmd) (now : Int) (told : ByteArray) : Bool × RS :=
  if isCas x told then casF s (sfOf x.of).key (sfOf x.of).data (sfOf x.of).flags (sfOf x.of).exp (sfOf x.of).cas now told else mainF s x now told
theorem first_getD (l : List ByteArray) : some (Value.string (l.getD 0 ⟨#[]⟩)) = some (Value.string (M.first l)) := by cases l <;> rfl
theorem mdel_mem {k : ByteArray} {p : ByteArray × M.Item} : ∀ (l : M.Mp), p ∈ M.mdel l k → p ∈ l
  | [], h => h
  | q :: l, h => by
    unfold M.mdel at h
    split at h
    · exact List.mem_cons_of_mem _ h
    · rcases List.mem_cons.1 h with h | h
      · rw [h]; exact List.mem_cons_self
      · exact List.mem_cons_of_mem _ (mdel_mem l h)
theorem lost_l (s : RS) (x : M.Cmd) (now : Int) (told : ByteArray) : (lostF s x now told).l = s.l ∨ ∃ k, (lostF s x now told).l = M.mdel s.l k := by
  unfold lostF loseF
  split
  · split
    · exact .inl rfl
    · exact .inr ⟨_, rfl⟩
  · exact .inl rfl
theorem small_lost {l : M.Mp} {chs : List (Int × List Int)} {n : Int} (h : Small l) (x : M.Cmd) (now : Int) (told : ByteArray) : Small (lostF ⟨l, chs, n⟩ x now told).l := by
  rcases lost_l ⟨l, chs, n⟩ x now told with e | ⟨k, e⟩
  · rw [e]; exact h
  · rw [e]; exact fun p hp => h p (mdel_mem l hp)
theorem ver_lost {l : M.Mp} {chs : List (Int × List Int)} {n : Int} {c : Nat} (h : VerOk l c) (x : M.Cmd) (now : Int) (told : ByteArray) : VerOk (lostF ⟨l, chs, n⟩ x now told).l c := by
  rcases lost_l ⟨l, chs, n⟩ x now told with e | ⟨k, e⟩
  · rw [e]; exact h
  · rw [e]; exact fun p hp => h p (mdel_mem l hp)
theorem losses_lost (s : RS) (x : M.Cmd) (now : Int) (told : ByteArray) : s.losses ≤ (lostF s x now told).losses ∧ (lostF s x now told).losses ≤ s.losses + 1 := by
  unfold lostF loseF
  split
  · split
    · exact ⟨by omega, by omega⟩
    · exact ⟨by simp only; omega, by simp only; omega⟩
  · exact ⟨by omega, by omega⟩
theorem isCas_parts {x : M.Cmd} {told : ByteArray} (h : isCas x told = true) : (sfOf x.of).verb = M.vcas ∧ (∀ (f e v : Int) (q : Bool), goodF ⟨M.sStore, (sfOf x.of).verb, [(sfOf x.of).key], (sfOf x.of).data, f, e, v, 0, false, false, false, q⟩ = true) ∧ (sfOf x.of).exp = x.exp := by
  unfold isCas at h
  simp only [Bool.and_eq_true] at h
  obtain ⟨⟨⟨h1, h2⟩, h3⟩, h4⟩ := h
  have hx : ∃ verb key data flags exp cas q, x.of = .store verb key data flags exp cas q ∧ exp = x.exp := by
    rcases what_of x with ⟨_, k⟩ | ⟨_, k⟩ | ⟨_, k⟩ | ⟨_, k⟩ | ⟨_, k⟩ | ⟨_, k⟩ | ⟨_, k⟩ | ⟨_, k⟩ | ⟨_, k⟩ <;> rw [k] at h1 ⊢ <;> first | exact ⟨_, _, _, _, _, _, _, rfl, rfl⟩ | (simp [isSt] at h1)
  obtain ⟨verb, key, data, flags, exp, cas, q, e, he⟩ := hx
  unfold goodF at h2
  rw [e] at h2 h3 ⊢
  refine ⟨?_, fun f e v q => ?_, he⟩
  · rw [eqs_iff _ M.vcas _ (by rw [ByteArray.toList_eq]; rfl)] at h3
    exact of_decide_eq_true h3
  · unfold goodF
    exact h2
theorem told_pos {a : ByteArray} (h : a.toList.isEmpty = false) : 0 < a.size := by
  rcases Nat.eq_zero_or_pos a.size with h0 | h0
  · rw [ByteArray.toList_eq] at h
    have : a.data.toList = [] := List.eq_nil_of_length_eq_zero (by rw [Array.length_toList]; exact h0)
    rw [this] at h; cases h
  · exact h0
theorem some_eq (t told : ByteArray) : (t.toList == told.toList) = decide (some t = some told) := by
  rw [Bool.eq_iff_iff, beq_iff_eq, decide_eq_true_eq, Option.some.injEq]
  exact Eq.to_iff (tl_inj t told)
theorem str_ne (a : ByteArray) : (a.toList == []) = a.toList.isEmpty := by cases a.toList <;> rfl

set_option maxRecDepth 100000 in
set_option maxHeartbeats 4000000 in
theorem step_main {B : Nat} {w : World} {rb mb g : Nat} {l : M.Mp} {is : List Ch} {losses : Int} {A0 : Option Addr} {cc : Nat} (h : RunSt B w rb mb g l is losses A0 cc) (ht : Tabs w) (h7 : 7 ≤ B) (xw xv : ByteArray) (xk : List ByteArray) (xd : ByteArray) (xf xe xc xb : Int) (xwc xwt xdn xq : Bool) (A SA : Option Addr) (n c m sc : Nat) (key : ByteArray) (now : Int) (ans : List M.Ans)
    (hk : RdS w B A n xk) (ha : RdA w B SA m ans) (_hm : m ≤ sc ∧ sc ≤ 9223372036854775807) (hok : CmdOk (⟨xw, xv, xk, xd, xf, xe, xc, xb, xwc, xwt, xdn, xq⟩ : M.Cmd)) (hn : I64 now) (hv : VerOk l is.length) (hsm : Small l) (hl : 0 ≤ losses ∧ losses < 9223372036854775807) (hs : is.length < 1000000) (h0 : xw ≠ M.sGet) (hng : isGet (M.Cmd.of (⟨xw, xv, xk, xd, xf, xe, xc, xb, xwc, xwt, xdn, xq⟩ : M.Cmd)) = false) (told : ByteArray) (htx : textF ans = (told, true)) (hm0 : ans ≠ []) (hnots : ∀ x ∈ is, x.nots.length < 1000000) (hnp : goneF (⟨xw, xv, xk, xd, xf, xe, xc, xb, xwc, xwt, xdn, xq⟩ : M.Cmd) told = true → 0 < (M.Cmd.of (⟨xw, xv, xk, xd, xf, xe, xc, xb, xwc, xwt, xdn, xq⟩ : M.Cmd)).keys.length) (hl2 : losses < 1000000) :
    Calls Tryd.prog 36 #[.pointer (some ⟨rb, 0, none⟩), .agg (#[Value.string xw, Value.string xv, Value.slice A n c, Value.string xd, Value.int .u32 xf, Value.int .i64 xe, Value.int .u64 xc, Value.int .u64 xb, Value.bool xwc, Value.bool xwt, Value.bool xdn, Value.bool xq, Value.string key, Value.slice SA m sc, Value.int .i64 now] : Array Value)] w (Stepped B w rb mb g (restF (lostF ⟨l, is.map Ch.sees, losses⟩ (⟨xw, xv, xk, xd, xf, xe, xc, xb, xwc, xwt, xdn, xq⟩ : M.Cmd) now told) (⟨xw, xv, xk, xd, xf, xe, xc, xb, xwc, xwt, xdn, xq⟩ : M.Cmd) now told)) := by
  have hmm : m ≠ 0 := fun e => hm0 (List.length_eq_zero_iff.1 (by rw [ha.1, e]))
  have t0 : ((m : Int) == 0) = false := by simp; omega
  have HTX := Lib.hid htx
  have HK0 := Lib.hid hk
  have HT0 := Lib.hid ht
  have HNT := Lib.hid hnots
  have HNP := Lib.hid hnp
  have HRL := Lib.hid (show rb < w.heap.size from (Array.getElem?_eq_some_iff.1 h.hd).1)
  clear hm0 htx hnots hnp
  have hB : B ≤ w.heap.size := by have := h.lo.1; have := (Array.getElem?_eq_some_iff.1 h.hd).1; omega
  have hW : Below w.heap.size w (w.alloc (.cells (#[Value.string xw, Value.string xv, Value.slice A n c, Value.string xd, Value.int .u32 xf, Value.int .i64 xe, Value.int .u64 xc, Value.int .u64 xb, Value.bool xwc, Value.bool xwt, Value.bool xdn, Value.bool xq, Value.string key, Value.slice SA m sc, Value.int .i64 now] : Array Value) 32)) := bel_alloc (bel_refl w) _
  have hgl := h.map.at_.lt
  have hlo := h.lo
  have hof := of_any (⟨xw, xv, xk, xd, xf, xe, xc, xb, xwc, xwt, xdn, xq⟩ : M.Cmd) A n c _ ((hk.below hW hB).more (by simp; omega))
  have HOF := Lib.hid hof
  have H := Lib.hid (h.below hW)
  have HA := Lib.hid (ha.below hW hB)
  have HK := Lib.hid (hk.below hW hB)
  have HX := Lib.hid (show (⟨xw, xv, xk, xd, xf, xe, xc, xb, xwc, xwt, xdn, xq⟩ : M.Cmd).what ≠ M.sGet from h0)
  have HG := Lib.hid hng
  have HOK := Lib.hid hok
  have HN := Lib.hid hn
  have HV := Lib.hid hv
  have HSM := Lib.hid hsm
  have HT := Lib.hid (ht.bel hW)
  clear h hk ha hok hn hv hsm h0 hof ht hng
  go_enter Tryd.func36, Tryd.ntmps36
  go_wp2_with fail
  refine HOF.out.mono ?_
  rintro e w1 ⟨KA, kc, rfl, _, hb1⟩
  have hta := ta98 (.slice KA n kc) (⟨xw, xv, xk, xd, xf, xe, xc, xb, xwc, xwt, xdn, xq⟩ : M.Cmd).of HG.out
  have hta83 := ta83 (.slice KA n kc) (⟨xw, xv, xk, xd, xf, xe, xc, xb, xwc, xwt, xdn, xq⟩ : M.Cmd).of
  have hq0 : w1.heap[w.heap.size]? = some (.cells (#[Value.string xw, Value.string xv, Value.slice A n c, Value.string xd, Value.int .u32 xf, Value.int .i64 xe, Value.int .u64 xc, Value.int .u64 xb, Value.bool xwc, Value.bool xwt, Value.bool xdn, Value.bool xq, Value.string key, Value.slice SA m sc, Value.int .i64 now] : Array Value) 32) := (hb1.block w.heap.size (by simp)).trans (heap_alloc_new w _)
  have hW1 : Below w.heap.size w w1 := bel_of hb1
  have hsz : w.heap.size < w1.heap.size := size_of hb1
  have HR := Lib.hid (H.out.below hb1)
  have HA1 := Lib.hid (HA.out.below hb1 (by simp; omega))
  have HK1 := Lib.hid (HK.out.below hb1 (by simp; omega))
  have HT1 := Lib.hid (HT.out.bel hb1)
  have z0 : ∀ o, w1.cell? ⟨w.heap.size, o, none⟩ = ((#[Value.string xw, Value.string xv, Value.slice A n c, Value.string xd, Value.int .u32 xf, Value.int .i64 xe, Value.int .u64 xc, Value.int .u64 xb, Value.bool xwc, Value.bool xwt, Value.bool xdn, Value.bool xq, Value.string key, Value.slice SA m sc, Value.int .i64 now] : Array Value))[o]? := fun o => cell_of_row w1 w.heap.size o _ 32 (0, 0) hq0
  have HQ := Lib.hid hq0
  clear HOF
  have HAB := Lib.hid (fun W => absent_any (.slice KA n kc) (⟨xw, xv, xk, xd, xf, xe, xc, xb, xwc, xwt, xdn, xq⟩ : M.Cmd).of told W)
  have HCH := Lib.hid (fun W (hz : 0 < told.size) => changes_nz (.slice KA n kc) (⟨xw, xv, xk, xd, xf, xe, xc, xb, xwc, xwt, xdn, xq⟩ : M.Cmd).of told W hz)
  generalize cV (.slice KA n kc) (⟨xw, xv, xk, xd, xf, xe, xc, xb, xwc, xwt, xdn, xq⟩ : M.Cmd).of = V at *
  have HTC := Lib.hid (text_any_l SA m sc ans _ ((HA1.out.below (bel_alloc (bel_refl w1) (.cells #[.slice none 0 0, .bool false, .bool false, .int .i64 0] 98)) (by omega)).more (by simp; omega)))
  go_upto_region 11 with (first | (go_at_call 54; refine HTC.out.mono ?_; rw [HTX.out]; rintro e w2 ⟨rfl, hb2⟩; have hb12 := bel_trans (bel_alloc (bel_refl w1) _) hb2; have z2 : ∀ o, w2.cell? ⟨w.heap.size, o, none⟩ = ((#[Value.string xw, Value.string xv, Value.slice A n c, Value.string xd, Value.int .u32 xf, Value.int .i64 xe, Value.int .u64 xc, Value.int .u64 xb, Value.bool xwc, Value.bool xwt, Value.bool xdn, Value.bool xq, Value.string key, Value.slice SA m sc, Value.int .i64 now] : Array Value))[o]? := (fun o => (hb12.cell (p := ⟨w.heap.size, o, none⟩) (show w.heap.size < w1.heap.size by omega)).trans (z0 o)); clear hb2) | (go_at_call 17; refine (good_any (⟨xw, xv, xk, xd, xf, xe, xc, xb, xwc, xwt, xdn, xq⟩ : M.Cmd) A n c w2 ((HK1.out.below hb12 (by omega)).more (by have := hb12.size; omega)) (HT1.out.bel hb12)).mono ?_; rintro e w3 ⟨rfl, hb3⟩))
  have hb13 := bel_trans hb12 hb3
  have hq3 := (hb13.block w.heap.size hsz).trans hq0
  have hs3 : w.heap.size < w3.heap.size := by have := hb13.size; omega
  have HR3 := Lib.hid (HR.out.below hb13)
  have HK3 := Lib.hid ((HK1.out.below hb13 (by omega)).more (show B ≤ w3.heap.size by omega))
  have HT3 := Lib.hid (HT1.out.bel hb13)
  have HW3 := Lib.hid ((hW1.trans (hb13.mono hW1.size)).mono hB)
  clear z0 z2 hb12 hb3 hb13 hq0 hta HTC hb1
  generalize hgood : goodF (⟨xw, xv, xk, xd, xf, xe, xc, xb, xwc, xwt, xdn, xq⟩ : M.Cmd) = gd
  have HGD := Lib.hid hgood
  clear hgood
  go_cut [59] from 54 to 58 (fun v wx => v = .bool (goneF (⟨xw, xv, xk, xd, xf, xe, xc, xb, xwc, xwt, xdn, xq⟩ : M.Cmd) told) ∧ Below w3.heap.size w3 wx)
  case first =>
    cases gd
    · go_wp2_with fail
      go_meet
      exact ⟨by unfold goneF; rw [HGD.out]; rfl, bel_refl _⟩
    · go_wp2_with (go_at_call 55; refine (HAB.out w3).mono ?_; rintro e w4 ⟨rfl, hb4⟩; have HB4 := Lib.hid hb4; clear hb4)
      go_meet
      exact ⟨by unfold goneF; rw [HGD.out]; rfl, HB4.out⟩
  case rest =>
  obtain ⟨rfl, hb4⟩ := hcut
  have hq4 := (hb4.block w.heap.size hs3).trans hq3
  have hs4 : w.heap.size < wc.heap.size := by have := hb4.size; omega
  have HR4 := Lib.hid (HR3.out.below hb4)
  have HK4 := Lib.hid ((HK3.out.below hb4 (Nat.le_refl _)).more hb4.size)
  have HT4 := Lib.hid (HT3.out.bel hb4)
  have HW4 := Lib.hid (HW3.out.trans (hb4.mono (by omega)))
  have hz4 : ∀ o, wc.cell? ⟨w.heap.size, o, none⟩ = ((#[Value.string xw, Value.string xv, Value.slice A n c, Value.string xd, Value.int .u32 xf, Value.int .i64 xe, Value.int .u64 xc, Value.int .u64 xb, Value.bool xwc, Value.bool xwt, Value.bool xdn, Value.bool xq, Value.string key, Value.slice SA m sc, Value.int .i64 now] : Array Value))[o]? := fun o => cell_of_row wc w.heap.size o _ 32 (0, 0) hq4
  have HQ4 := Lib.hid hq4
  clear hb4 hq3 hq4
  go_upto_if 59 with fail
  generalize hgone : goneF (⟨xw, xv, xk, xd, xf, xe, xc, xb, xwc, xwt, xdn, xq⟩ : M.Cmd) told = q59
  have hrl : rb < w.heap.size := HRL.out
  go_cut [] from 60 to 68 (fun wx => RunSt B wx rb mb g (lostF ⟨l, is.map Ch.sees, losses⟩ (⟨xw, xv, xk, xd, xf, xe, xc, xb, xwc, xwt, xdn, xq⟩ : M.Cmd) now told).l is (lostF ⟨l, is.map Ch.sees, losses⟩ (⟨xw, xv, xk, xd, xf, xe, xc, xb, xwc, xwt, xdn, xq⟩ : M.Cmd) now told).losses A0 cc ∧ Below B wc wx ∧ wx.heap[w.heap.size]? = some (.cells (#[Value.string xw, Value.string xv, Value.slice A n c, Value.string xd, Value.int .u32 xf, Value.int .i64 xe, Value.int .u64 xc, Value.int .u64 xb, Value.bool xwc, Value.bool xwt, Value.bool xdn, Value.bool xq, Value.string key, Value.slice SA m sc, Value.int .i64 now] : Array Value) 32))
  case first =>
    cases q59
    · have HLO := Lib.hid (show (lostF ⟨l, is.map Ch.sees, losses⟩ (⟨xw, xv, xk, xd, xf, xe, xc, xb, xwc, xwt, xdn, xq⟩ : M.Cmd) now told) = ⟨l, is.map Ch.sees, losses⟩ by unfold lostF; rw [hgone]; rfl)
      clear hgone
      go_wp2_with fail
      go_meet
      rw [HLO.out]
      exact ⟨HR4.out, Below.refl _ _, HQ4.out⟩
    · have HLO := Lib.hid (show (lostF ⟨l, is.map Ch.sees, losses⟩ (⟨xw, xv, xk, xd, xf, xe, xc, xb, xwc, xwt, xdn, xq⟩ : M.Cmd) now told) = loseF ⟨l, is.map Ch.sees, losses⟩ (M.first (⟨xw, xv, xk, xd, xf, xe, xc, xb, xwc, xwt, xdn, xq⟩ : M.Cmd).of.keys) now by unfold lostF; rw [hgone]; rfl)
      have HPOS := Lib.hid (HNP.out hgone)
      clear hgone
      have HK4D := Lib.hid (show RdS wc.drew wc.drew.heap.size A n xk from HK4.out.below (bel_drew (bel_refl wc)) (Nat.le_refl _))
      go_wp2_with fail
      go_region_with (first | (go_at_call 32; (with_reducible refine (keys_any (⟨xw, xv, xk, xd, xf, xe, xc, xb, xwc, xwt, xdn, xq⟩ : M.Cmd) A n c wc.drew HK4D.out).mono ?_); rintro e w10 ⟨KB, kn, kcc, rfl, hkr, hb10⟩; obtain ⟨kb, koff, rfl, hklt, hkc⟩ := hkr.2.2 (by have := HPOS.out; have := hkr.1; omega); have hpos : 0 < kn := (by have := HPOS.out; have := hkr.1; omega); have hk0 : w10.cell? ⟨kb, koff, none⟩ = some (.string (M.first (⟨xw, xv, xk, xd, xf, xe, xc, xb, xwc, xwt, xdn, xq⟩ : M.Cmd).of.keys)) := ((hkc 0 hpos).trans (by rw [first_getD])); have hbz := bel_trans (bel_drew (bel_refl wc)) hb10; have hk6 : ∀ o, w10.cell? ⟨w.heap.size, o, none⟩ = wc.cell? ⟨w.heap.size, o, none⟩ := (fun o => hbz.cell (p := ⟨w.heap.size, o, none⟩) hs4); clear hkc hkr) | (go_at_call 56; (with_reducible refine (lose_any (HR4.out.below hbz) (M.first (⟨xw, xv, xk, xd, xf, xe, xc, xb, xwc, xwt, xdn, xq⟩ : M.Cmd).of.keys) now hl).mono ?_); rintro e w12 ⟨rfl, hr12, hb12, hk12⟩; have HR12 := Lib.hid hr12; have HK12 := Lib.hid hk12; have HB12 := Lib.hid hb12; clear hr12 hk12 hb12))
      all_goals
        go_wp2_with fail
        go_meet
        rw [HLO.out]
        exact ⟨HR12.out, (hbz.mono (by omega)).trans HB12.out, HK12.out.2 _ _ ((hbz.block w.heap.size hs4).trans HQ4.out) (by omega) (by omega)⟩
  case rest =>
  obtain ⟨hr5, hb5, hq5⟩ := hcut
  have hS1 : (lostF ⟨l, is.map Ch.sees, losses⟩ (⟨xw, xv, xk, xd, xf, xe, xc, xb, xwc, xwt, xdn, xq⟩ : M.Cmd) now told) = ⟨(lostF ⟨l, is.map Ch.sees, losses⟩ (⟨xw, xv, xk, xd, xf, xe, xc, xb, xwc, xwt, xdn, xq⟩ : M.Cmd) now told).l, is.map Ch.sees, (lostF ⟨l, is.map Ch.sees, losses⟩ (⟨xw, xv, xk, xd, xf, xe, xc, xb, xwc, xwt, xdn, xq⟩ : M.Cmd) now told).losses⟩ := by
    have := lostF_chs ⟨l, is.map Ch.sees, losses⟩ (⟨xw, xv, xk, xd, xf, xe, xc, xb, xwc, xwt, xdn, xq⟩ : M.Cmd) now told
    generalize (lostF ⟨l, is.map Ch.sees, losses⟩ (⟨xw, xv, xk, xd, xf, xe, xc, xb, xwc, xwt, xdn, xq⟩ : M.Cmd) now told) = s1 at this ⊢
    obtain ⟨a1, a2, a3⟩ := s1
    simp only at this
    rw [this]
  have hsm1 : Small (lostF ⟨l, is.map Ch.sees, losses⟩ (⟨xw, xv, xk, xd, xf, xe, xc, xb, xwc, xwt, xdn, xq⟩ : M.Cmd) now told).l := small_lost HSM.out _ _ _
  have hvr1 : VerOk (lostF ⟨l, is.map Ch.sees, losses⟩ (⟨xw, xv, xk, xd, xf, xe, xc, xb, xwc, xwt, xdn, xq⟩ : M.Cmd) now told).l is.length := ver_lost HV.out _ _ _
  have hlo1 : 0 ≤ (lostF ⟨l, is.map Ch.sees, losses⟩ (⟨xw, xv, xk, xd, xf, xe, xc, xb, xwc, xwt, xdn, xq⟩ : M.Cmd) now told).losses ∧ (lostF ⟨l, is.map Ch.sees, losses⟩ (⟨xw, xv, xk, xd, xf, xe, xc, xb, xwc, xwt, xdn, xq⟩ : M.Cmd) now told).losses < 9223372036854775807 := by have := losses_lost ⟨l, is.map Ch.sees, losses⟩ (⟨xw, xv, xk, xd, xf, xe, xc, xb, xwc, xwt, xdn, xq⟩ : M.Cmd) now told; simp only at this; omega
  have HS1 := Lib.hid hS1
  clear hS1
  generalize (lostF ⟨l, is.map Ch.sees, losses⟩ (⟨xw, xv, xk, xd, xf, xe, xc, xb, xwc, xwt, xdn, xq⟩ : M.Cmd) now told).l = l1 at *
  generalize (lostF ⟨l, is.map Ch.sees, losses⟩ (⟨xw, xv, xk, xd, xf, xe, xc, xb, xwc, xwt, xdn, xq⟩ : M.Cmd) now told).losses = n1 at *
  have HSM1 := Lib.hid hsm1
  have HVR1 := Lib.hid hvr1
  have HR5 := Lib.hid hr5
  have HQ5 := Lib.hid hq5
  have HB5 := Lib.hid hb5
  clear hsm1 hvr1 hr5 hq5 hb5
  generalize hst : isSt (⟨xw, xv, xk, xd, xf, xe, xc, xb, xwc, xwt, xdn, xq⟩ : M.Cmd).of = st at hta83
  have HST := Lib.hid hst
  clear hst
  go_upto_region 14 with fail
  have hbk : Below wc.heap.size wc (wc.alloc (.cells (#[Value.string (sfOf (⟨xw, xv, xk, xd, xf, xe, xc, xb, xwc, xwt, xdn, xq⟩ : M.Cmd).of).verb, Value.string (sfOf (⟨xw, xv, xk, xd, xf, xe, xc, xb, xwc, xwt, xdn, xq⟩ : M.Cmd).of).key, Value.string (sfOf (⟨xw, xv, xk, xd, xf, xe, xc, xb, xwc, xwt, xdn, xq⟩ : M.Cmd).of).data, Value.int .u32 (sfOf (⟨xw, xv, xk, xd, xf, xe, xc, xb, xwc, xwt, xdn, xq⟩ : M.Cmd).of).flags, Value.int .i64 (sfOf (⟨xw, xv, xk, xd, xf, xe, xc, xb, xwc, xwt, xdn, xq⟩ : M.Cmd).of).exp, Value.int .u64 (sfOf (⟨xw, xv, xk, xd, xf, xe, xc, xb, xwc, xwt, xdn, xq⟩ : M.Cmd).of).cas, Value.bool (sfOf (⟨xw, xv, xk, xd, xf, xe, xc, xb, xwc, xwt, xdn, xq⟩ : M.Cmd).of).quiet] : Array Value) 83)) := bel_alloc (bel_refl wc) _
  have hqc : (wc.alloc (.cells (#[Value.string (sfOf (⟨xw, xv, xk, xd, xf, xe, xc, xb, xwc, xwt, xdn, xq⟩ : M.Cmd).of).verb, Value.string (sfOf (⟨xw, xv, xk, xd, xf, xe, xc, xb, xwc, xwt, xdn, xq⟩ : M.Cmd).of).key, Value.string (sfOf (⟨xw, xv, xk, xd, xf, xe, xc, xb, xwc, xwt, xdn, xq⟩ : M.Cmd).of).data, Value.int .u32 (sfOf (⟨xw, xv, xk, xd, xf, xe, xc, xb, xwc, xwt, xdn, xq⟩ : M.Cmd).of).flags, Value.int .i64 (sfOf (⟨xw, xv, xk, xd, xf, xe, xc, xb, xwc, xwt, xdn, xq⟩ : M.Cmd).of).exp, Value.int .u64 (sfOf (⟨xw, xv, xk, xd, xf, xe, xc, xb, xwc, xwt, xdn, xq⟩ : M.Cmd).of).cas, Value.bool (sfOf (⟨xw, xv, xk, xd, xf, xe, xc, xb, xwc, xwt, xdn, xq⟩ : M.Cmd).of).quiet] : Array Value) 83)).heap[wc.heap.size]? = some (.cells (#[Value.string (sfOf (⟨xw, xv, xk, xd, xf, xe, xc, xb, xwc, xwt, xdn, xq⟩ : M.Cmd).of).verb, Value.string (sfOf (⟨xw, xv, xk, xd, xf, xe, xc, xb, xwc, xwt, xdn, xq⟩ : M.Cmd).of).key, Value.string (sfOf (⟨xw, xv, xk, xd, xf, xe, xc, xb, xwc, xwt, xdn, xq⟩ : M.Cmd).of).data, Value.int .u32 (sfOf (⟨xw, xv, xk, xd, xf, xe, xc, xb, xwc, xwt, xdn, xq⟩ : M.Cmd).of).flags, Value.int .i64 (sfOf (⟨xw, xv, xk, xd, xf, xe, xc, xb, xwc, xwt, xdn, xq⟩ : M.Cmd).of).exp, Value.int .u64 (sfOf (⟨xw, xv, xk, xd, xf, xe, xc, xb, xwc, xwt, xdn, xq⟩ : M.Cmd).of).cas, Value.bool (sfOf (⟨xw, xv, xk, xd, xf, xe, xc, xb, xwc, xwt, xdn, xq⟩ : M.Cmd).of).quiet] : Array Value) 83) := heap_alloc_new wc _
  have hsc : w.heap.size < wc.heap.size := (Array.getElem?_eq_some_iff.1 HQ5.out).1
  have hqs : (wc.alloc (.cells (#[Value.string (sfOf (⟨xw, xv, xk, xd, xf, xe, xc, xb, xwc, xwt, xdn, xq⟩ : M.Cmd).of).verb, Value.string (sfOf (⟨xw, xv, xk, xd, xf, xe, xc, xb, xwc, xwt, xdn, xq⟩ : M.Cmd).of).key, Value.string (sfOf (⟨xw, xv, xk, xd, xf, xe, xc, xb, xwc, xwt, xdn, xq⟩ : M.Cmd).of).data, Value.int .u32 (sfOf (⟨xw, xv, xk, xd, xf, xe, xc, xb, xwc, xwt, xdn, xq⟩ : M.Cmd).of).flags, Value.int .i64 (sfOf (⟨xw, xv, xk, xd, xf, xe, xc, xb, xwc, xwt, xdn, xq⟩ : M.Cmd).of).exp, Value.int .u64 (sfOf (⟨xw, xv, xk, xd, xf, xe, xc, xb, xwc, xwt, xdn, xq⟩ : M.Cmd).of).cas, Value.bool (sfOf (⟨xw, xv, xk, xd, xf, xe, xc, xb, xwc, xwt, xdn, xq⟩ : M.Cmd).of).quiet] : Array Value) 83)).heap[w.heap.size]? = some (.cells (#[Value.string xw, Value.string xv, Value.slice A n c, Value.string xd, Value.int .u32 xf, Value.int .i64 xe, Value.int .u64 xc, Value.int .u64 xb, Value.bool xwc, Value.bool xwt, Value.bool xdn, Value.bool xq, Value.string key, Value.slice SA m sc, Value.int .i64 now] : Array Value) 32) := (hbk.block w.heap.size hsc).trans HQ5.out
  generalize wc.alloc (.cells (#[Value.string (sfOf (⟨xw, xv, xk, xd, xf, xe, xc, xb, xwc, xwt, xdn, xq⟩ : M.Cmd).of).verb, Value.string (sfOf (⟨xw, xv, xk, xd, xf, xe, xc, xb, xwc, xwt, xdn, xq⟩ : M.Cmd).of).key, Value.string (sfOf (⟨xw, xv, xk, xd, xf, xe, xc, xb, xwc, xwt, xdn, xq⟩ : M.Cmd).of).data, Value.int .u32 (sfOf (⟨xw, xv, xk, xd, xf, xe, xc, xb, xwc, xwt, xdn, xq⟩ : M.Cmd).of).flags, Value.int .i64 (sfOf (⟨xw, xv, xk, xd, xf, xe, xc, xb, xwc, xwt, xdn, xq⟩ : M.Cmd).of).exp, Value.int .u64 (sfOf (⟨xw, xv, xk, xd, xf, xe, xc, xb, xwc, xwt, xdn, xq⟩ : M.Cmd).of).cas, Value.bool (sfOf (⟨xw, xv, xk, xd, xf, xe, xc, xb, xwc, xwt, xdn, xq⟩ : M.Cmd).of).quiet] : Array Value) 83) = wk at *
  have HRK := Lib.hid (HR5.out.below hbk)
  have HBK := Lib.hid ((HW4.out.trans HB5.out).trans (hbk.mono (by have := HR5.out.lo; have := (Array.getElem?_eq_some_iff.1 HR5.out.hd).1; omega)))
  have HQC := Lib.hid hqc
  have HQS := Lib.hid hqs
  have hsk : w.heap.size < wk.heap.size := (Array.getElem?_eq_some_iff.1 hqs).1
  have HKK := Lib.hid ((HK0.out.below HBK.out (Nat.le_refl _)).more (show B ≤ wk.heap.size by omega))
  have HTK := Lib.hid (HT0.out.below HBK.out h7)
  have zc : ∀ o, wk.cell? ⟨wc.heap.size, o, none⟩ = ((#[Value.string (sfOf (⟨xw, xv, xk, xd, xf, xe, xc, xb, xwc, xwt, xdn, xq⟩ : M.Cmd).of).verb, Value.string (sfOf (⟨xw, xv, xk, xd, xf, xe, xc, xb, xwc, xwt, xdn, xq⟩ : M.Cmd).of).key, Value.string (sfOf (⟨xw, xv, xk, xd, xf, xe, xc, xb, xwc, xwt, xdn, xq⟩ : M.Cmd).of).data, Value.int .u32 (sfOf (⟨xw, xv, xk, xd, xf, xe, xc, xb, xwc, xwt, xdn, xq⟩ : M.Cmd).of).flags, Value.int .i64 (sfOf (⟨xw, xv, xk, xd, xf, xe, xc, xb, xwc, xwt, xdn, xq⟩ : M.Cmd).of).exp, Value.int .u64 (sfOf (⟨xw, xv, xk, xd, xf, xe, xc, xb, xwc, xwt, xdn, xq⟩ : M.Cmd).of).cas, Value.bool (sfOf (⟨xw, xv, xk, xd, xf, xe, xc, xb, xwc, xwt, xdn, xq⟩ : M.Cmd).of).quiet] : Array Value))[o]? := fun o => cell_of_row wk wc.heap.size o _ 83 (0, 0) hqc
  have zs : ∀ o, wk.cell? ⟨w.heap.size, o, none⟩ = ((#[Value.string xw, Value.string xv, Value.slice A n c, Value.string xd, Value.int .u32 xf, Value.int .i64 xe, Value.int .u64 xc, Value.int .u64 xb, Value.bool xwc, Value.bool xwt, Value.bool xdn, Value.bool xq, Value.string key, Value.slice SA m sc, Value.int .i64 now] : Array Value))[o]? := fun o => cell_of_row wk w.heap.size o _ 32 (0, 0) hqs
  clear hbk hqc hqs hta83 hz4
  go_cut [86] from 74 to 85 (fun v wx => v = .bool (isCas (⟨xw, xv, xk, xd, xf, xe, xc, xb, xwc, xwt, xdn, xq⟩ : M.Cmd) told) ∧ wk = wx)
  case first =>
    cases st
    · go_wp2_with fail
      go_meet
      exact ⟨by unfold isCas; rw [HST.out]; rfl, rfl⟩
    · cases gd
      · go_wp2_with fail
        go_meet
        exact ⟨by unfold isCas; rw [HST.out, HGD.out]; rfl, rfl⟩
      · cases hvb : (sfOf (⟨xw, xv, xk, xd, xf, xe, xc, xb, xwc, xwt, xdn, xq⟩ : M.Cmd).of).verb.toList == [99, 97, 115]
        · go_wp2_with fail
          go_meet
          exact ⟨by unfold isCas eqs; rw [HST.out, HGD.out, hvb]; rfl, rfl⟩
        · cases htn : told.toList == [78, 79, 84, 95, 70, 79, 85, 78, 68]
          all_goals
            have HVB := Lib.hid hvb
            have HTN := Lib.hid htn
            go_wp2_with fail
            go_meet
            exact ⟨by unfold isCas eqs bNone; rw [HST.out, HGD.out, HVB.out, HTN.out]; rfl, rfl⟩
  case rest =>
  obtain ⟨rfl, rfl⟩ := hcut
  generalize hcas : isCas (⟨xw, xv, xk, xd, xf, xe, xc, xb, xwc, xwt, xdn, xq⟩ : M.Cmd) told = q86
  cases q86
  case true =>
    obtain ⟨hp1, hp2, hp3⟩ := isCas_parts hcas
    have HRES := Lib.hid (show restF (lostF ⟨l, is.map Ch.sees, losses⟩ (⟨xw, xv, xk, xd, xf, xe, xc, xb, xwc, xwt, xdn, xq⟩ : M.Cmd) now told) (⟨xw, xv, xk, xd, xf, xe, xc, xb, xwc, xwt, xdn, xq⟩ : M.Cmd) now told = casF ⟨l1, is.map Ch.sees, n1⟩ (sfOf (⟨xw, xv, xk, xd, xf, xe, xc, xb, xwc, xwt, xdn, xq⟩ : M.Cmd).of).key (sfOf (⟨xw, xv, xk, xd, xf, xe, xc, xb, xwc, xwt, xdn, xq⟩ : M.Cmd).of).data (sfOf (⟨xw, xv, xk, xd, xf, xe, xc, xb, xwc, xwt, xdn, xq⟩ : M.Cmd).of).flags (sfOf (⟨xw, xv, xk, xd, xf, xe, xc, xb, xwc, xwt, xdn, xq⟩ : M.Cmd).of).exp (sfOf (⟨xw, xv, xk, xd, xf, xe, xc, xb, xwc, xwt, xdn, xq⟩ : M.Cmd).of).cas now told by
      unfold restF; rw [if_pos hcas, ← HS1.out])
    have HCA := Lib.hid (cas_any HRK.out (sfOf (⟨xw, xv, xk, xd, xf, xe, xc, xb, xwc, xwt, xdn, xq⟩ : M.Cmd).of).verb (sfOf (⟨xw, xv, xk, xd, xf, xe, xc, xb, xwc, xwt, xdn, xq⟩ : M.Cmd).of).key (sfOf (⟨xw, xv, xk, xd, xf, xe, xc, xb, xwc, xwt, xdn, xq⟩ : M.Cmd).of).data (sfOf (⟨xw, xv, xk, xd, xf, xe, xc, xb, xwc, xwt, xdn, xq⟩ : M.Cmd).of).flags (sfOf (⟨xw, xv, xk, xd, xf, xe, xc, xb, xwc, xwt, xdn, xq⟩ : M.Cmd).of).exp (sfOf (⟨xw, xv, xk, xd, xf, xe, xc, xb, xwc, xwt, xdn, xq⟩ : M.Cmd).of).cas (sfOf (⟨xw, xv, xk, xd, xf, xe, xc, xb, xwc, xwt, xdn, xq⟩ : M.Cmd).of).quiet xw xv xd xf xe xc xb xwc xwt xdn xq A SA n c m sc key now told hp1 (fun v => hp2 _ _ v _) HTK.out h7 (by rw [hp3]; exact HOK.out.exp) HN.out HSM1.out HVR1.out hlo1 hs HNT.out)
    clear hcas hp1 hp2 hp3
    go_wp2_with (go_at_call 57; refine HCA.out.mono ?_; rintro e w9 ⟨rfl, hb9, hr9⟩; have HB9 := Lib.hid hb9; have HR9 := Lib.hid hr9; clear hb9 hr9)
    go_ret
    rw [HRES.out]
    exact ⟨rfl, HBK.out.trans HB9.out, HR9.out⟩
  case false =>
  have HRES := Lib.hid (show restF (lostF ⟨l, is.map Ch.sees, losses⟩ (⟨xw, xv, xk, xd, xf, xe, xc, xb, xwc, xwt, xdn, xq⟩ : M.Cmd) now told) (⟨xw, xv, xk, xd, xf, xe, xc, xb, xwc, xwt, xdn, xq⟩ : M.Cmd) now told = mainF ⟨l1, is.map Ch.sees, n1⟩ (⟨xw, xv, xk, xd, xf, xe, xc, xb, xwc, xwt, xdn, xq⟩ : M.Cmd) now told by
    unfold restF; rw [if_neg (by rw [hcas]; decide), ← HS1.out])
  clear hcas zc
  go_upto_region 16 with fail
  have k0 := cells_at (j := 0) HRK.out.hd rfl
  have hrk : rb < wk.heap.size := (Array.getElem?_eq_some_iff.1 HRK.out.hd).1
  have hgk : g < wk.heap.size := HRK.out.map.at_.lt
  have hrg : rb ≠ g := fun e => by
    obtain ⟨es, clk, hh, _⟩ := HRK.out.map.at_
    rw [← e, HRK.out.hd] at hh; cases hh
  have hwg : w.heap.size ≠ g := by omega
  have HKD := Lib.hid (show RdS wk.drew wk.drew.heap.size A n xk from HKK.out.below (bel_drew (bel_refl wk)) (Nat.le_refl _))
  generalize hd : doF l1 (⟨xw, xv, xk, xd, xf, xe, xc, xb, xwc, xwt, xdn, xq⟩ : M.Cmd) now ((is.length : Int) + 1) = d
  have HD := Lib.hid hd
  clear hd
  obtain ⟨dt, dl⟩ := d
  go_cut [9, 13] from 92 to 106 (fun vok vown wx => ∃ T : ByteArray, vok = .bool dt.isSome ∧ vown = .string T ∧ T = dt.getD ⟨#[]⟩ ∧ RunSt B wx rb mb g dl is n1 A0 cc ∧ Below B wk wx)
  case first =>
    go_region_held3 (fun w' => w'.cell? ⟨rb, 0, none⟩ = some (.pointer (some ⟨mb, 0, none⟩)) ∧ w'.cell? ⟨w.heap.size, 0, none⟩ = some (.string xw) ∧ w'.cell? ⟨w.heap.size, 1, none⟩ = some (.string xv) ∧ w'.cell? ⟨w.heap.size, 2, none⟩ = some (.slice A n c) ∧ w'.cell? ⟨w.heap.size, 3, none⟩ = some (.string xd) ∧ w'.cell? ⟨w.heap.size, 4, none⟩ = some (.int .u32 xf) ∧ w'.cell? ⟨w.heap.size, 5, none⟩ = some (.int .i64 xe) ∧ w'.cell? ⟨w.heap.size, 6, none⟩ = some (.int .u64 xc) ∧ w'.cell? ⟨w.heap.size, 7, none⟩ = some (.int .u64 xb) ∧ w'.cell? ⟨w.heap.size, 8, none⟩ = some (.bool xwc) ∧ w'.cell? ⟨w.heap.size, 9, none⟩ = some (.bool xwt) ∧ w'.cell? ⟨w.heap.size, 10, none⟩ = some (.bool xdn) ∧ w'.cell? ⟨w.heap.size, 11, none⟩ = some (.bool xq) ∧ w'.cell? ⟨w.heap.size, 14, none⟩ = some (.int .i64 now)) (first | (go_keep; done) | (simp [go_sem]; done) | (simp [*, go_sem]; done)) (first | (go_at_call 58; (with_reducible refine (next_any (HRK.out.below (bel_drew (bel_refl wk)))).mono ?_); rintro e w11 ⟨rfl, rfl⟩) | (go_at_call 27; (with_reducible refine (do_any mb g l1 (⟨xw, xv, xk, xd, xf, xe, xc, xb, xwc, xwt, xdn, xq⟩ : M.Cmd) A n c now ((is.length : Int) + 1) wk.drew (HRK.out.below (bel_drew (bel_refl wk))).map (HTK.out.bel (bel_drew (bel_refl wk))) HKD.out HX.out HOK.out HN.out HSM1.out).mono ?_); rw [HD.out]; rintro e w12 hd12; obtain ⟨DA, dn, dc, DL, rfl, hrd, htf, -, hm12, hg12⟩ := hd12.out; have HRD := Lib.hid hrd; have HTF := Lib.hid htf; have HM12 := Lib.hid hm12; have hk9 : ∀ o, w12.cell? ⟨w.heap.size, o, none⟩ = wk.cell? ⟨w.heap.size, o, none⟩ := (fun o => World.cell?_of_block (hg12.block w.heap.size hsk (fun e => by injection e with e; exact hwg e))); have hk11 : w12.cell? ⟨rb, 0, none⟩ = wk.cell? ⟨rb, 0, none⟩ := World.cell?_of_block (hg12.block rb hrk (fun e => by injection e with e; exact hrg e)); clear hd12 hrd htf hm12) | (go_at_call 54; (with_reducible refine (text_any_l DA dn dc DL w12 HRD.out).mono ?_); rw [HTF.out]; rintro e w13 ⟨rfl, hb13⟩; have hk12 : ∀ o, w13.cell? ⟨w.heap.size, o, none⟩ = w12.cell? ⟨w.heap.size, o, none⟩ := (fun o => hb13.cell (p := ⟨w.heap.size, o, none⟩) (show w.heap.size < w12.heap.size by have : wk.heap.size ≤ w12.heap.size := hg12.size; omega)); have hk13 : w13.cell? ⟨rb, 0, none⟩ = w12.cell? ⟨rb, 0, none⟩ := hb13.cell (p := ⟨rb, 0, none⟩) (show rb < w12.heap.size by have : wk.heap.size ≤ w12.heap.size := hg12.size; omega)))
    go_wp2_with fail
    go_meet
    have hlo9 := HRK.out.lo
    have hb12 : Below B wk w12 := ⟨hg12.os, hg12.tape, hg12.output, hg12.size, fun q hq => hg12.block q (show q < wk.heap.size by omega) (fun e => by injection e with e; omega)⟩
    have hsz12 : wk.heap.size ≤ w12.heap.size := hg12.size
    exact ⟨_, rfl, rfl, rfl, ((HRK.out.below (bel_drew (bel_refl wk))).mapped hg12 HM12.out).below hb13, hb12.trans (hb13.mono (by omega))⟩
  case rest =>
  obtain ⟨T, rfl, rfl, hT, hr16, hb16⟩ := hcut
  have HR16 := Lib.hid hr16
  have HB16 := Lib.hid (HBK.out.trans hb16)
  have hBc : B ≤ wc.heap.size := by have := HR16.out.lo; have := (Array.getElem?_eq_some_iff.1 HR16.out.hd).1; omega
  clear hr16 hb16 zs k0 hrk hgk HKD HKK HTK HQS HQC HRK
  subst hT
  go_upto_region 17 with fail
  go_cut [116] from 107 to 115 (fun v wx => v = .bool (goodF (⟨xw, xv, xk, xd, xf, xe, xc, xb, xwc, xwt, xdn, xq⟩ : M.Cmd) && !told.toList.isEmpty && changesF (⟨xw, xv, xk, xd, xf, xe, xc, xb, xwc, xwt, xdn, xq⟩ : M.Cmd).of told) ∧ Below wc.heap.size wc wx)
  case first =>
    cases gd
    · go_wp2_with fail
      go_meet
      exact ⟨by rw [HGD.out]; rfl, bel_refl _⟩
    · cases hte : told.toList.isEmpty
      · have HTE := Lib.hid hte
        have hne := told_pos hte
        have HC := Lib.hid (HCH.out wc hne)
        clear hne
        go_wp2_with (go_at_call 59; refine HC.out.mono ?_; rintro e w17 ⟨rfl, hb17⟩; have HB17 := Lib.hid hb17; clear hb17)
        go_meet
        exact ⟨by rw [HGD.out, HTE.out]; rfl, HB17.out⟩
      · have HTE := Lib.hid hte
        go_wp2_with fail
        go_meet
        exact ⟨by rw [HGD.out, HTE.out]; rfl, bel_refl _⟩
  case rest =>
  obtain ⟨rfl, hb17⟩ := hcut
  have HR17 := Lib.hid (HR16.out.below hb17)
  have HB17 := Lib.hid (HB16.out.trans (hb17.mono hBc))
  clear hb17
  generalize hq : (goodF (⟨xw, xv, xk, xd, xf, xe, xc, xb, xwc, xwt, xdn, xq⟩ : M.Cmd) && !told.toList.isEmpty && changesF (⟨xw, xv, xk, xd, xf, xe, xc, xb, xwc, xwt, xdn, xq⟩ : M.Cmd).of told) = q
  have HM := Lib.hid (show mainF ⟨l1, is.map Ch.sees, n1⟩ (⟨xw, xv, xk, xd, xf, xe, xc, xb, xwc, xwt, xdn, xq⟩ : M.Cmd) now told = (decide (dt = some told), ⟨dl, if q then is.map Ch.sees ++ [(0, [])] else is.map Ch.sees, n1⟩) by
    unfold mainF; simp only [List.length_map]; rw [HD.out, hq])
  clear hq
  cases q
  · cases dt
    · go_wp2_with fail
      go_ret
      rw [HRES.out, HM.out]
      exact ⟨rfl, HB17.out, fun h => by simp at h⟩
    · rename_i t
      go_wp2_with fail
      go_ret
      rw [HRES.out, HM.out]
      exact ⟨congrArg (fun b => Ending.returned (.bool b)) (some_eq t told), HB17.out, fun _ => ⟨is, A0, cc, HR17.out, rfl⟩⟩
  · obtain ⟨A', c', w18, hrun, hg18, e1, e2, hR18⟩ := HR17.out.push_run hs
    obtain ⟨k1, k2, k3⟩ := HR17.out.push_keep hg18 (.slice A' (is.length + 1) c')
    have q1 := cells_at (j := 1) HR17.out.hd rfl
    have HR18 := Lib.hid hR18
    have HB18 := Lib.hid (HB17.out.trans k2)
    have HRUN := Lib.hid hrun
    clear hR18 hg18 hrun k1 k2 k3
    cases dt
    · go_wp2_with (at_builtin; refine wpList_append_eq rfl _ _ 57 rfl _ _ rfl rfl 57 rfl _ _ HRUN.out ?_)
      go_ret
      rw [HRES.out, HM.out]
      exact ⟨rfl, HB18.out, fun h => by simp at h⟩
    · rename_i t
      go_wp2_with (at_builtin; refine wpList_append_eq rfl _ _ 57 rfl _ _ rfl rfl 57 rfl _ _ HRUN.out ?_)
      go_ret
      rw [HRES.out, HM.out]
      exact ⟨congrArg (fun b => Ending.returned (.bool b)) (some_eq t told), HB18.out, fun _ => ⟨_, _, _, HR18.out, by simp [Ch.sees]⟩⟩
end Go.Proofs.YtbhnmaghnnpboaaDoor

/- lossy: LossyFlags, plainly and walked. -/
import Derived.Test.YtbhnmaghnnpboaaDoorZw
import Derived.Test.YtbhnmaghnnpboaaDoorZv
namespace Go.Proofs.YtbhnmaghnnpboaaDoor
open Go.RowKit
attribute [local go_sem ↓] Go.wp_at_zero Go.wp_at_succ

def xS (key data : ByteArray) (flags : Int) : M.Stp := ⟨⟨M.sStore, M.vset, [key], data, flags, 0, 0, 0, false, false, false, false⟩, ⟨#[]⟩, [M.line M.tSTORED], 0⟩
def xG (key name data : ByteArray) (other : Int) : M.Stp := ⟨⟨M.sGet, ⟨#[]⟩, [key], ⟨#[]⟩, 0, 0, 0, 0, false, false, false, false⟩, key, [⟨true, name, data, ⟨#[]⟩, other, 0, false⟩], 0⟩

theorem step_S (key data : ByteArray) (flags : Int) (hg : goodF (xS key data flags).cmd = true) : stepF s0 (xS key data flags) = (true, ⟨[(key, ⟨key, data, flags, 0, 1⟩)], [(0, [])], 0⟩) := by
  rw [stepF_rest rfl, if_neg (by show ¬ ([M.line M.tSTORED] : List M.Ans) = []; decide)]
  have h1 : goneF (xS key data flags).cmd (textF (xS key data flags).answers).1 = false := by
    unfold goneF
    rw [hg]
    show (true && ((eqs M.vset bAdd && eqs M.tSTORED bStored) || (eqs M.tSTORED bNot && !eqs M.vset bAdd) || eqs M.tSTORED bNone)) = false
    decide +kernel
  have h2 : isCas (xS key data flags).cmd (textF (xS key data flags).answers).1 = false := by
    unfold isCas
    rw [hg]
    show (true && true && eqs M.vset [99, 97, 115] && !eqs M.tSTORED bNone) = false
    decide +kernel
  have h3 : (textF (xS key data flags).answers).2 = true := rfl
  rw [if_pos h3]
  unfold lostF
  rw [if_neg (by rw [h1]; decide)]
  unfold restF
  rw [if_neg (by rw [h2]; decide)]
  unfold mainF
  have h4 : doF s0.l (xS key data flags).cmd (xS key data flags).now (s0.chs.length + 1) = (some M.tSTORED, [(key, ⟨key, data, flags, 0, 1⟩)]) := by
    unfold doF
    rw [show (xS key data flags).cmd.of = .store M.vset key data flags 0 0 false from rfl]
    simp only [hg, if_true]
    unfold M.store
    rw [show M.mget s0.l key (xS key data flags).now = none from rfl]
    simp only
    rw [if_neg (by decide), if_neg (by decide)]
    rfl
  have h5 : (goodF (xS key data flags).cmd && !(textF (xS key data flags).answers).1.toList.isEmpty && changesF (xS key data flags).cmd.of (textF (xS key data flags).answers).1) = true := by
    rw [hg]
    show (true && !M.tSTORED.toList.isEmpty && eqs M.tSTORED bStored) = true
    decide +kernel
  rw [h4, h5]
  rfl
theorem step_G (key name data : ByteArray) (flags other : Int) : stepF ⟨[(key, ⟨key, data, flags, 0, 1⟩)], [(0, [])], 0⟩ (xG key name data other) = (other == flags && name.toList == key.toList, ⟨[(key, ⟨key, data, flags, 0, 1⟩)], [(0, [])], 0⟩) := by
  rw [stepF_get (ks := [key]) (cas := false) (touch := false) (exp := 0) rfl]
  unfold getF
  have h1 : stripF (xG key name data other).answers = [⟨true, name, data, ⟨#[]⟩, other, 0, false⟩] := strip_not [] ⟨true, name, data, ⟨#[]⟩, other, 0, false⟩ (by
    unfold isEnd
    apply decide_eq_false
    intro h
    have := congrArg M.Ans.v h
    simp [M.plain, M.line] at this)
  rw [h1]
  simp only [if_true]
  rw [show (xG key name data other).key = key from rfl, show (xG key name data other).now = 0 from rfl]
  rw [show M.mget [(key, (⟨key, data, flags, 0, 1⟩ : M.Item))] key 0 = some ⟨key, data, flags, 0, 1⟩ by simp [M.mget, M.look]]
  simp only
  unfold getOwn
  simp only [Bool.false_eq_true, if_false]
  congr 1
  show decide ((⟨true, key, data, ⟨#[]⟩, flags, 0, false⟩ : M.Ans) = ⟨true, name, data, ⟨#[]⟩, other, 0, false⟩) = _
  rw [Bool.eq_iff_iff, decide_eq_true_eq, Bool.and_eq_true, beq_iff_eq, beq_iff_eq, tl_inj]
  constructor
  · intro h; injection h with _ h2 _ _ h5; exact ⟨h5.symm, h2.symm⟩
  · rintro ⟨rfl, rfl⟩; rfl
theorem flags_A (key name data : ByteArray) (flags other : Int) (hg : goodF (xS key data flags).cmd = true) : decide ((goF s0 [xS key data flags, xG key name data other]).2 = [xS key data flags, xG key name data other].length) = (other == flags && name.toList == key.toList) := by
  rw [goF_step _ (step_S key data flags hg) (fit_one0 [] 1 (skip_nil 1))]
  cases hb : (other == flags && name.toList == key.toList)
  · rw [goF_stop _ (step_G key name data flags other) (by rw [hb]; rfl)]; rfl
  · rw [goF_step _ (show stepF ⟨[(key, ⟨key, data, flags, 0, 1⟩)], [(0, [])], 0⟩ (xG key name data other) = (true, _) by rw [step_G, hb]) (fit_one0 [] 1 (skip_nil 1))]; rfl

theorem RdA.bel {w w' : World} {A : Option Addr} {n : Nat} {l : List M.Ans} (h : RdA w w.heap.size A n l) (hb : Below w.heap.size w w') : RdA w' w'.heap.size A n l := (h.below hb (Nat.le_refl _)).more hb.size
theorem S_ok (key data : ByteArray) (flags : Int) : SpOk (xS key data flags) := ⟨⟨cmd_ok rfl rfl u0, i0, ans_one u0⟩, fun _ _ _ _ => by show 0 < 1; decide⟩
theorem G_ok (key name data : ByteArray) (other : Int) : SpOk (xG key name data other) := ⟨⟨cmd_ok rfl rfl u0, i0, ans_one u0⟩, fun h => by cases h⟩

/-- The world behind the two steps' making. -/
abbrev wSG (key name data : ByteArray) (flags other : Int) (KA : Option Addr) (w3 : World) : World :=
  ((((w3.alloc (.cells #[.bool false, .string ⟨#[]⟩, .string ⟨#[]⟩, .string ⟨#[83, 84, 79, 82, 69, 68]⟩, .int .u32 0, .int .u64 0, .bool false] 46)).alloc
    (.cells #[.string ⟨#[115, 116, 111, 114, 101]⟩, .string ⟨#[115, 101, 116]⟩, .slice KA 1 1, .string data, .int .u32 flags, .int .i64 0, .int .u64 0, .int .u64 0, .bool false, .bool false, .bool false, .bool false, .string ⟨#[]⟩, .slice (some ⟨w3.heap.size, 0, none⟩) 1 1, .int .i64 0] 32)).alloc
    (.cells #[.string key] 9)).alloc
    (.cells #[.bool true, .string name, .string data, .string ⟨#[]⟩, .int .u32 other, .int .u64 0, .bool false] 46)).alloc
    (.cells #[.string ⟨#[103, 101, 116]⟩, .string ⟨#[]⟩, .slice (some ⟨w3.heap.size + 1 + 1, 0, none⟩) 1 1, .string ⟨#[]⟩, .int .u32 0, .int .i64 0, .int .u64 0, .int .u64 0, .bool false, .bool false, .bool false, .bool false, .string key, .slice (some ⟨w3.heap.size + 1 + 1 + 1, 0, none⟩) 1 1, .int .i64 0] 32)
theorem bel_wSG (key name data : ByteArray) (flags other : Int) (KA : Option Addr) (w3 : World) : Below w3.heap.size w3 (wSG key name data flags other KA w3) := bel_alloc (bel_alloc (bel_alloc (bel_alloc (bel_alloc (bel_refl w3) _) _) _) _) _
theorem logat2n {w : World} {n : Nat} (hn : n = w.heap.size) {a b : Sp} {cs : Array Value} (h : cs = ([a, b].flatMap Sp.cells).toArray) (ha : SpAt w a) (hb : SpAt w b) (oa : SpOk a.x) (ob : SpOk b.x) : LogAt (w.alloc (.cells cs 32)) (some ⟨n, 0, none⟩) 2 [a.x, b.x] := by
  subst hn; exact logat2 h ha hb oa ob
theorem log_SG (key name data : ByteArray) (flags other : Int) (KA : Option Addr) (w3 : World) (hk : RdS w3 w3.heap.size KA 1 [key]) :
    LogAt ((wSG key name data flags other KA w3).alloc (.cells #[.string ⟨#[115, 116, 111, 114, 101]⟩, .string ⟨#[115, 101, 116]⟩, .slice KA 1 1, .string data, .int .u32 flags, .int .i64 0, .int .u64 0, .int .u64 0, .bool false, .bool false, .bool false, .bool false, .string ⟨#[]⟩, .slice (some ⟨w3.heap.size, 0, none⟩) 1 1, .int .i64 0,
      .string ⟨#[103, 101, 116]⟩, .string ⟨#[]⟩, .slice (some ⟨w3.heap.size + 1 + 1, 0, none⟩) 1 1, .string ⟨#[]⟩, .int .u32 0, .int .i64 0, .int .u64 0, .int .u64 0, .bool false, .bool false, .bool false, .bool false, .string key, .slice (some ⟨w3.heap.size + 1 + 1 + 1, 0, none⟩) 1 1, .int .i64 0] 32))
      (some ⟨w3.heap.size + 1 + 1 + 1 + 1 + 1, 0, none⟩) 2 [xS key data flags, xG key name data other] :=
  logat2n (w := wSG key name data flags other KA w3) (by simp) (a := ⟨xS key data flags, KA, 1, 1, some ⟨w3.heap.size, 0, none⟩, 1, 1⟩) (b := ⟨xG key name data other, some ⟨w3.heap.size + 1 + 1, 0, none⟩, 1, 1, some ⟨w3.heap.size + 1 + 1 + 1, 0, none⟩, 1, 1⟩) rfl
    ⟨hk.bel (bel_wSG key name data flags other KA w3), (ans1 (a := M.line M.tSTORED) (heap_alloc_new w3 _)).bel (bel_alloc (bel_alloc (bel_alloc (bel_alloc (bel_refl _) _) _) _) _), ⟨Nat.le_refl _, show (1 : Nat) ≤ 9223372036854775807 by decide⟩⟩
    ⟨(keys1 (k := key) (heap_alloc_at _ _ _ (by simp))).bel (bel_alloc (bel_alloc (bel_refl _) _) _), (ans1 (a := ⟨true, name, data, ⟨#[]⟩, other, 0, false⟩) (heap_alloc_at _ _ _ (by simp))).bel (bel_alloc (bel_refl _) _), ⟨Nat.le_refl _, show (1 : Nat) ≤ 9223372036854775807 by decide⟩⟩ (S_ok key data flags) (G_ok key name data other)

set_option maxRecDepth 100000 in
set_option maxHeartbeats 4000000 in
theorem flags_any (key data name : ByteArray) (flags other : Int) (w : World) (ht : Tabs w) : Calls Tryd.prog 8 #[.string key, .string data, .int .u32 flags, .int .u32 other, .string name] w fun e w' => e = .returned (.bool true) ∧ Below w.heap.size w w' := by
  have HT := Lib.hid ht
  clear ht
  cases c1 : decide ((500 : Int) < (data.size : Int))
  case true =>
    go_enter Tryd.func8, Tryd.ntmps8
    go_wp2_with fail
    refine (awake_any _ HT.out).mono ?_
    rintro e wq ⟨rfl, hq⟩
    have HQ := Lib.hid hq
    clear hq
    go_wp2_with fail
    go_ret
    exact ⟨rfl, HQ.out⟩
  case false =>
  cases c2 : decide ((250 : Int) < (key.size : Int))
  case true =>
    go_enter Tryd.func8, Tryd.ntmps8
    go_wp2_with fail
    refine (awake_any _ HT.out).mono ?_
    rintro e wq ⟨rfl, hq⟩
    have HQ := Lib.hid hq
    clear hq
    go_wp2_with fail
    go_ret
    exact ⟨rfl, HQ.out⟩
  case false =>
  cases c3 : decide ((250 : Int) < (name.size : Int))
  case true =>
    go_enter Tryd.func8, Tryd.ntmps8
    go_wp2_with fail
    refine (awake_any _ HT.out).mono ?_
    rintro e wq ⟨rfl, hq⟩
    have HQ := Lib.hid hq
    clear hq
    go_wp2_with fail
    go_ret
    exact ⟨rfl, HQ.out⟩
  case false =>
  go_enter Tryd.func8, Tryd.ntmps8
  go_wp2_with fail
  refine (awake_any _ HT.out).mono ?_
  rintro e wq ⟨rfl, hq⟩
  have HQ := Lib.hid hq
  clear hq
  go_wp2_with fail
  have hbq : Below wq.heap.size wq ((wq.alloc (.cells #[.string key] 9)).alloc (.cells (#[.string ⟨#[115, 116, 111, 114, 101]⟩, .string ⟨#[115, 101, 116]⟩, .slice (some ⟨wq.heap.size, 0, none⟩) 1 1, .string data, .int .u32 flags, .int .i64 0, .int .u64 0, .int .u64 0, .bool false, .bool false, .bool false, .bool false] : Array Value) 29)) := bel_alloc (bel_alloc (bel_refl wq) _) _
  have hk0 : ((wq.alloc (.cells #[.string key] 9)).alloc (.cells (#[.string ⟨#[115, 116, 111, 114, 101]⟩, .string ⟨#[115, 101, 116]⟩, .slice (some ⟨wq.heap.size, 0, none⟩) 1 1, .string data, .int .u32 flags, .int .i64 0, .int .u64 0, .int .u64 0, .bool false, .bool false, .bool false, .bool false] : Array Value) 29)).heap[wq.heap.size]? = some (.cells #[.string key] 9) := (heap_alloc_old _ _ (by simp)).trans (heap_alloc_new wq _)
  have hk1 : ((wq.alloc (.cells #[.string key] 9)).alloc (.cells (#[.string ⟨#[115, 116, 111, 114, 101]⟩, .string ⟨#[115, 101, 116]⟩, .slice (some ⟨wq.heap.size, 0, none⟩) 1 1, .string data, .int .u32 flags, .int .i64 0, .int .u64 0, .int .u64 0, .bool false, .bool false, .bool false, .bool false] : Array Value) 29)).heap[wq.heap.size + 1]? = some (.cells (#[.string ⟨#[115, 116, 111, 114, 101]⟩, .string ⟨#[115, 101, 116]⟩, .slice (some ⟨wq.heap.size, 0, none⟩) 1 1, .string data, .int .u32 flags, .int .i64 0, .int .u64 0, .int .u64 0, .bool false, .bool false, .bool false, .bool false] : Array Value) 29) := heap_alloc_at _ _ _ (by simp)
  have HBQ := Lib.hid hbq
  have HK0 := Lib.hid hk0
  have HK1 := Lib.hid hk1
  clear hbq hk0 hk1
  generalize (wq.alloc (.cells #[.string key] 9)).alloc (.cells (#[.string ⟨#[115, 116, 111, 114, 101]⟩, .string ⟨#[115, 101, 116]⟩, .slice (some ⟨wq.heap.size, 0, none⟩) 1 1, .string data, .int .u32 flags, .int .i64 0, .int .u64 0, .int .u64 0, .bool false, .bool false, .bool false, .bool false] : Array Value) 29) = w2 at *
  refine (good_any (xS key data flags).cmd (some ⟨wq.heap.size, 0, none⟩) 1 1 w2 (keys1 HK0.out) ((HT.out.bel HQ.out).bel HBQ.out)).mono ?_
  rintro e w3 ⟨rfl, hb3⟩
  have HB3 := Lib.hid (bel_trans (bel_trans HQ.out HBQ.out) hb3)
  have hk2 : w3.heap[wq.heap.size + 1]? = some (.cells (#[.string ⟨#[115, 116, 111, 114, 101]⟩, .string ⟨#[115, 101, 116]⟩, .slice (some ⟨wq.heap.size, 0, none⟩) 1 1, .string data, .int .u32 flags, .int .i64 0, .int .u64 0, .int .u64 0, .bool false, .bool false, .bool false, .bool false] : Array Value) 29) := (hb3.block _ (Array.getElem?_eq_some_iff.1 HK1.out).1).trans HK1.out
  have HKK := Lib.hid ((hb3.block _ (Array.getElem?_eq_some_iff.1 HK0.out).1).trans HK0.out)
  have hlt3 : wq.heap.size + 1 < w3.heap.size := (Array.getElem?_eq_some_iff.1 hk2).1
  have z2 : ∀ o, w3.cell? ⟨wq.heap.size + 1, o, none⟩ = (#[.string ⟨#[115, 116, 111, 114, 101]⟩, .string ⟨#[115, 101, 116]⟩, .slice (some ⟨wq.heap.size, 0, none⟩) 1 1, .string data, .int .u32 flags, .int .i64 0, .int .u64 0, .int .u64 0, .bool false, .bool false, .bool false, .bool false] : Array Value)[o]? := fun o => cell_of_row w3 (wq.heap.size + 1) o _ 29 (0, 0) hk2
  clear hb3 hk2
  generalize hg : goodF (xS key data flags).cmd = gd
  have HG := Lib.hid hg
  clear hg
  cases gd
  · go_wp2_with fail
    go_ret
    exact ⟨rfl, HB3.out⟩
  · go_wp2_with fail
    have HL := Lib.hid (log_SG key name data flags other (some ⟨wq.heap.size, 0, none⟩) w3 (keys1 HKK.out))
    refine (run_any _ 2 2 [xS key data flags, xG key name data other] _ (HT.out.bel (bel_trans HB3.out (bel_alloc (bel_wSG key name data flags other (some ⟨wq.heap.size, 0, none⟩) w3) _))) HL.out).mono ?_
    rw [flags_A key name data flags other HG.out]
    rintro e w9 ⟨rfl, hb9⟩
    have HB9 := Lib.hid (bel_trans (bel_trans HB3.out (bel_alloc (bel_wSG key name data flags other (some ⟨wq.heap.size, 0, none⟩) w3) _)) hb9)
    clear hb9
    cases h1 : (other == flags) <;> cases h2 : (name.toList == key.toList)
    all_goals
      have HB10 := HB9
      go_wp2_with fail
      go_ret
      exact ⟨rfl, HB10.out⟩
end Go.Proofs.YtbhnmaghnnpboaaDoor

/- lossy: the logs of LossyNot and LossyFlags, plainly. -/
import Derived.Test.YtbhnmaghnnpboaaDoorZn
import Derived.Test.YtbhnmaghnnpboaaDoorZv
namespace Go.Proofs.YtbhnmaghnnpboaaDoor
open Go.RowKit

theorem skip_in {v : Int} {l : List Int} (h : l.contains v = true) (hv : v < 18446744073709551615) : skipF v l = skipF (v + 1) l := by
  rw [skipF]; rw [if_pos h, if_pos hv]
theorem skip_out {v : Int} {l : List Int} (h : l.contains v = false) : skipF v l = some v := by
  rw [skipF]; rw [if_neg (by rw [h]; decide)]
/-- Of 1, 2, 3 the first that is neither. -/
def firstOf (x y : Int) : Int := if 1 ≠ x ∧ 1 ≠ y then 1 else if 2 ≠ x ∧ 2 ≠ y then 2 else 3
theorem firstOf_range (x y : Int) : 1 ≤ firstOf x y ∧ firstOf x y ≤ 3 := by unfold firstOf; split <;> (try split) <;> omega
theorem has2 (v x y : Int) : [x, y].contains v = decide (v = x ∨ v = y) := by simp
theorem has1 (v x : Int) : [x].contains v = decide (v = x) := by simp
theorem skip_two (x y : Int) : skipF 1 [x, y] = some (firstOf x y) := by
  unfold firstOf
  by_cases h1 : 1 ≠ x ∧ 1 ≠ y
  · rw [if_pos h1]; exact skip_out (by rw [has2]; simp; omega)
  · rw [if_neg h1, skip_in (by rw [has2]; simp; omega) (by omega)]
    by_cases h2 : 2 ≠ x ∧ 2 ≠ y
    · rw [if_pos h2]; exact skip_out (by rw [has2]; simp; omega)
    · rw [if_neg h2, show (1 : Int) + 1 = 2 from rfl, skip_in (by rw [has2]; simp; omega) (by omega)]
      exact skip_out (by rw [has2]; simp; omega)
theorem skip_one (x : Int) : ∃ v, skipF 1 [x] = some v := by
  by_cases h1 : 1 = x
  · exact ⟨_, (skip_in (by rw [has1]; simp; omega) (by omega)).trans (skip_out (by rw [has1]; simp; omega))⟩
  · exact ⟨_, skip_out (by rw [has1]; simp; omega)⟩
theorem skip_nil (v : Int) : skipF v [] = some v := skip_out rfl
theorem fit_nil (last : Int) : fitF last [] = true := by rw [fitF]

def yItem (v : Int) : M.Item := ⟨ka, k1, 0, 0, v⟩
def sl (v : Int) (chs : List (Int × List Int)) : RS := ⟨[(ka, yItem v)], chs, 0⟩
theorem good_ex (x : Int) : goodF (xEx x).cmd = true := by
  show (verbIn M.vcas && decide (k9.size ≤ 1024) && [ka].all keyF) = true
  decide +kernel
theorem good_set : goodF xSet.cmd = true := by decide +kernel
theorem mget_sl (v : Int) (chs : List (Int × List Int)) : M.mget (sl v chs).l ka 0 = some (yItem v) := by
  simp [M.mget, M.look, sl, yItem]
theorem step_set0 : stepF s0 xSet = (true, sl 1 [(0, [])]) := by
  rw [stepF_rest rfl, if_neg (by decide)]
  have h1 : goneF xSet.cmd (textF xSet.answers).1 = false := by decide +kernel
  have h2 : isCas xSet.cmd (textF xSet.answers).1 = false := by decide +kernel
  have h3 : (textF xSet.answers).2 = true := rfl
  rw [if_pos h3]
  unfold lostF
  rw [if_neg (by rw [h1]; decide)]
  unfold restF
  rw [if_neg (by rw [h2]; decide)]
  unfold mainF
  have h4 : doF s0.l xSet.cmd xSet.now (s0.chs.length + 1) = (some M.tSTORED, [(ka, yItem 1)]) := by decide +kernel
  have h5 : (goodF xSet.cmd && !(textF xSet.answers).1.toList.isEmpty && changesF xSet.cmd.of (textF xSet.answers).1) = true := by decide +kernel
  rw [h4, h5]
  rfl
theorem step_set1 (nots : List Int) : stepF (sl 1 [(0, nots)]) xSet = (true, sl 2 [(0, nots), (0, [])]) := by
  rw [stepF_rest rfl, if_neg (by decide)]
  have h1 : goneF xSet.cmd (textF xSet.answers).1 = false := by decide +kernel
  have h2 : isCas xSet.cmd (textF xSet.answers).1 = false := by decide +kernel
  have h3 : (textF xSet.answers).2 = true := rfl
  rw [if_pos h3]
  unfold lostF
  rw [if_neg (by rw [h1]; decide)]
  unfold restF
  rw [if_neg (by rw [h2]; decide)]
  unfold mainF
  have h4 : doF (sl 1 [(0, nots)]).l xSet.cmd xSet.now ((sl 1 [(0, nots)]).chs.length + 1) = (some M.tSTORED, [(ka, yItem 2)]) := by
    show doF [(ka, yItem 1)] xSet.cmd xSet.now 2 = _
    decide +kernel
  have h5 : (goodF xSet.cmd && !(textF xSet.answers).1.toList.isEmpty && changesF xSet.cmd.of (textF xSet.answers).1) = true := by decide +kernel
  rw [h4, h5]
  rfl
theorem step_ex (nots : List Int) (x : Int) : stepF (sl 1 [(0, nots)]) (xEx x) = (true, sl 1 [(0, nots ++ [x])]) := by
  rw [stepF_rest rfl, if_neg (by show ¬ ([M.line M.tEX] : List M.Ans) = []; decide)]
  have h1 : goneF (xEx x).cmd (textF (xEx x).answers).1 = false := by
    unfold goneF
    rw [good_ex]
    show (true && absentF (.store M.vcas ka k9 0 0 x false) M.tEX) = false
    show (true && ((eqs M.vcas bAdd && eqs M.tEX bStored) || (eqs M.tEX bNot && !eqs M.vcas bAdd) || eqs M.tEX bNone)) = false
    decide +kernel
  have h2 : isCas (xEx x).cmd (textF (xEx x).answers).1 = true := by
    unfold isCas
    rw [good_ex]
    show (true && true && eqs M.vcas [99, 97, 115] && !eqs M.tEX bNone) = true
    decide +kernel
  have h3 : (textF (xEx x).answers).2 = true := rfl
  rw [if_pos h3]
  unfold lostF
  rw [if_neg (by rw [h1]; decide)]
  unfold restF
  rw [if_pos h2]
  show casF (sl 1 [(0, nots)]) ka k9 0 0 x 0 M.tEX = _
  unfold casF
  rw [mget_sl]
  rfl
theorem step_told (v : Int) (chs : List (Int × List Int)) (t : Int) (ht : 0 < t) : stepF (sl v chs) (xTold t) = if tellAt chs v t then (true, sl v (setTold chs v t)) else (false, sl v chs) := by
  rw [stepF_get (ks := [ka]) (cas := decide (0 < t)) (touch := false) (exp := 0) rfl]
  unfold getF
  have h1 : stripF (xTold t).answers = [⟨true, ka, k1, ⟨#[]⟩, 0, t, decide (0 < t)⟩] := strip_end [⟨true, ka, k1, ⟨#[]⟩, 0, t, decide (0 < t)⟩] (M.line M.tEND) (by decide)
  rw [h1]
  simp only [if_true]
  rw [show (xTold t).key = ka from rfl, show (xTold t).now = 0 from rfl, mget_sl]
  simp only
  rw [decide_eq_true ht]
  unfold getOwn
  simp only [if_true, Bool.false_eq_true, if_false]
  have h2 : (oneAns ka true (touchF false 0 0 ((sl v chs).chs.length + 1) (yItem v))).cas = v := rfl
  rw [h2]
  show (if tellAt chs v t = true then _ else _) = _
  split
  · congr 1
    exact decide_eq_true rfl
  · rfl

theorem goF_step {s s' : RS} {x : M.Stp} (r : List M.Stp) (h : stepF s x = (true, s')) (hf : fitF 0 s'.chs = true) : (goF s (x :: r)).2 = (goF s' r).2 + 1 := by
  rw [goF, h]; simp only [hf, Bool.and_true, if_true]
theorem goF_stop {s s' : RS} {x : M.Stp} {b : Bool} (r : List M.Stp) (h : stepF s x = (b, s')) (hf : (b && fitF 0 s'.chs) = false) : (goF s (x :: r)).2 = 0 := by
  rw [goF, h]; simp only [hf, Bool.false_eq_true, if_false]
theorem fit_one0 (nots : List Int) (v : Int) (h : skipF 1 nots = some v) : fitF 0 [(0, nots)] = true := by
  rw [fit_cons, if_neg (by omega), if_neg (by simp), show (0 : Int) + 1 = 1 from rfl, h]
  exact fit_nil v
theorem ne_len {a b : Nat} (h : a ≠ b) : decide (a = b) = false := decide_eq_false h

theorem pre_ex (x y : Int) (r : List M.Stp) : (goF s0 (xSet :: xEx x :: xEx y :: r)).2 = (goF (sl 1 [(0, [x, y])]) r).2 + 3 := by
  rw [goF_step _ step_set0 (fit_one0 [] 1 (skip_nil 1))]
  obtain ⟨v, hv⟩ := skip_one x
  rw [goF_step _ (show stepF (sl 1 [(0, [])]) (xEx x) = (true, sl 1 [(0, [x])]) from step_ex [] x) (fit_one0 _ v hv), goF_step _ (show stepF (sl 1 [(0, [x])]) (xEx y) = (true, sl 1 [(0, [x, y])]) from step_ex [x] y) (fit_one0 _ _ (skip_two x y))]
theorem not_A (x y t : Int) (ht : 0 < t) : decide ((goF s0 [xSet, xEx x, xEx y, xSet, xTold t]).2 = [xSet, xEx x, xEx y, xSet, xTold t].length) = decide (firstOf x y < t) := by
  have hr := firstOf_range x y
  rw [pre_ex]
  have hf : fitF 0 [(0, [x, y]), (0, [])] = true := by
    rw [fit_cons, if_neg (by omega), if_neg (by simp), show (0 : Int) + 1 = 1 from rfl, skip_two]
    exact (show fitF (firstOf x y) [(0, [])] = true by
      rw [fit_cons, if_neg (by omega), if_neg (by simp), skip_nil]; exact fit_nil _)
  rw [goF_step _ (step_set1 [x, y]) hf]
  have hk : tellAt [((0 : Int), [x, y]), (0, [])] 2 t = true := by
    show tellOk 0 t = true
    unfold tellOk; simp; omega
  have hs : stepF (sl 2 [(0, [x, y]), (0, [])]) (xTold t) = (true, sl 2 [(0, [x, y]), (t, [])]) := by
    rw [step_told _ _ t ht, if_pos hk]; rfl
  have hf2 : fitF 0 [(0, [x, y]), (t, [])] = decide (firstOf x y < t) := by
    rw [fit_cons, if_neg (by omega), if_neg (by simp), show (0 : Int) + 1 = 1 from rfl, skip_two]
    show fitF (firstOf x y) [(t, [])] = _
    rw [fit_cons, if_neg (by omega), if_pos (by omega)]
    by_cases h : firstOf x y < t
    · rw [if_neg (by omega), if_neg (by simp), decide_eq_true h]; exact fit_nil _
    · rw [if_pos (by omega), decide_eq_false h]
  by_cases h : firstOf x y < t
  · rw [goF_step _ hs (by show fitF 0 [(0, [x, y]), (t, [])] = true; rw [hf2, decide_eq_true h]), decide_eq_true h]
    rfl
  · rw [goF_stop _ hs (by show (true && fitF 0 [(0, [x, y]), (t, [])]) = false; rw [hf2, decide_eq_false h]; rfl), decide_eq_false h]
    rfl
theorem not_B (x y t : Int) (ht : 0 < t) : decide ((goF s0 [xSet, xEx x, xEx y, xTold t]).2 = [xSet, xEx x, xEx y, xTold t].length) = (t != x && t != y) := by
  rw [pre_ex]
  have hk : tellAt [((0 : Int), [x, y])] 1 t = true := by
    show tellOk 0 t = true
    unfold tellOk; simp; omega
  have hs : stepF (sl 1 [(0, [x, y])]) (xTold t) = (true, sl 1 [(t, [x, y])]) := by
    rw [step_told _ _ t ht, if_pos hk]; rfl
  have hf2 : fitF 0 [(t, [x, y])] = (t != x && t != y) := by
    rw [fit_cons, if_neg (by omega), if_pos (by omega), if_neg (by omega), has2]
    by_cases h1 : t = x
    · simp [h1]
    · by_cases h2 : t = y
      · simp [h2]
      · simp [h1, h2, fit_nil]
  cases hb : (t != x && t != y)
  · rw [goF_stop _ hs (by show (true && fitF 0 [(t, [x, y])]) = false; rw [hf2, hb]; rfl)]; rfl
  · rw [goF_step _ hs (by show fitF 0 [(t, [x, y])] = true; rw [hf2, hb])]; rfl
/-- What the law's own loop tells. -/
def leftF (x y t : Int) : Nat → Bool
  | 0 => false
  | k + 1 => leftF x y t k || (decide (((k : Int) + 1) < t) && (((k : Int) + 1) != x) && (((k : Int) + 1) != y))
theorem left_eq (x y t : Int) : leftF x y t 3 = decide (firstOf x y < t) := by
  rw [Bool.eq_iff_iff, decide_eq_true_eq]
  simp only [leftF, Bool.or_eq_true, Bool.and_eq_true, bne_iff_ne, decide_eq_true_eq, Bool.false_eq_true, false_or, ne_eq]
  unfold firstOf
  split
  · omega
  · split <;> omega
end Go.Proofs.YtbhnmaghnnpboaaDoor
/- lossy: logs of a few made steps, LossyNot. -/
namespace Go.Proofs.YtbhnmaghnnpboaaDoor
open Go.RowKit
attribute [local go_sem ↓] Go.wp_at_zero Go.wp_at_succ


set_option maxRecDepth 100000 in
set_option maxHeartbeats 4000000 in
theorem not_any (x y t : Int) (hux : U64 x) (huy : U64 y) (hut : U64 t) (w : World) (ht : Tabs w) : Calls Tryd.prog 9 #[.int .u64 x, .int .u64 y, .int .u64 t] w fun e w' => e = .returned (.bool true) ∧ Below w.heap.size w w' := by
  have HT := Lib.hid ht
  have HUX := Lib.hid hux
  clear ht
  by_cases h0 : t = 0
  · have t0 : (t == 0) = true := by simp [h0]
    have H0 := Lib.hid h0
    clear h0
    go_enter Tryd.func9, Tryd.ntmps9
    go_wp2_with fail
    refine (awake_any _ (HT.out.bel (bel_refl w))).mono ?_
    rintro e wq ⟨rfl, hq⟩
    have HQ := Lib.hid (bel_trans (bel_refl w) hq)
    clear hq
    go_wp2_with fail
    go_ret
    exact ⟨rfl, HQ.out⟩
  · have t0 : (t == 0) = false := by simp [h0]
    have HP := Lib.hid (show 0 < t by have := hut.1; omega)
    clear h0
    go_enter Tryd.func9, Tryd.ntmps9
    go_wp2_with fail
    refine (awake_any _ (HT.out.bel (bel_refl w))).mono ?_
    rintro e wq ⟨rfl, hq⟩
    have HQ := Lib.hid (bel_trans (bel_refl w) hq)
    clear hq
    go_wp2_with fail
    refine (set_any _).mono ?_
    rintro e waA0 ⟨KA0, SA0, rfl, hsA0, hbA0⟩
    have HAA0 := Lib.hid hsA0
    have HBA0 := Lib.hid hbA0
    clear hsA0 hbA0
    go_wp2_with fail
    refine (ex_any x _).mono ?_
    rintro e waA1 ⟨KA1, SA1, rfl, hsA1, hbA1⟩
    have HAA1 := Lib.hid hsA1
    have HBA1 := Lib.hid hbA1
    clear hsA1 hbA1
    go_wp2_with fail
    refine (ex_any y _).mono ?_
    rintro e waA2 ⟨KA2, SA2, rfl, hsA2, hbA2⟩
    have HAA2 := Lib.hid hsA2
    have HBA2 := Lib.hid hbA2
    clear hsA2 hbA2
    go_wp2_with fail
    refine (set_any _).mono ?_
    rintro e waA3 ⟨KA3, SA3, rfl, hsA3, hbA3⟩
    have HAA3 := Lib.hid hsA3
    have HBA3 := Lib.hid hbA3
    clear hsA3 hbA3
    go_wp2_with fail
    refine (told_any t _).mono ?_
    rintro e waA4 ⟨KA4, SA4, rfl, hsA4, hbA4⟩
    have HAA4 := Lib.hid hsA4
    have HBA4 := Lib.hid hbA4
    clear hsA4 hbA4
    go_wp2_with fail
    have HLA := Lib.hid (logat5 (w := waA4) (a := ⟨xSet, KA0, 1, 1, SA0, 1, 1⟩) (b := ⟨xEx x, KA1, 1, 1, SA1, 1, 1⟩) (c := ⟨xEx y, KA2, 1, 1, SA2, 1, 1⟩) (d := ⟨xSet, KA3, 1, 1, SA3, 1, 1⟩) (e := ⟨xTold t, KA4, 1, 1, SA4, 2, 2⟩) rfl ((((HAA0.out.bel HBA1.out).bel HBA2.out).bel HBA3.out).bel HBA4.out) (((HAA1.out.bel HBA2.out).bel HBA3.out).bel HBA4.out) ((HAA2.out.bel HBA3.out).bel HBA4.out) (HAA3.out.bel HBA4.out) HAA4.out set_ok (ex_ok x hux) (ex_ok y huy) set_ok (told_ok t hut))
    refine (run_any _ 5 5 _ _ (HT.out.bel (bel_alloc (bel_trans (bel_trans (bel_trans (bel_trans (bel_trans (HQ.out) HBA0.out) HBA1.out) HBA2.out) HBA3.out) HBA4.out) _)) HLA.out).mono ?_
    rw [not_A x y t HP.out, ← left_eq]
    rintro e wzA ⟨rfl, hzA⟩
    have HZA := Lib.hid (bel_trans (bel_alloc (bel_trans (bel_trans (bel_trans (bel_trans (bel_trans (HQ.out) HBA0.out) HBA1.out) HBA2.out) HBA3.out) HBA4.out) _) hzA)
    clear hzA
    go_wp2_with fail
    go_loop [9, 10] (fun left v => ∃ k : Nat, k ≤ 3 ∧ v = .int .u64 ((k : Int) + 1) ∧ left = .bool (leftF x y t k)) (fun _ v => 4 - (intOf v).toNat)
    case atStart => exact ⟨0, by omega, rfl, rfl⟩
    case round =>
      obtain ⟨k, hk, rfl, rfl⟩ := hrel
      by_cases hlt : k < 3
      · have t4 : decide ((k : Int) + 1 < 4) = true := by simp; omega
        generalize hL : leftF x y t k = L
        have HL := Lib.hid hL
        clear hL
        cases L
        · cases ha : decide ((k : Int) + 1 < t)
          · have HA := Lib.hid ha
            go_wp2_with fail
            go_round
            case rel => exact ⟨k + 1, by omega, by go_num, by rw [leftF, HL.out, HA.out]; rfl⟩
            case measure => simp [intOf]; omega
          · cases hb : ((k : Int) + 1 != x)
            · have HA := Lib.hid ha
              have HB := Lib.hid hb
              go_wp2_with fail
              go_round
              case rel => exact ⟨k + 1, by omega, by go_num, by rw [leftF, HL.out, HA.out, HB.out]; rfl⟩
              case measure => simp [intOf]; omega
            · cases hc : ((k : Int) + 1 != y)
              all_goals
                have HA := Lib.hid ha
                have HB := Lib.hid hb
                have HC := Lib.hid hc
                go_wp2_with fail
                go_round
                case rel => exact ⟨k + 1, by omega, by go_num, by rw [leftF, HL.out, HA.out, HB.out, HC.out]; rfl⟩
                case measure => simp [intOf]; omega
        · go_wp2_with fail
          go_round
          case rel => exact ⟨k + 1, by omega, by go_num, by rw [leftF, HL.out]; rfl⟩
          case measure => simp [intOf]; omega
      · obtain rfl : k = 3 := by omega
        clear hlt hk
        generalize leftF x y t 3 = L at *
        cases L <;> cases h1 : (t != x) <;> cases h2 : (t != y)
        all_goals
          go_wp2_with fail
          refine (set_any _).mono ?_
          rintro e waB0 ⟨KB0, SB0, rfl, hsB0, hbB0⟩
          have HAB0 := Lib.hid hsB0
          have HBB0 := Lib.hid hbB0
          clear hsB0 hbB0
          go_wp2_with fail
          refine (ex_any x _).mono ?_
          rintro e waB1 ⟨KB1, SB1, rfl, hsB1, hbB1⟩
          have HAB1 := Lib.hid hsB1
          have HBB1 := Lib.hid hbB1
          clear hsB1 hbB1
          go_wp2_with fail
          refine (ex_any y _).mono ?_
          rintro e waB2 ⟨KB2, SB2, rfl, hsB2, hbB2⟩
          have HAB2 := Lib.hid hsB2
          have HBB2 := Lib.hid hbB2
          clear hsB2 hbB2
          go_wp2_with fail
          refine (told_any t _).mono ?_
          rintro e waB3 ⟨KB3, SB3, rfl, hsB3, hbB3⟩
          have HAB3 := Lib.hid hsB3
          have HBB3 := Lib.hid hbB3
          clear hsB3 hbB3
          go_wp2_with fail
          have HLB := Lib.hid (logat4 (w := waB3) (a := ⟨xSet, KB0, 1, 1, SB0, 1, 1⟩) (b := ⟨xEx x, KB1, 1, 1, SB1, 1, 1⟩) (c := ⟨xEx y, KB2, 1, 1, SB2, 1, 1⟩) (d := ⟨xTold t, KB3, 1, 1, SB3, 2, 2⟩) rfl (((HAB0.out.bel HBB1.out).bel HBB2.out).bel HBB3.out) ((HAB1.out.bel HBB2.out).bel HBB3.out) (HAB2.out.bel HBB3.out) HAB3.out set_ok (ex_ok x hux) (ex_ok y huy) (told_ok t hut))
          refine (run_any _ 4 4 _ _ (HT.out.bel (bel_alloc (bel_trans (bel_trans (bel_trans (bel_trans (HZA.out) HBB0.out) HBB1.out) HBB2.out) HBB3.out) _)) HLB.out).mono ?_
          rw [not_B x y t HP.out, h1, h2]
          rintro e wzB ⟨rfl, hzB⟩
          have HZB := Lib.hid (bel_trans (bel_alloc (bel_trans (bel_trans (bel_trans (bel_trans (HZA.out) HBB0.out) HBB1.out) HBB2.out) HBB3.out) _) hzB)
          clear hzB
          go_wp2_with fail
          go_ret
          exact ⟨rfl, HZB.out⟩
end Go.Proofs.YtbhnmaghnnpboaaDoor

/- lossy: logs of a few made steps, LossyKnown. -/
import Derived.Test.YtbhnmaghnnpboaaDoorZn
namespace Go.Proofs.YtbhnmaghnnpboaaDoor
open Go.RowKit
attribute [local go_sem ↓] Go.wp_at_zero Go.wp_at_succ

theorem logat0 {w : World} : LogAt w none 0 [] := ⟨⟨rfl, fun h => absurd h (by omega)⟩, (fun x hx => by cases hx), by decide⟩
theorem knF_n : (goF s0 []).2 = 0 := by decide +kernel
theorem knF_b : decide ((goF s0 []).2 = ([] : List M.Stp).length) = true := by decide +kernel
theorem knG_n : lossF [] = 0 := by decide +kernel
theorem knG_b : decide ((goF s0 []).2 = ([] : List M.Stp).length) = true := by decide +kernel
theorem knH_n : (goF s0 [xSet, xNone, xTold 0]).2 = 2 := by decide +kernel
theorem knH_b : decide ((goF s0 [xSet, xNone, xTold 0]).2 = [xSet, xNone, xTold 0].length) = false := by decide +kernel
theorem knI_n : lossF [xSet, xNone, xTold 0] = 0 := by decide +kernel
theorem knI_b : decide ((goF s0 [xSet, xNone, xTold 0]).2 = [xSet, xNone, xTold 0].length) = false := by decide +kernel

set_option maxRecDepth 100000 in
set_option maxHeartbeats 4000000 in
theorem known_any (w : World) (ht : Tabs w) : Calls Tryd.prog 3 #[] w fun e w' => e = .returned (.bool true) ∧ Below w.heap.size w w' := by
  have HT := Lib.hid ht
  clear ht
  go_enter Tryd.func3, Tryd.ntmps3
  go_wp2_with fail
  refine (awake_any _ (HT.out.bel (bel_refl w))).mono ?_
  rintro e wq ⟨rfl, hq⟩
  have HQ := Lib.hid (bel_trans (bel_refl w) hq)
  clear hq
  go_wp2_with fail
  refine (run_any none 0 0 [] _ (HT.out.bel (HQ.out)) logat0).mono ?_
  rw [knF_b, knF_n]
  rintro e wzF ⟨rfl, hzF⟩
  have HZF := Lib.hid (bel_trans (HQ.out) hzF)
  clear hzF
  go_wp2_with fail
  refine (losses_any none 0 0 [] _ (HT.out.bel (HZF.out)) logat0).mono ?_
  rw [knG_b, knG_n]
  rintro e wzG ⟨rfl, hzG⟩
  have HZG := Lib.hid (bel_trans (HZF.out) hzG)
  clear hzG
  go_wp2_with fail
  refine (set_any _).mono ?_
  rintro e waH0 ⟨KH0, SH0, rfl, hsH0, hbH0⟩
  have HAH0 := Lib.hid hsH0
  have HBH0 := Lib.hid hbH0
  clear hsH0 hbH0
  go_wp2_with fail
  refine (none_any _).mono ?_
  rintro e waH1 ⟨KH1, SH1, rfl, hsH1, hbH1⟩
  have HAH1 := Lib.hid hsH1
  have HBH1 := Lib.hid hbH1
  clear hsH1 hbH1
  go_wp2_with fail
  refine (told_any 0 _).mono ?_
  rintro e waH2 ⟨KH2, SH2, rfl, hsH2, hbH2⟩
  have HAH2 := Lib.hid hsH2
  have HBH2 := Lib.hid hbH2
  clear hsH2 hbH2
  go_wp2_with fail
  have HLH := Lib.hid (logat3 (w := waH2) (a := ⟨xSet, KH0, 1, 1, SH0, 1, 1⟩) (b := ⟨xNone, KH1, 1, 1, SH1, 1, 1⟩) (c := ⟨xTold 0, KH2, 1, 1, SH2, 2, 2⟩) rfl ((HAH0.out.bel HBH1.out).bel HBH2.out) (HAH1.out.bel HBH2.out) HAH2.out set_ok none_ok (told_ok 0 u0))
  refine (run_any _ 3 3 _ _ (HT.out.bel (bel_alloc (bel_trans (bel_trans (bel_trans (HZG.out) HBH0.out) HBH1.out) HBH2.out) _)) HLH.out).mono ?_
  rw [knH_b, knH_n]
  rintro e wzH ⟨rfl, hzH⟩
  have HZH := Lib.hid (bel_trans (bel_alloc (bel_trans (bel_trans (bel_trans (HZG.out) HBH0.out) HBH1.out) HBH2.out) _) hzH)
  clear hzH
  go_wp2_with fail
  refine (set_any _).mono ?_
  rintro e waI0 ⟨KI0, SI0, rfl, hsI0, hbI0⟩
  have HAI0 := Lib.hid hsI0
  have HBI0 := Lib.hid hbI0
  clear hsI0 hbI0
  go_wp2_with fail
  refine (none_any _).mono ?_
  rintro e waI1 ⟨KI1, SI1, rfl, hsI1, hbI1⟩
  have HAI1 := Lib.hid hsI1
  have HBI1 := Lib.hid hbI1
  clear hsI1 hbI1
  go_wp2_with fail
  refine (told_any 0 _).mono ?_
  rintro e waI2 ⟨KI2, SI2, rfl, hsI2, hbI2⟩
  have HAI2 := Lib.hid hsI2
  have HBI2 := Lib.hid hbI2
  clear hsI2 hbI2
  go_wp2_with fail
  have HLI := Lib.hid (logat3 (w := waI2) (a := ⟨xSet, KI0, 1, 1, SI0, 1, 1⟩) (b := ⟨xNone, KI1, 1, 1, SI1, 1, 1⟩) (c := ⟨xTold 0, KI2, 1, 1, SI2, 2, 2⟩) rfl ((HAI0.out.bel HBI1.out).bel HBI2.out) (HAI1.out.bel HBI2.out) HAI2.out set_ok none_ok (told_ok 0 u0))
  refine (losses_any _ 3 3 _ _ (HT.out.bel (bel_alloc (bel_trans (bel_trans (bel_trans (HZH.out) HBI0.out) HBI1.out) HBI2.out) _)) HLI.out).mono ?_
  rw [knI_b, knI_n]
  rintro e wzI ⟨rfl, hzI⟩
  have HZI := Lib.hid (bel_trans (bel_alloc (bel_trans (bel_trans (bel_trans (HZH.out) HBI0.out) HBI1.out) HBI2.out) _) hzI)
  clear hzI
  go_wp2_with fail
  go_ret
  exact ⟨rfl, HZI.out⟩
end Go.Proofs.YtbhnmaghnnpboaaDoor

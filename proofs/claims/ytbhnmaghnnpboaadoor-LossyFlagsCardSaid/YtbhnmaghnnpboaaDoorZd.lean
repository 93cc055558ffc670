/- event.Of by the pure C; then Keys, To. -/
import Derived.Test.YtbhnmaghnnpboaaDoorZc
import Derived.Test.YtbhnmaghnnpboaaDoorZx
namespace Go.Proofs.YtbhnmaghnnpboaaDoor
open Go.RowKit
attribute [local go_sem ↓] Go.wp_at_zero Go.wp_at_succ

/-- The argument that a command is, its keys in the slice .slice A n c. -/
def cmdV (x : M.Cmd) (A : Option Addr) (n c : Nat) : Value := .agg #[.string x.what, .string x.verb, .slice A n c, .string x.data, .int .u32 x.flags, .int .i64 x.exp, .int .u64 x.cas, .int .u64 x.by_, .bool x.withCas, .bool x.withTouch, .bool x.down, .bool x.quiet]

theorem what_of (x : M.Cmd) :
    (x.what = M.sGet ∧ x.of = .get x.keys x.withCas x.withTouch x.exp) ∨
    (x.what = M.sStore ∧ x.of = .store x.verb (M.first x.keys) x.data x.flags x.exp x.cas x.quiet) ∨
    (x.what = M.sArith ∧ x.of = .arith (M.first x.keys) x.by_ x.down x.quiet) ∨
    (x.what = M.sTouch ∧ x.of = .touch (M.first x.keys) x.exp x.quiet) ∨
    (x.what = M.sDelete ∧ x.of = .delete (M.first x.keys) x.quiet) ∨
    (x.what = M.sFlush ∧ x.of = .flush x.quiet) ∨
    (x.what = M.sBad ∧ x.of = .bad x.verb) ∨
    (x.what = M.sWord ∧ x.of = .word x.verb) ∨
    ((x.what ≠ M.sGet ∧ x.what ≠ M.sStore ∧ x.what ≠ M.sArith ∧ x.what ≠ M.sTouch ∧ x.what ≠ M.sDelete ∧ x.what ≠ M.sFlush ∧ x.what ≠ M.sBad ∧ x.what ≠ M.sWord) ∧ x.of = .none) := by
  by_cases h0 : x.what = M.sGet
  · exact .inl ⟨h0, by unfold M.Cmd.of; rw [if_pos h0]⟩
  by_cases h1 : x.what = M.sStore
  · exact .inr (.inl ⟨h1, by unfold M.Cmd.of; rw [if_neg h0, if_pos h1]⟩)
  by_cases h2 : x.what = M.sArith
  · exact .inr (.inr (.inl ⟨h2, by unfold M.Cmd.of; rw [if_neg h0, if_neg h1, if_pos h2]⟩))
  by_cases h3 : x.what = M.sTouch
  · exact .inr (.inr (.inr (.inl ⟨h3, by unfold M.Cmd.of; rw [if_neg h0, if_neg h1, if_neg h2, if_pos h3]⟩)))
  by_cases h4 : x.what = M.sDelete
  · exact .inr (.inr (.inr (.inr (.inl ⟨h4, by unfold M.Cmd.of; rw [if_neg h0, if_neg h1, if_neg h2, if_neg h3, if_pos h4]⟩))))
  by_cases h5 : x.what = M.sFlush
  · exact .inr (.inr (.inr (.inr (.inr (.inl ⟨h5, by unfold M.Cmd.of; rw [if_neg h0, if_neg h1, if_neg h2, if_neg h3, if_neg h4, if_pos h5]⟩)))))
  by_cases h6 : x.what = M.sBad
  · exact .inr (.inr (.inr (.inr (.inr (.inr (.inl ⟨h6, by unfold M.Cmd.of; rw [if_neg h0, if_neg h1, if_neg h2, if_neg h3, if_neg h4, if_neg h5, if_pos h6]⟩))))))
  by_cases h7 : x.what = M.sWord
  · exact .inr (.inr (.inr (.inr (.inr (.inr (.inr (.inl ⟨h7, by unfold M.Cmd.of; rw [if_neg h0, if_neg h1, if_neg h2, if_neg h3, if_neg h4, if_neg h5, if_neg h6, if_pos h7]⟩)))))))
  exact .inr (.inr (.inr (.inr (.inr (.inr (.inr (.inr ⟨⟨h0, h1, h2, h3, h4, h5, h6, h7⟩, by unfold M.Cmd.of; rw [if_neg h0, if_neg h1, if_neg h2, if_neg h3, if_neg h4, if_neg h5, if_neg h6, if_neg h7]⟩)))))))

theorem toList_ne {a b : ByteArray} {l : List UInt8} (h : a ≠ b) (hb : b.toList = l) : (a.toList == l) = false := by
  subst hb
  rw [beq_eq_false_iff_ne]
  intro he
  apply h
  have h1 : a.data.toList = b.data.toList := by rw [← ByteArray.toList_eq, ← ByteArray.toList_eq]; exact he
  cases a; cases b; congr 1; exact Array.toList_inj.1 h1

/-- event.Of, of whatever command. -/
theorem of_any (x : M.Cmd) (A : Option Addr) (n c : Nat) (w : World) (h : RdS w w.heap.size A n x.keys) :
    Calls Tryd.prog 29 #[.agg #[.string x.what, .string x.verb, .slice A n c, .string x.data, .int .u32 x.flags, .int .i64 x.exp, .int .u64 x.cas, .int .u64 x.by_, .bool x.withCas, .bool x.withTouch, .bool x.down, .bool x.quiet]] w
      fun r w' => ∃ A' c', r = .returned (cV (.slice A' n c') x.of) ∧ (x.what = M.sGet → RdS w' w'.heap.size A' n x.keys) ∧ Below w.heap.size w w' := by
  obtain ⟨what, verb, keys, data, flags, exp, cas, by_, wc, wt, dn, q⟩ := x
  rcases what_of ⟨what, verb, keys, data, flags, exp, cas, by_, wc, wt, dn, q⟩ with ⟨h0, h1⟩ | ⟨h0, h1⟩ | ⟨h0, h1⟩ | ⟨h0, h1⟩ | ⟨h0, h1⟩ | ⟨h0, h1⟩ | ⟨h0, h1⟩ | ⟨h0, h1⟩ | ⟨h0, h1⟩
  · rw [h1]
    simp only at h0; subst h0
    exact (of_get verb data flags exp cas by_ wc wt dn q A n c keys w h).mono fun e w' ⟨A', c', he, hr, hb⟩ => ⟨A', c', he, fun _ => hr, hb⟩
  · rw [h1]
    simp only at h0; subst h0
    exact (of_store verb data flags exp cas by_ wc wt dn q A n c keys w h).mono fun e w' ⟨he, hb⟩ => ⟨none, 0, he, fun hg => absurd hg (show M.sStore ≠ M.sGet by decide), hb⟩
  · rw [h1]
    simp only at h0; subst h0
    exact (of_arith verb data flags exp cas by_ wc wt dn q A n c keys w h).mono fun e w' ⟨he, hb⟩ => ⟨none, 0, he, fun hg => absurd hg (show M.sArith ≠ M.sGet by decide), hb⟩
  · rw [h1]
    simp only at h0; subst h0
    exact (of_touch verb data flags exp cas by_ wc wt dn q A n c keys w h).mono fun e w' ⟨he, hb⟩ => ⟨none, 0, he, fun hg => absurd hg (show M.sTouch ≠ M.sGet by decide), hb⟩
  · rw [h1]
    simp only at h0; subst h0
    exact (of_delete verb data flags exp cas by_ wc wt dn q A n c keys w h).mono fun e w' ⟨he, hb⟩ => ⟨none, 0, he, fun hg => absurd hg (show M.sDelete ≠ M.sGet by decide), hb⟩
  · rw [h1]
    simp only at h0; subst h0
    exact (of_flush verb data flags exp cas by_ wc wt dn q A n c w).mono fun e w' ⟨he, hb⟩ => ⟨none, 0, he, fun hg => absurd hg (show M.sFlush ≠ M.sGet by decide), hb⟩
  · rw [h1]
    simp only at h0; subst h0
    exact (of_bad verb data flags exp cas by_ wc wt dn q A n c w).mono fun e w' ⟨he, hb⟩ => ⟨none, 0, he, fun hg => absurd hg (show M.sBad ≠ M.sGet by decide), hb⟩
  · rw [h1]
    simp only at h0; subst h0
    exact (of_word verb data flags exp cas by_ wc wt dn q A n c w).mono fun e w' ⟨he, hb⟩ => ⟨none, 0, he, fun hg => absurd hg (show M.sWord ≠ M.sGet by decide), hb⟩
  · rw [h1]
    obtain ⟨g0, g1, g2, g3, g4, g5, g6, g7⟩ := h0
    exact (of_none what verb data flags exp cas by_ wc wt dn q A n c w (toList_ne g0 (by rw [ByteArray.toList_eq]; rfl)) (toList_ne g1 (by rw [ByteArray.toList_eq]; rfl)) (toList_ne g2 (by rw [ByteArray.toList_eq]; rfl)) (toList_ne g3 (by rw [ByteArray.toList_eq]; rfl)) (toList_ne g4 (by rw [ByteArray.toList_eq]; rfl)) (toList_ne g5 (by rw [ByteArray.toList_eq]; rfl)) (toList_ne g6 (by rw [ByteArray.toList_eq]; rfl)) (toList_ne g7 (by rw [ByteArray.toList_eq]; rfl))).mono fun e w' ⟨he, hb⟩ => ⟨none, 0, he, fun hg => absurd hg g0, hb⟩
end Go.Proofs.YtbhnmaghnnpboaaDoor
/- event.Keys. -/
namespace Go.Proofs.YtbhnmaghnnpboaaDoor
open Go.RowKit
attribute [local go_sem ↓] Go.wp_at_zero Go.wp_at_succ

theorem RdS.one (w : World) (k : ByteArray) (t : TypeId) (g : Nat) (hg : g = w.heap.size) : RdS (w.alloc (.cells #[.string k] t)) (w.alloc (.cells #[.string k] t)).heap.size (some ⟨g, 0, none⟩) 1 [k] := by
  subst hg
  exact ⟨rfl, by omega, fun _ => ⟨w.heap.size, 0, rfl, by simp, fun j hj => by
    obtain rfl : j = 0 := by omega
    simp⟩⟩

set_option maxRecDepth 100000 in
set_option maxHeartbeats 1000000 in
theorem keys_get (x : M.Cmd) (A : Option Addr) (n c : Nat) (w : World) (h : RdS w w.heap.size A n x.keys) (h0 : x.what = M.sGet) (h1 : x.of = .get x.keys x.withCas x.withTouch x.exp) :
    Calls Tryd.prog 32 #[.agg #[.string x.what, .string x.verb, .slice A n c, .string x.data, .int .u32 x.flags, .int .i64 x.exp, .int .u64 x.cas, .int .u64 x.by_, .bool x.withCas, .bool x.withTouch, .bool x.down, .bool x.quiet]] w
      fun r w' => ∃ A' n' c', r = .returned (.slice A' n' c') ∧ RdS w' w'.heap.size A' n' x.of.keys ∧ Below w.heap.size w w' := by
  have hx : RdS (w.alloc (.cells #[.string x.what, .string x.verb, .slice A n c, .string x.data, .int .u32 x.flags, .int .i64 x.exp, .int .u64 x.cas, .int .u64 x.by_, .bool x.withCas, .bool x.withTouch, .bool x.down, .bool x.quiet] 29)) (w.alloc (.cells #[.string x.what, .string x.verb, .slice A n c, .string x.data, .int .u32 x.flags, .int .i64 x.exp, .int .u64 x.cas, .int .u64 x.by_, .bool x.withCas, .bool x.withTouch, .bool x.down, .bool x.quiet] 29)).heap.size A n x.keys :=
    (h.below ((Below.refl w.heap.size w).alloc (Nat.le_refl _) _) (Nat.le_refl _)).more (by simp)
  have hv := of_any x A n c _ hx
  clear hx h
  rw [h1] at hv ⊢
  simp only [cV, M.C.keys] at hv ⊢
  have H0 := Lib.hid h0
  have HV := Lib.hid hv
  clear h0 h1 hv
  go_enter Tryd.func32, Tryd.ntmps32
  go_wp2_with fail
  refine HV.out.mono ?_
  rintro e w1 ⟨A1, c1, rfl, hr1, hb1⟩
  have hw := bel_of hb1
  have hr := hr1 H0.out
  clear hr1 hb1
  go_wp2_with fail
  refine (clone_any A1 n c1 x.keys _ ((hr.below (bel_alloc (bel_refl _) _) (Nat.le_refl _)).more (by simp))).mono ?_
  rintro e w2 ⟨A2, c2, rfl, hr2, hb2⟩
  go_wp2_with fail
  go_ret
  exact ⟨A2, n, c2, rfl, hr2, bel_trans (bel_alloc hw _) hb2⟩
set_option maxRecDepth 100000 in
set_option maxHeartbeats 1000000 in
theorem keys_store (x : M.Cmd) (A : Option Addr) (n c : Nat) (w : World) (h : RdS w w.heap.size A n x.keys) (h0 : x.what = M.sStore) (h1 : x.of = .store x.verb (M.first x.keys) x.data x.flags x.exp x.cas x.quiet) :
    Calls Tryd.prog 32 #[.agg #[.string x.what, .string x.verb, .slice A n c, .string x.data, .int .u32 x.flags, .int .i64 x.exp, .int .u64 x.cas, .int .u64 x.by_, .bool x.withCas, .bool x.withTouch, .bool x.down, .bool x.quiet]] w
      fun r w' => ∃ A' n' c', r = .returned (.slice A' n' c') ∧ RdS w' w'.heap.size A' n' x.of.keys ∧ Below w.heap.size w w' := by
  have hx : RdS (w.alloc (.cells #[.string x.what, .string x.verb, .slice A n c, .string x.data, .int .u32 x.flags, .int .i64 x.exp, .int .u64 x.cas, .int .u64 x.by_, .bool x.withCas, .bool x.withTouch, .bool x.down, .bool x.quiet] 29)) (w.alloc (.cells #[.string x.what, .string x.verb, .slice A n c, .string x.data, .int .u32 x.flags, .int .i64 x.exp, .int .u64 x.cas, .int .u64 x.by_, .bool x.withCas, .bool x.withTouch, .bool x.down, .bool x.quiet] 29)).heap.size A n x.keys :=
    (h.below ((Below.refl w.heap.size w).alloc (Nat.le_refl _) _) (Nat.le_refl _)).more (by simp)
  have hv := of_any x A n c _ hx
  clear hx h
  rw [h1] at hv ⊢
  simp only [cV, M.C.keys] at hv ⊢
  have H0 := Lib.hid h0
  have HV := Lib.hid hv
  clear h0 h1 hv
  go_enter Tryd.func32, Tryd.ntmps32
  go_wp2_with fail
  refine HV.out.mono ?_
  rintro e w1 ⟨A1, c1, rfl, hr1, hb1⟩
  have hw := bel_of hb1
  clear hr1 hb1 H0
  go_wp2_with fail
  go_ret
  refine ⟨_, _, _, rfl, RdS.one _ _ _ _ (by simp), ?_⟩
  repeat (first | with_reducible exact hw | with_reducible apply bel_alloc)
set_option maxRecDepth 100000 in
set_option maxHeartbeats 1000000 in
theorem keys_arith (x : M.Cmd) (A : Option Addr) (n c : Nat) (w : World) (h : RdS w w.heap.size A n x.keys) (h0 : x.what = M.sArith) (h1 : x.of = .arith (M.first x.keys) x.by_ x.down x.quiet) :
    Calls Tryd.prog 32 #[.agg #[.string x.what, .string x.verb, .slice A n c, .string x.data, .int .u32 x.flags, .int .i64 x.exp, .int .u64 x.cas, .int .u64 x.by_, .bool x.withCas, .bool x.withTouch, .bool x.down, .bool x.quiet]] w
      fun r w' => ∃ A' n' c', r = .returned (.slice A' n' c') ∧ RdS w' w'.heap.size A' n' x.of.keys ∧ Below w.heap.size w w' := by
  have hx : RdS (w.alloc (.cells #[.string x.what, .string x.verb, .slice A n c, .string x.data, .int .u32 x.flags, .int .i64 x.exp, .int .u64 x.cas, .int .u64 x.by_, .bool x.withCas, .bool x.withTouch, .bool x.down, .bool x.quiet] 29)) (w.alloc (.cells #[.string x.what, .string x.verb, .slice A n c, .string x.data, .int .u32 x.flags, .int .i64 x.exp, .int .u64 x.cas, .int .u64 x.by_, .bool x.withCas, .bool x.withTouch, .bool x.down, .bool x.quiet] 29)).heap.size A n x.keys :=
    (h.below ((Below.refl w.heap.size w).alloc (Nat.le_refl _) _) (Nat.le_refl _)).more (by simp)
  have hv := of_any x A n c _ hx
  clear hx h
  rw [h1] at hv ⊢
  simp only [cV, M.C.keys] at hv ⊢
  have H0 := Lib.hid h0
  have HV := Lib.hid hv
  clear h0 h1 hv
  go_enter Tryd.func32, Tryd.ntmps32
  go_wp2_with fail
  refine HV.out.mono ?_
  rintro e w1 ⟨A1, c1, rfl, hr1, hb1⟩
  have hw := bel_of hb1
  clear hr1 hb1 H0
  go_wp2_with fail
  go_ret
  refine ⟨_, _, _, rfl, RdS.one _ _ _ _ (by simp), ?_⟩
  repeat (first | with_reducible exact hw | with_reducible apply bel_alloc)
set_option maxRecDepth 100000 in
set_option maxHeartbeats 1000000 in
theorem keys_touch (x : M.Cmd) (A : Option Addr) (n c : Nat) (w : World) (h : RdS w w.heap.size A n x.keys) (h0 : x.what = M.sTouch) (h1 : x.of = .touch (M.first x.keys) x.exp x.quiet) :
    Calls Tryd.prog 32 #[.agg #[.string x.what, .string x.verb, .slice A n c, .string x.data, .int .u32 x.flags, .int .i64 x.exp, .int .u64 x.cas, .int .u64 x.by_, .bool x.withCas, .bool x.withTouch, .bool x.down, .bool x.quiet]] w
      fun r w' => ∃ A' n' c', r = .returned (.slice A' n' c') ∧ RdS w' w'.heap.size A' n' x.of.keys ∧ Below w.heap.size w w' := by
  have hx : RdS (w.alloc (.cells #[.string x.what, .string x.verb, .slice A n c, .string x.data, .int .u32 x.flags, .int .i64 x.exp, .int .u64 x.cas, .int .u64 x.by_, .bool x.withCas, .bool x.withTouch, .bool x.down, .bool x.quiet] 29)) (w.alloc (.cells #[.string x.what, .string x.verb, .slice A n c, .string x.data, .int .u32 x.flags, .int .i64 x.exp, .int .u64 x.cas, .int .u64 x.by_, .bool x.withCas, .bool x.withTouch, .bool x.down, .bool x.quiet] 29)).heap.size A n x.keys :=
    (h.below ((Below.refl w.heap.size w).alloc (Nat.le_refl _) _) (Nat.le_refl _)).more (by simp)
  have hv := of_any x A n c _ hx
  clear hx h
  rw [h1] at hv ⊢
  simp only [cV, M.C.keys] at hv ⊢
  have H0 := Lib.hid h0
  have HV := Lib.hid hv
  clear h0 h1 hv
  go_enter Tryd.func32, Tryd.ntmps32
  go_wp2_with fail
  refine HV.out.mono ?_
  rintro e w1 ⟨A1, c1, rfl, hr1, hb1⟩
  have hw := bel_of hb1
  clear hr1 hb1 H0
  go_wp2_with fail
  go_ret
  refine ⟨_, _, _, rfl, RdS.one _ _ _ _ (by simp), ?_⟩
  repeat (first | with_reducible exact hw | with_reducible apply bel_alloc)
set_option maxRecDepth 100000 in
set_option maxHeartbeats 1000000 in
theorem keys_delete (x : M.Cmd) (A : Option Addr) (n c : Nat) (w : World) (h : RdS w w.heap.size A n x.keys) (h0 : x.what = M.sDelete) (h1 : x.of = .delete (M.first x.keys) x.quiet) :
    Calls Tryd.prog 32 #[.agg #[.string x.what, .string x.verb, .slice A n c, .string x.data, .int .u32 x.flags, .int .i64 x.exp, .int .u64 x.cas, .int .u64 x.by_, .bool x.withCas, .bool x.withTouch, .bool x.down, .bool x.quiet]] w
      fun r w' => ∃ A' n' c', r = .returned (.slice A' n' c') ∧ RdS w' w'.heap.size A' n' x.of.keys ∧ Below w.heap.size w w' := by
  have hx : RdS (w.alloc (.cells #[.string x.what, .string x.verb, .slice A n c, .string x.data, .int .u32 x.flags, .int .i64 x.exp, .int .u64 x.cas, .int .u64 x.by_, .bool x.withCas, .bool x.withTouch, .bool x.down, .bool x.quiet] 29)) (w.alloc (.cells #[.string x.what, .string x.verb, .slice A n c, .string x.data, .int .u32 x.flags, .int .i64 x.exp, .int .u64 x.cas, .int .u64 x.by_, .bool x.withCas, .bool x.withTouch, .bool x.down, .bool x.quiet] 29)).heap.size A n x.keys :=
    (h.below ((Below.refl w.heap.size w).alloc (Nat.le_refl _) _) (Nat.le_refl _)).more (by simp)
  have hv := of_any x A n c _ hx
  clear hx h
  rw [h1] at hv ⊢
  simp only [cV, M.C.keys] at hv ⊢
  have H0 := Lib.hid h0
  have HV := Lib.hid hv
  clear h0 h1 hv
  go_enter Tryd.func32, Tryd.ntmps32
  go_wp2_with fail
  refine HV.out.mono ?_
  rintro e w1 ⟨A1, c1, rfl, hr1, hb1⟩
  have hw := bel_of hb1
  clear hr1 hb1 H0
  go_wp2_with fail
  go_ret
  refine ⟨_, _, _, rfl, RdS.one _ _ _ _ (by simp), ?_⟩
  repeat (first | with_reducible exact hw | with_reducible apply bel_alloc)
set_option maxRecDepth 100000 in
set_option maxHeartbeats 1000000 in
theorem keys_flush (x : M.Cmd) (A : Option Addr) (n c : Nat) (w : World) (h : RdS w w.heap.size A n x.keys) (h0 : x.what = M.sFlush) (h1 : x.of = .flush x.quiet) :
    Calls Tryd.prog 32 #[.agg #[.string x.what, .string x.verb, .slice A n c, .string x.data, .int .u32 x.flags, .int .i64 x.exp, .int .u64 x.cas, .int .u64 x.by_, .bool x.withCas, .bool x.withTouch, .bool x.down, .bool x.quiet]] w
      fun r w' => ∃ A' n' c', r = .returned (.slice A' n' c') ∧ RdS w' w'.heap.size A' n' x.of.keys ∧ Below w.heap.size w w' := by
  have hx : RdS (w.alloc (.cells #[.string x.what, .string x.verb, .slice A n c, .string x.data, .int .u32 x.flags, .int .i64 x.exp, .int .u64 x.cas, .int .u64 x.by_, .bool x.withCas, .bool x.withTouch, .bool x.down, .bool x.quiet] 29)) (w.alloc (.cells #[.string x.what, .string x.verb, .slice A n c, .string x.data, .int .u32 x.flags, .int .i64 x.exp, .int .u64 x.cas, .int .u64 x.by_, .bool x.withCas, .bool x.withTouch, .bool x.down, .bool x.quiet] 29)).heap.size A n x.keys :=
    (h.below ((Below.refl w.heap.size w).alloc (Nat.le_refl _) _) (Nat.le_refl _)).more (by simp)
  have hv := of_any x A n c _ hx
  clear hx h
  rw [h1] at hv ⊢
  simp only [cV, M.C.keys] at hv ⊢
  have H0 := Lib.hid h0
  have HV := Lib.hid hv
  clear h0 h1 hv
  go_enter Tryd.func32, Tryd.ntmps32
  go_wp2_with fail
  refine HV.out.mono ?_
  rintro e w1 ⟨A1, c1, rfl, hr1, hb1⟩
  have hw := bel_of hb1
  clear hr1 hb1 H0
  go_wp2_with fail
  go_ret
  refine ⟨_, _, _, rfl, RdS.nil _ _ _, ?_⟩
  repeat (first | with_reducible exact hw | with_reducible apply bel_alloc)
set_option maxRecDepth 100000 in
set_option maxHeartbeats 1000000 in
theorem keys_bad (x : M.Cmd) (A : Option Addr) (n c : Nat) (w : World) (h : RdS w w.heap.size A n x.keys) (h0 : x.what = M.sBad) (h1 : x.of = .bad x.verb) :
    Calls Tryd.prog 32 #[.agg #[.string x.what, .string x.verb, .slice A n c, .string x.data, .int .u32 x.flags, .int .i64 x.exp, .int .u64 x.cas, .int .u64 x.by_, .bool x.withCas, .bool x.withTouch, .bool x.down, .bool x.quiet]] w
      fun r w' => ∃ A' n' c', r = .returned (.slice A' n' c') ∧ RdS w' w'.heap.size A' n' x.of.keys ∧ Below w.heap.size w w' := by
  have hx : RdS (w.alloc (.cells #[.string x.what, .string x.verb, .slice A n c, .string x.data, .int .u32 x.flags, .int .i64 x.exp, .int .u64 x.cas, .int .u64 x.by_, .bool x.withCas, .bool x.withTouch, .bool x.down, .bool x.quiet] 29)) (w.alloc (.cells #[.string x.what, .string x.verb, .slice A n c, .string x.data, .int .u32 x.flags, .int .i64 x.exp, .int .u64 x.cas, .int .u64 x.by_, .bool x.withCas, .bool x.withTouch, .bool x.down, .bool x.quiet] 29)).heap.size A n x.keys :=
    (h.below ((Below.refl w.heap.size w).alloc (Nat.le_refl _) _) (Nat.le_refl _)).more (by simp)
  have hv := of_any x A n c _ hx
  clear hx h
  rw [h1] at hv ⊢
  simp only [cV, M.C.keys] at hv ⊢
  have H0 := Lib.hid h0
  have HV := Lib.hid hv
  clear h0 h1 hv
  go_enter Tryd.func32, Tryd.ntmps32
  go_wp2_with fail
  refine HV.out.mono ?_
  rintro e w1 ⟨A1, c1, rfl, hr1, hb1⟩
  have hw := bel_of hb1
  clear hr1 hb1 H0
  go_wp2_with fail
  go_ret
  refine ⟨_, _, _, rfl, RdS.nil _ _ _, ?_⟩
  repeat (first | with_reducible exact hw | with_reducible apply bel_alloc)
set_option maxRecDepth 100000 in
set_option maxHeartbeats 1000000 in
theorem keys_word (x : M.Cmd) (A : Option Addr) (n c : Nat) (w : World) (h : RdS w w.heap.size A n x.keys) (h0 : x.what = M.sWord) (h1 : x.of = .word x.verb) :
    Calls Tryd.prog 32 #[.agg #[.string x.what, .string x.verb, .slice A n c, .string x.data, .int .u32 x.flags, .int .i64 x.exp, .int .u64 x.cas, .int .u64 x.by_, .bool x.withCas, .bool x.withTouch, .bool x.down, .bool x.quiet]] w
      fun r w' => ∃ A' n' c', r = .returned (.slice A' n' c') ∧ RdS w' w'.heap.size A' n' x.of.keys ∧ Below w.heap.size w w' := by
  have hx : RdS (w.alloc (.cells #[.string x.what, .string x.verb, .slice A n c, .string x.data, .int .u32 x.flags, .int .i64 x.exp, .int .u64 x.cas, .int .u64 x.by_, .bool x.withCas, .bool x.withTouch, .bool x.down, .bool x.quiet] 29)) (w.alloc (.cells #[.string x.what, .string x.verb, .slice A n c, .string x.data, .int .u32 x.flags, .int .i64 x.exp, .int .u64 x.cas, .int .u64 x.by_, .bool x.withCas, .bool x.withTouch, .bool x.down, .bool x.quiet] 29)).heap.size A n x.keys :=
    (h.below ((Below.refl w.heap.size w).alloc (Nat.le_refl _) _) (Nat.le_refl _)).more (by simp)
  have hv := of_any x A n c _ hx
  clear hx h
  rw [h1] at hv ⊢
  simp only [cV, M.C.keys] at hv ⊢
  have H0 := Lib.hid h0
  have HV := Lib.hid hv
  clear h0 h1 hv
  go_enter Tryd.func32, Tryd.ntmps32
  go_wp2_with fail
  refine HV.out.mono ?_
  rintro e w1 ⟨A1, c1, rfl, hr1, hb1⟩
  have hw := bel_of hb1
  clear hr1 hb1 H0
  go_wp2_with fail
  go_ret
  refine ⟨_, _, _, rfl, RdS.nil _ _ _, ?_⟩
  repeat (first | with_reducible exact hw | with_reducible apply bel_alloc)
set_option maxRecDepth 100000 in
set_option maxHeartbeats 1000000 in
theorem keys_none (x : M.Cmd) (A : Option Addr) (n c : Nat) (w : World) (h : RdS w w.heap.size A n x.keys) (h0 : True) (h1 : x.of = .none) :
    Calls Tryd.prog 32 #[.agg #[.string x.what, .string x.verb, .slice A n c, .string x.data, .int .u32 x.flags, .int .i64 x.exp, .int .u64 x.cas, .int .u64 x.by_, .bool x.withCas, .bool x.withTouch, .bool x.down, .bool x.quiet]] w
      fun r w' => ∃ A' n' c', r = .returned (.slice A' n' c') ∧ RdS w' w'.heap.size A' n' x.of.keys ∧ Below w.heap.size w w' := by
  have hx : RdS (w.alloc (.cells #[.string x.what, .string x.verb, .slice A n c, .string x.data, .int .u32 x.flags, .int .i64 x.exp, .int .u64 x.cas, .int .u64 x.by_, .bool x.withCas, .bool x.withTouch, .bool x.down, .bool x.quiet] 29)) (w.alloc (.cells #[.string x.what, .string x.verb, .slice A n c, .string x.data, .int .u32 x.flags, .int .i64 x.exp, .int .u64 x.cas, .int .u64 x.by_, .bool x.withCas, .bool x.withTouch, .bool x.down, .bool x.quiet] 29)).heap.size A n x.keys :=
    (h.below ((Below.refl w.heap.size w).alloc (Nat.le_refl _) _) (Nat.le_refl _)).more (by simp)
  have hv := of_any x A n c _ hx
  clear hx h
  rw [h1] at hv ⊢
  simp only [cV, M.C.keys] at hv ⊢
  have H0 := Lib.hid h0
  have HV := Lib.hid hv
  clear h0 h1 hv
  go_enter Tryd.func32, Tryd.ntmps32
  go_wp2_with fail
  refine HV.out.mono ?_
  rintro e w1 ⟨A1, c1, rfl, hr1, hb1⟩
  have hw := bel_of hb1
  clear hr1 hb1 H0
  go_wp2_with fail
  go_ret
  refine ⟨_, _, _, rfl, RdS.nil _ _ _, ?_⟩
  repeat (first | with_reducible exact hw | with_reducible apply bel_alloc)
/-- event.Keys. -/
theorem keys_any (x : M.Cmd) (A : Option Addr) (n c : Nat) (w : World) (h : RdS w w.heap.size A n x.keys) :
    Calls Tryd.prog 32 #[.agg #[.string x.what, .string x.verb, .slice A n c, .string x.data, .int .u32 x.flags, .int .i64 x.exp, .int .u64 x.cas, .int .u64 x.by_, .bool x.withCas, .bool x.withTouch, .bool x.down, .bool x.quiet]] w
      fun r w' => ∃ A' n' c', r = .returned (.slice A' n' c') ∧ RdS w' w'.heap.size A' n' x.of.keys ∧ Below w.heap.size w w' := by
  rcases what_of x with ⟨h0, h1⟩ | ⟨h0, h1⟩ | ⟨h0, h1⟩ | ⟨h0, h1⟩ | ⟨h0, h1⟩ | ⟨h0, h1⟩ | ⟨h0, h1⟩ | ⟨h0, h1⟩ | ⟨_, h1⟩
  · exact keys_get x A n c w h h0 h1
  · exact keys_store x A n c w h h0 h1
  · exact keys_arith x A n c w h h0 h1
  · exact keys_touch x A n c w h h0 h1
  · exact keys_delete x A n c w h h0 h1
  · exact keys_flush x A n c w h h0 h1
  · exact keys_bad x A n c w h h0 h1
  · exact keys_word x A n c w h h0 h1
  · exact keys_none x A n c w h trivial h1
end Go.Proofs.YtbhnmaghnnpboaaDoor

/- event.Good. -/
import Derived.Test.YtbhnmaghnnpboaaDoorZc
import Derived.Test.YtbhnmaghnnpboaaDoorZd
import Derived.Deep.QuietTactic
namespace Go.Proofs.YtbhnmaghnnpboaaDoor
open Go.RowKit
attribute [local go_sem ↓] Go.wp_at_zero Go.wp_at_succ

def verbsL : List ByteArray := [⟨#[115, 101, 116]⟩, ⟨#[97, 100, 100]⟩, ⟨#[114, 101, 112, 108, 97, 99, 101]⟩, ⟨#[97, 112, 112, 101, 110, 100]⟩, ⟨#[112, 114, 101, 112, 101, 110, 100]⟩, ⟨#[99, 97, 115]⟩]
def verbIn (v : ByteArray) : Bool := verbsL.any (fun u => decide (u = v))
theorem own_cell {w w2 : World} {cs : Array Value} {t : TypeId} (hb : Below (w.alloc (.cells cs t)).heap.size (w.alloc (.cells cs t)) w2) : ∀ o, w2.cell? ⟨w.heap.size, o, none⟩ = cs[o]? := fun o => (hb.cell (p := ⟨w.heap.size, o, none⟩) (by simp)).trans (World.cell?_alloc_new w cs t o)
theorem bel_drewN {B : Nat} {w w1 : World} (hb : Below B w w1) (n : Nat) : Below B w (w1.drewN n) := hb.trans ⟨rfl, rfl, rfl, Nat.le_refl _, fun _ _ => rfl⟩
/-- May a command be done? -/
def goodF (x : M.Cmd) : Bool :=
  match x.of with
  | .word name => name.toList == [118, 101, 114, 115, 105, 111, 110] || name.toList == [113, 117, 105, 116]
  | .flush _ => true
  | .store verb _ data _ _ _ _ => verbIn verb && decide (data.size ≤ 1024) && (x.of.keys.all keyF)
  | _ => decide (1 ≤ x.of.keys.length) && decide (x.of.keys.length ≤ 64) && x.of.keys.all keyF

theorem any_not (l : List ByteArray) : (l.any fun k => !keyF k) = !l.all keyF := by
  induction l with
  | nil => rfl
  | cons a l ih => simp [ih]

theorem contains_verbs (g : Nat) (verb : ByteArray) (b : Bool) (hb : verbIn verb = b) (w : World)
    (h : w.heap[g]? = some (.cells #[.string ⟨#[115, 101, 116]⟩, .string ⟨#[97, 100, 100]⟩, .string ⟨#[114, 101, 112, 108, 97, 99, 101]⟩, .string ⟨#[97, 112, 112, 101, 110, 100]⟩, .string ⟨#[112, 114, 101, 112, 101, 110, 100]⟩, .string ⟨#[99, 97, 115]⟩] 9)) :
    Calls Tryd.prog 30 #[.slice (some ⟨g, 0, none⟩) 6 6, .string verb] w fun e w' => e = .returned (.bool b) ∧ w = w' := by
  refine (Tryd.slices_Contains_string g 0 6 6 verbsL verb w (by decide) (by decide) (fun j hj => ?_)).mono fun e w' ⟨he, hw⟩ => ⟨?_, hw.symm⟩
  · rw [cell_of_row w g _ _ 9 (0, 0) h]
    have hj' : j < 6 := hj
    match j, hj' with
    | 0, _ => rfl
    | 1, _ => rfl
    | 2, _ => rfl
    | 3, _ => rfl
    | 4, _ => rfl
    | 5, _ => rfl
  · rw [he, ← hb]
    have : Lib.containsS (List.take 6 verbsL) verb = verbIn verb := by
      rw [show List.take 6 verbsL = verbsL from rfl, Bool.eq_iff_iff, Lib.containsS, decide_eq_true_eq, Lib.idxOfS_nonneg_iff, verbIn, List.any_eq_true]
      simp only [decide_eq_true_eq]
      exact ⟨fun h => ⟨_, h, rfl⟩, fun ⟨u, hu, e⟩ => e ▸ hu⟩
    rw [this]

set_option maxRecDepth 100000 in
set_option maxHeartbeats 2000000 in
theorem good_flush (x : M.Cmd) (A : Option Addr) (n c : Nat) (w : World) (h : RdS w w.heap.size A n x.keys) (ht : Tabs w) (h1 : x.of = .flush x.quiet) :
    Calls Tryd.prog 17 #[.agg #[.string x.what, .string x.verb, .slice A n c, .string x.data, .int .u32 x.flags, .int .i64 x.exp, .int .u64 x.cas, .int .u64 x.by_, .bool x.withCas, .bool x.withTouch, .bool x.down, .bool x.quiet]] w
      fun r w' => r = .returned (.bool (goodF x)) ∧ Below w.heap.size w w' := by
  have hx : RdS (w.alloc (.cells #[.string x.what, .string x.verb, .slice A n c, .string x.data, .int .u32 x.flags, .int .i64 x.exp, .int .u64 x.cas, .int .u64 x.by_, .bool x.withCas, .bool x.withTouch, .bool x.down, .bool x.quiet] 29)) (w.alloc (.cells #[.string x.what, .string x.verb, .slice A n c, .string x.data, .int .u32 x.flags, .int .i64 x.exp, .int .u64 x.cas, .int .u64 x.by_, .bool x.withCas, .bool x.withTouch, .bool x.down, .bool x.quiet] 29)).heap.size A n x.keys :=
    (h.below ((Below.refl w.heap.size w).alloc (Nat.le_refl _) _) (Nat.le_refl _)).more (by simp)
  have hv := of_any x A n c _ hx
  have hg : goodF x = goodF x := rfl
  conv at hg => rhs; unfold goodF; rw [h1]
  have HG := Lib.hid hg
  have H1 := Lib.hid h1
  have HX := Lib.hid h
  have HT := Lib.hid ht
  rw [h1] at hv
  simp only [cV] at hv
  have HV := Lib.hid hv
  clear h1 hv hx hg h ht
  go_enter Tryd.func17, Tryd.ntmps17
  go_wp2_with fail
  refine HV.out.mono ?_
  rintro e w1 ⟨A1, c1, rfl, hr1, hb1⟩
  have hw := bel_of hb1
  clear hr1 hb1
  go_wp2_with fail
  go_ret
  refine ⟨by rw [HG.out]; rfl, ?_⟩
  repeat (first | with_reducible exact hw | with_reducible apply bel_alloc)
set_option maxRecDepth 100000 in
set_option maxHeartbeats 2000000 in
theorem good_word (x : M.Cmd) (A : Option Addr) (n c : Nat) (w : World) (h : RdS w w.heap.size A n x.keys) (ht : Tabs w) (h1 : x.of = .word x.verb) :
    Calls Tryd.prog 17 #[.agg #[.string x.what, .string x.verb, .slice A n c, .string x.data, .int .u32 x.flags, .int .i64 x.exp, .int .u64 x.cas, .int .u64 x.by_, .bool x.withCas, .bool x.withTouch, .bool x.down, .bool x.quiet]] w
      fun r w' => r = .returned (.bool (goodF x)) ∧ Below w.heap.size w w' := by
  have hx : RdS (w.alloc (.cells #[.string x.what, .string x.verb, .slice A n c, .string x.data, .int .u32 x.flags, .int .i64 x.exp, .int .u64 x.cas, .int .u64 x.by_, .bool x.withCas, .bool x.withTouch, .bool x.down, .bool x.quiet] 29)) (w.alloc (.cells #[.string x.what, .string x.verb, .slice A n c, .string x.data, .int .u32 x.flags, .int .i64 x.exp, .int .u64 x.cas, .int .u64 x.by_, .bool x.withCas, .bool x.withTouch, .bool x.down, .bool x.quiet] 29)).heap.size A n x.keys :=
    (h.below ((Below.refl w.heap.size w).alloc (Nat.le_refl _) _) (Nat.le_refl _)).more (by simp)
  have hv := of_any x A n c _ hx
  have hg : goodF x = goodF x := rfl
  conv at hg => rhs; unfold goodF; rw [h1]
  have HG := Lib.hid hg
  have H1 := Lib.hid h1
  have HX := Lib.hid h
  have HT := Lib.hid ht
  rw [h1] at hv
  simp only [cV] at hv
  have HV := Lib.hid hv
  clear h1 hv hx hg h ht
  by_cases t1 : (x.verb.toList == [118, 101, 114, 115, 105, 111, 110]) = true
  · go_enter Tryd.func17, Tryd.ntmps17
    go_wp2_with fail
    refine HV.out.mono ?_
    rintro e w1 ⟨A1, c1, rfl, hr1, hb1⟩
    have hw := bel_of hb1
    clear hr1 hb1
    go_wp2_with fail
    go_ret
    refine ⟨?_, ?_⟩
    · rw [HG.out]; simp [t1]
    · repeat (first | with_reducible exact hw | with_reducible apply bel_alloc)
  · have t2 : (x.verb.toList == [118, 101, 114, 115, 105, 111, 110]) = false := by simpa using t1
    have T1 := Lib.hid t2
    clear t1
    go_enter Tryd.func17, Tryd.ntmps17
    go_wp2_with fail
    refine HV.out.mono ?_
    rintro e w1 ⟨A1, c1, rfl, hr1, hb1⟩
    have hw := bel_of hb1
    clear hr1 hb1
    go_wp2_with fail
    go_ret
    refine ⟨?_, ?_⟩
    · rw [HG.out]; simp [t2]
    · repeat (first | with_reducible exact hw | with_reducible apply bel_alloc)
set_option maxRecDepth 100000 in
set_option maxHeartbeats 2000000 in
theorem good_store_verb (x : M.Cmd) (A : Option Addr) (n c : Nat) (w : World) (h : RdS w w.heap.size A n x.keys) (ht : Tabs w) (h1 : x.of = .store x.verb (M.first x.keys) x.data x.flags x.exp x.cas x.quiet) (hvb : verbIn x.verb = false) :
    Calls Tryd.prog 17 #[.agg #[.string x.what, .string x.verb, .slice A n c, .string x.data, .int .u32 x.flags, .int .i64 x.exp, .int .u64 x.cas, .int .u64 x.by_, .bool x.withCas, .bool x.withTouch, .bool x.down, .bool x.quiet]] w
      fun r w' => r = .returned (.bool (goodF x)) ∧ Below w.heap.size w w' := by
  have hx : RdS (w.alloc (.cells #[.string x.what, .string x.verb, .slice A n c, .string x.data, .int .u32 x.flags, .int .i64 x.exp, .int .u64 x.cas, .int .u64 x.by_, .bool x.withCas, .bool x.withTouch, .bool x.down, .bool x.quiet] 29)) (w.alloc (.cells #[.string x.what, .string x.verb, .slice A n c, .string x.data, .int .u32 x.flags, .int .i64 x.exp, .int .u64 x.cas, .int .u64 x.by_, .bool x.withCas, .bool x.withTouch, .bool x.down, .bool x.quiet] 29)).heap.size A n x.keys :=
    (h.below ((Below.refl w.heap.size w).alloc (Nat.le_refl _) _) (Nat.le_refl _)).more (by simp)
  have hv := of_any x A n c _ hx
  have hg : goodF x = goodF x := rfl
  conv at hg => rhs; unfold goodF; rw [h1]
  have HG := Lib.hid hg
  have H1 := Lib.hid h1
  have HX := Lib.hid h
  have HT := Lib.hid ht
  rw [h1] at hv
  simp only [cV] at hv
  have HV := Lib.hid hv
  clear h1 hv hx hg h ht
  have HVB := Lib.hid hvb
  clear hvb
  go_enter Tryd.func17, Tryd.ntmps17
  go_wp2_with fail
  refine HV.out.mono ?_
  rintro e w1 ⟨A1, c1, rfl, hr1, hb1⟩
  obtain ⟨hc1, hf1, hz1⟩ := bcell hb1
  have hs1 : w.heap.size + 1 ≤ w1.heap.size := by simpa using hz1
  have hw := bel_of hb1
  clear hr1 hf1 hz1
  go_wp2_with fail
  first | (go_region_with (first | (go_at_call 31; refine (verbs_any _).mono ?_; rintro e w2 ⟨v, rfl, ⟨g, rfl, hg1, hg2, hg3⟩, hb2⟩; obtain ⟨hc2, hf2, hz2⟩ := bcell hb2) | (go_at_call 30; refine (contains_verbs _ _ false HVB.out _ (by assumption)).mono ?_; rintro e w3 ⟨rfl, rfl⟩))) | fail
  all_goals
    have hs2 : w1.heap.size + 3 ≤ w2.heap.size := by simpa using hz2
    have hw2 : Below w.heap.size w w2 := bel_trans (bel_drew (bel_alloc (bel_alloc (bel_alloc hw _) _) _)) hb2
    clear hz2 hf2 hb2 hg1 hg2 hg3
    go_wp2_with fail
    go_ret
    refine ⟨?_, by first | exact hw2 | exact hw2.drew⟩
    rw [HG.out]; simp [HVB.out]
set_option maxRecDepth 100000 in
set_option maxHeartbeats 2000000 in
theorem good_store_size (x : M.Cmd) (A : Option Addr) (n c : Nat) (w : World) (h : RdS w w.heap.size A n x.keys) (ht : Tabs w) (h1 : x.of = .store x.verb (M.first x.keys) x.data x.flags x.exp x.cas x.quiet) (hvb : verbIn x.verb = true) (hsz : ¬ x.data.size ≤ 1024) :
    Calls Tryd.prog 17 #[.agg #[.string x.what, .string x.verb, .slice A n c, .string x.data, .int .u32 x.flags, .int .i64 x.exp, .int .u64 x.cas, .int .u64 x.by_, .bool x.withCas, .bool x.withTouch, .bool x.down, .bool x.quiet]] w
      fun r w' => r = .returned (.bool (goodF x)) ∧ Below w.heap.size w w' := by
  have hx : RdS (w.alloc (.cells #[.string x.what, .string x.verb, .slice A n c, .string x.data, .int .u32 x.flags, .int .i64 x.exp, .int .u64 x.cas, .int .u64 x.by_, .bool x.withCas, .bool x.withTouch, .bool x.down, .bool x.quiet] 29)) (w.alloc (.cells #[.string x.what, .string x.verb, .slice A n c, .string x.data, .int .u32 x.flags, .int .i64 x.exp, .int .u64 x.cas, .int .u64 x.by_, .bool x.withCas, .bool x.withTouch, .bool x.down, .bool x.quiet] 29)).heap.size A n x.keys :=
    (h.below ((Below.refl w.heap.size w).alloc (Nat.le_refl _) _) (Nat.le_refl _)).more (by simp)
  have hv := of_any x A n c _ hx
  have hg : goodF x = goodF x := rfl
  conv at hg => rhs; unfold goodF; rw [h1]
  have HG := Lib.hid hg
  have H1 := Lib.hid h1
  have HX := Lib.hid h
  have HT := Lib.hid ht
  rw [h1] at hv
  simp only [cV] at hv
  have HV := Lib.hid hv
  clear h1 hv hx hg h ht
  have t1 : decide ((1024 : Int) < (x.data.size : Int)) = true := by simp; omega
  have HS := Lib.hid hsz
  have HVB := Lib.hid hvb
  clear hvb hsz
  go_enter Tryd.func17, Tryd.ntmps17
  go_wp2_with fail
  refine HV.out.mono ?_
  rintro e w1 ⟨A1, c1, rfl, hr1, hb1⟩
  obtain ⟨hc1, hf1, hz1⟩ := bcell hb1
  have hs1 : w.heap.size + 1 ≤ w1.heap.size := by simpa using hz1
  have hw := bel_of hb1
  clear hr1 hf1 hz1
  go_wp2_with fail
  go_region_held3 (fun w' => w'.cell? ⟨w1.heap.size + 1 + 1, 0, none⟩ = some (.string x.verb) ∧ w'.cell? ⟨w1.heap.size + 1 + 1, 2, none⟩ = some (.string x.data)) (first | (go_keep; done) | (simp [go_sem]; done) | (simp [*, go_sem]; done)) (first | (go_at_call 31; refine (verbs_any _).mono ?_; rintro e w2 ⟨v, rfl, ⟨g, rfl, hg1, hg2, hg3⟩, hb2⟩; obtain ⟨hc2, hf2, hz2⟩ := bcell hb2) | (go_at_call 30; refine (contains_verbs _ _ true HVB.out _ (by assumption)).mono ?_; rintro e w3 ⟨rfl, rfl⟩))
  have hs2 : w1.heap.size + 3 ≤ w2.heap.size := by simpa using hz2
  have hw2 : Below w.heap.size w w2 := bel_trans (bel_drew (bel_alloc (bel_alloc (bel_alloc hw _) _) _)) hb2
  clear hz2 hf2 hb2 hg1 hg2 hg3
  go_wp2_with fail
  go_ret
  refine ⟨?_, by first | exact hw2 | exact hw2.drew⟩
  rw [HG.out]; simp [HS.out]
set_option maxRecDepth 100000 in
set_option maxHeartbeats 2000000 in
theorem good_store_ok (x : M.Cmd) (A : Option Addr) (n c : Nat) (w : World) (h : RdS w w.heap.size A n x.keys) (ht : Tabs w) (h1 : x.of = .store x.verb (M.first x.keys) x.data x.flags x.exp x.cas x.quiet) (hvb : verbIn x.verb = true) (hsz : x.data.size ≤ 1024) :
    Calls Tryd.prog 17 #[.agg #[.string x.what, .string x.verb, .slice A n c, .string x.data, .int .u32 x.flags, .int .i64 x.exp, .int .u64 x.cas, .int .u64 x.by_, .bool x.withCas, .bool x.withTouch, .bool x.down, .bool x.quiet]] w
      fun r w' => r = .returned (.bool (goodF x)) ∧ Below w.heap.size w w' := by
  have hx : RdS (w.alloc (.cells #[.string x.what, .string x.verb, .slice A n c, .string x.data, .int .u32 x.flags, .int .i64 x.exp, .int .u64 x.cas, .int .u64 x.by_, .bool x.withCas, .bool x.withTouch, .bool x.down, .bool x.quiet] 29)) (w.alloc (.cells #[.string x.what, .string x.verb, .slice A n c, .string x.data, .int .u32 x.flags, .int .i64 x.exp, .int .u64 x.cas, .int .u64 x.by_, .bool x.withCas, .bool x.withTouch, .bool x.down, .bool x.quiet] 29)).heap.size A n x.keys :=
    (h.below ((Below.refl w.heap.size w).alloc (Nat.le_refl _) _) (Nat.le_refl _)).more (by simp)
  have hv := of_any x A n c _ hx
  have hg : goodF x = goodF x := rfl
  conv at hg => rhs; unfold goodF; rw [h1]
  have HG := Lib.hid hg
  have H1 := Lib.hid h1
  have HX := Lib.hid h
  have HT := Lib.hid ht
  rw [h1] at hv
  simp only [cV] at hv
  have HV := Lib.hid hv
  clear h1 hv hx hg h ht
  have t1 : decide ((1024 : Int) < (x.data.size : Int)) = false := by simp; omega
  have HS := Lib.hid hsz
  have HVB := Lib.hid hvb
  clear hvb hsz
  go_enter Tryd.func17, Tryd.ntmps17
  go_wp2_with fail
  refine HV.out.mono ?_
  rintro e w1 ⟨A1, c1, rfl, hr1, hb1⟩
  obtain ⟨hc1, hf1, hz1⟩ := bcell hb1
  have hs1 : w.heap.size + 1 ≤ w1.heap.size := by simpa using hz1
  have hw := bel_of hb1
  clear hr1 hf1 hz1
  go_wp2_with fail
  go_region_held3 (fun w' => w'.cell? ⟨w1.heap.size + 1 + 1, 0, none⟩ = some (.string x.verb) ∧ w'.cell? ⟨w1.heap.size + 1 + 1, 2, none⟩ = some (.string x.data)) (first | (go_keep; done) | (simp [go_sem]; done) | (simp [*, go_sem]; done)) (first | (go_at_call 31; refine (verbs_any _).mono ?_; rintro e w2 ⟨v, rfl, ⟨g, rfl, hg1, hg2, hg3⟩, hb2⟩; obtain ⟨hc2, hf2, hz2⟩ := bcell hb2) | (go_at_call 30; refine (contains_verbs _ _ true HVB.out _ (by assumption)).mono ?_; rintro e w3 ⟨rfl, rfl⟩))
  have hs2 : w1.heap.size + 3 ≤ w2.heap.size := by simpa using hz2
  have hw2 : Below w.heap.size w w2 := bel_trans (bel_drew (bel_alloc (bel_alloc (bel_alloc hw _) _) _)) hb2
  have hq := own_cell (hb1.trans ((bel_trans (bel_drew (bel_alloc (bel_alloc (bel_alloc (bel_refl _) _) _) _)) hb2).mono hb1.size))
  clear hz2 hf2 hc2 hc1 hb2 hg1 hg2 hg3
  go_wp2_with fail
  refine (keys_any x A n c _ ((HX.out.below hw2 (Nat.le_refl _)).more hw2.size)).mono ?_
  rintro e w4 ⟨A4, n4, c4, rfl, hr4, hb4⟩
  have hw4 := bel_trans hw2 hb4
  rw [H1.out] at hr4
  simp only [M.C.keys] at hr4
  obtain rfl : n4 = 1 := hr4.1.symm
  have HC := Lib.hid (containsf_any A4 1 c4 _ _ hr4 (HT.out.bel hw4))
  clear hr4 hb4
  go_wp2_with (go_at_call 35; refine HC.out.mono ?_; rintro e w5 ⟨rfl, hb5⟩)
  go_ret
  refine ⟨?_, bel_trans hw4 hb5⟩
  rw [HG.out]; simp [M.C.keys, HVB.out, HS.out]
set_option maxRecDepth 100000 in
set_option maxHeartbeats 2000000 in
theorem good_arith (x : M.Cmd) (A : Option Addr) (n c : Nat) (w : World) (h : RdS w w.heap.size A n x.keys) (ht : Tabs w) (h1 : x.of = .arith (M.first x.keys) x.by_ x.down x.quiet) :
    Calls Tryd.prog 17 #[.agg #[.string x.what, .string x.verb, .slice A n c, .string x.data, .int .u32 x.flags, .int .i64 x.exp, .int .u64 x.cas, .int .u64 x.by_, .bool x.withCas, .bool x.withTouch, .bool x.down, .bool x.quiet]] w
      fun r w' => r = .returned (.bool (goodF x)) ∧ Below w.heap.size w w' := by
  have hx : RdS (w.alloc (.cells #[.string x.what, .string x.verb, .slice A n c, .string x.data, .int .u32 x.flags, .int .i64 x.exp, .int .u64 x.cas, .int .u64 x.by_, .bool x.withCas, .bool x.withTouch, .bool x.down, .bool x.quiet] 29)) (w.alloc (.cells #[.string x.what, .string x.verb, .slice A n c, .string x.data, .int .u32 x.flags, .int .i64 x.exp, .int .u64 x.cas, .int .u64 x.by_, .bool x.withCas, .bool x.withTouch, .bool x.down, .bool x.quiet] 29)).heap.size A n x.keys :=
    (h.below ((Below.refl w.heap.size w).alloc (Nat.le_refl _) _) (Nat.le_refl _)).more (by simp)
  have hv := of_any x A n c _ hx
  have hg : goodF x = goodF x := rfl
  conv at hg => rhs; unfold goodF; rw [h1]
  have HG := Lib.hid hg
  have H1 := Lib.hid h1
  have HX := Lib.hid h
  have HT := Lib.hid ht
  rw [h1] at hv
  simp only [cV] at hv
  have HV := Lib.hid hv
  clear h1 hv hx hg h ht
  go_enter Tryd.func17, Tryd.ntmps17
  go_wp2_with fail
  refine HV.out.mono ?_
  rintro e w1 ⟨A1, c1, rfl, hr1, hb1⟩
  obtain ⟨hc1, hf1, hz1⟩ := bcell hb1
  have hs1 : w.heap.size + 1 ≤ w1.heap.size := by simpa using hz1
  have hw := bel_of hb1
  clear hr1 hf1 hz1
  go_wp2_with fail
  go_quiet (fail)
  rename_i nq
  have hq := own_cell (hb1.trans ((bel_drewN (bel_alloc (bel_alloc (bel_alloc (bel_refl _) (.cells #[.string ⟨#[]⟩] 77)) (.cells #[.bool false] 80)) (.cells #[.string ⟨#[]⟩, .string ⟨#[]⟩, .string ⟨#[]⟩, .int .u32 0, .int .i64 0, .int .u64 0, .bool false] 83)) nq).mono hb1.size))
  have hwq : ∀ nq, Below w.heap.size w ((((w1.alloc (.cells #[.string ⟨#[]⟩] 77)).alloc (.cells #[.bool false] 80)).alloc (.cells #[.string ⟨#[]⟩, .string ⟨#[]⟩, .string ⟨#[]⟩, .int .u32 0, .int .i64 0, .int .u64 0, .bool false] 83)).drewN nq) := fun nq => bel_drewN (bel_alloc (bel_alloc (bel_alloc hw _) _) _) nq
  go_wp2_with fail
  refine (keys_any x A n c _ ((HX.out.below (hwq _) (Nat.le_refl _)).more (hwq _).size)).mono ?_
  rintro e w4 ⟨A4, n4, c4, rfl, hr4, hb4⟩
  have hw4 := bel_trans (hwq _) hb4
  rw [H1.out] at hr4
  simp only [M.C.keys] at hr4
  obtain rfl : n4 = 1 := hr4.1.symm
  have HC := Lib.hid (containsf_any A4 1 c4 _ _ hr4 (HT.out.bel hw4))
  clear hr4 hb4
  go_wp2_with (go_at_call 35; refine HC.out.mono ?_; rintro e w5 ⟨rfl, hb5⟩)
  go_ret
  refine ⟨?_, bel_trans hw4 hb5⟩
  rw [HG.out]; simp [M.C.keys]
set_option maxRecDepth 100000 in
set_option maxHeartbeats 2000000 in
theorem good_touch (x : M.Cmd) (A : Option Addr) (n c : Nat) (w : World) (h : RdS w w.heap.size A n x.keys) (ht : Tabs w) (h1 : x.of = .touch (M.first x.keys) x.exp x.quiet) :
    Calls Tryd.prog 17 #[.agg #[.string x.what, .string x.verb, .slice A n c, .string x.data, .int .u32 x.flags, .int .i64 x.exp, .int .u64 x.cas, .int .u64 x.by_, .bool x.withCas, .bool x.withTouch, .bool x.down, .bool x.quiet]] w
      fun r w' => r = .returned (.bool (goodF x)) ∧ Below w.heap.size w w' := by
  have hx : RdS (w.alloc (.cells #[.string x.what, .string x.verb, .slice A n c, .string x.data, .int .u32 x.flags, .int .i64 x.exp, .int .u64 x.cas, .int .u64 x.by_, .bool x.withCas, .bool x.withTouch, .bool x.down, .bool x.quiet] 29)) (w.alloc (.cells #[.string x.what, .string x.verb, .slice A n c, .string x.data, .int .u32 x.flags, .int .i64 x.exp, .int .u64 x.cas, .int .u64 x.by_, .bool x.withCas, .bool x.withTouch, .bool x.down, .bool x.quiet] 29)).heap.size A n x.keys :=
    (h.below ((Below.refl w.heap.size w).alloc (Nat.le_refl _) _) (Nat.le_refl _)).more (by simp)
  have hv := of_any x A n c _ hx
  have hg : goodF x = goodF x := rfl
  conv at hg => rhs; unfold goodF; rw [h1]
  have HG := Lib.hid hg
  have H1 := Lib.hid h1
  have HX := Lib.hid h
  have HT := Lib.hid ht
  rw [h1] at hv
  simp only [cV] at hv
  have HV := Lib.hid hv
  clear h1 hv hx hg h ht
  go_enter Tryd.func17, Tryd.ntmps17
  go_wp2_with fail
  refine HV.out.mono ?_
  rintro e w1 ⟨A1, c1, rfl, hr1, hb1⟩
  obtain ⟨hc1, hf1, hz1⟩ := bcell hb1
  have hs1 : w.heap.size + 1 ≤ w1.heap.size := by simpa using hz1
  have hw := bel_of hb1
  clear hr1 hf1 hz1
  go_wp2_with fail
  go_quiet (fail)
  rename_i nq
  have hq := own_cell (hb1.trans ((bel_drewN (bel_alloc (bel_alloc (bel_alloc (bel_refl _) (.cells #[.string ⟨#[]⟩] 77)) (.cells #[.bool false] 80)) (.cells #[.string ⟨#[]⟩, .string ⟨#[]⟩, .string ⟨#[]⟩, .int .u32 0, .int .i64 0, .int .u64 0, .bool false] 83)) nq).mono hb1.size))
  have hwq : ∀ nq, Below w.heap.size w ((((w1.alloc (.cells #[.string ⟨#[]⟩] 77)).alloc (.cells #[.bool false] 80)).alloc (.cells #[.string ⟨#[]⟩, .string ⟨#[]⟩, .string ⟨#[]⟩, .int .u32 0, .int .i64 0, .int .u64 0, .bool false] 83)).drewN nq) := fun nq => bel_drewN (bel_alloc (bel_alloc (bel_alloc hw _) _) _) nq
  go_wp2_with fail
  refine (keys_any x A n c _ ((HX.out.below (hwq _) (Nat.le_refl _)).more (hwq _).size)).mono ?_
  rintro e w4 ⟨A4, n4, c4, rfl, hr4, hb4⟩
  have hw4 := bel_trans (hwq _) hb4
  rw [H1.out] at hr4
  simp only [M.C.keys] at hr4
  obtain rfl : n4 = 1 := hr4.1.symm
  have HC := Lib.hid (containsf_any A4 1 c4 _ _ hr4 (HT.out.bel hw4))
  clear hr4 hb4
  go_wp2_with (go_at_call 35; refine HC.out.mono ?_; rintro e w5 ⟨rfl, hb5⟩)
  go_ret
  refine ⟨?_, bel_trans hw4 hb5⟩
  rw [HG.out]; simp [M.C.keys]
set_option maxRecDepth 100000 in
set_option maxHeartbeats 2000000 in
theorem good_delete (x : M.Cmd) (A : Option Addr) (n c : Nat) (w : World) (h : RdS w w.heap.size A n x.keys) (ht : Tabs w) (h1 : x.of = .delete (M.first x.keys) x.quiet) :
    Calls Tryd.prog 17 #[.agg #[.string x.what, .string x.verb, .slice A n c, .string x.data, .int .u32 x.flags, .int .i64 x.exp, .int .u64 x.cas, .int .u64 x.by_, .bool x.withCas, .bool x.withTouch, .bool x.down, .bool x.quiet]] w
      fun r w' => r = .returned (.bool (goodF x)) ∧ Below w.heap.size w w' := by
  have hx : RdS (w.alloc (.cells #[.string x.what, .string x.verb, .slice A n c, .string x.data, .int .u32 x.flags, .int .i64 x.exp, .int .u64 x.cas, .int .u64 x.by_, .bool x.withCas, .bool x.withTouch, .bool x.down, .bool x.quiet] 29)) (w.alloc (.cells #[.string x.what, .string x.verb, .slice A n c, .string x.data, .int .u32 x.flags, .int .i64 x.exp, .int .u64 x.cas, .int .u64 x.by_, .bool x.withCas, .bool x.withTouch, .bool x.down, .bool x.quiet] 29)).heap.size A n x.keys :=
    (h.below ((Below.refl w.heap.size w).alloc (Nat.le_refl _) _) (Nat.le_refl _)).more (by simp)
  have hv := of_any x A n c _ hx
  have hg : goodF x = goodF x := rfl
  conv at hg => rhs; unfold goodF; rw [h1]
  have HG := Lib.hid hg
  have H1 := Lib.hid h1
  have HX := Lib.hid h
  have HT := Lib.hid ht
  rw [h1] at hv
  simp only [cV] at hv
  have HV := Lib.hid hv
  clear h1 hv hx hg h ht
  go_enter Tryd.func17, Tryd.ntmps17
  go_wp2_with fail
  refine HV.out.mono ?_
  rintro e w1 ⟨A1, c1, rfl, hr1, hb1⟩
  obtain ⟨hc1, hf1, hz1⟩ := bcell hb1
  have hs1 : w.heap.size + 1 ≤ w1.heap.size := by simpa using hz1
  have hw := bel_of hb1
  clear hr1 hf1 hz1
  go_wp2_with fail
  go_quiet (fail)
  rename_i nq
  have hq := own_cell (hb1.trans ((bel_drewN (bel_alloc (bel_alloc (bel_alloc (bel_refl _) (.cells #[.string ⟨#[]⟩] 77)) (.cells #[.bool false] 80)) (.cells #[.string ⟨#[]⟩, .string ⟨#[]⟩, .string ⟨#[]⟩, .int .u32 0, .int .i64 0, .int .u64 0, .bool false] 83)) nq).mono hb1.size))
  have hwq : ∀ nq, Below w.heap.size w ((((w1.alloc (.cells #[.string ⟨#[]⟩] 77)).alloc (.cells #[.bool false] 80)).alloc (.cells #[.string ⟨#[]⟩, .string ⟨#[]⟩, .string ⟨#[]⟩, .int .u32 0, .int .i64 0, .int .u64 0, .bool false] 83)).drewN nq) := fun nq => bel_drewN (bel_alloc (bel_alloc (bel_alloc hw _) _) _) nq
  go_wp2_with fail
  refine (keys_any x A n c _ ((HX.out.below (hwq _) (Nat.le_refl _)).more (hwq _).size)).mono ?_
  rintro e w4 ⟨A4, n4, c4, rfl, hr4, hb4⟩
  have hw4 := bel_trans (hwq _) hb4
  rw [H1.out] at hr4
  simp only [M.C.keys] at hr4
  obtain rfl : n4 = 1 := hr4.1.symm
  have HC := Lib.hid (containsf_any A4 1 c4 _ _ hr4 (HT.out.bel hw4))
  clear hr4 hb4
  go_wp2_with (go_at_call 35; refine HC.out.mono ?_; rintro e w5 ⟨rfl, hb5⟩)
  go_ret
  refine ⟨?_, bel_trans hw4 hb5⟩
  rw [HG.out]; simp [M.C.keys]
set_option maxRecDepth 100000 in
set_option maxHeartbeats 2000000 in
theorem good_bad (x : M.Cmd) (A : Option Addr) (n c : Nat) (w : World) (h : RdS w w.heap.size A n x.keys) (ht : Tabs w) (h1 : x.of = .bad x.verb) :
    Calls Tryd.prog 17 #[.agg #[.string x.what, .string x.verb, .slice A n c, .string x.data, .int .u32 x.flags, .int .i64 x.exp, .int .u64 x.cas, .int .u64 x.by_, .bool x.withCas, .bool x.withTouch, .bool x.down, .bool x.quiet]] w
      fun r w' => r = .returned (.bool (goodF x)) ∧ Below w.heap.size w w' := by
  have hx : RdS (w.alloc (.cells #[.string x.what, .string x.verb, .slice A n c, .string x.data, .int .u32 x.flags, .int .i64 x.exp, .int .u64 x.cas, .int .u64 x.by_, .bool x.withCas, .bool x.withTouch, .bool x.down, .bool x.quiet] 29)) (w.alloc (.cells #[.string x.what, .string x.verb, .slice A n c, .string x.data, .int .u32 x.flags, .int .i64 x.exp, .int .u64 x.cas, .int .u64 x.by_, .bool x.withCas, .bool x.withTouch, .bool x.down, .bool x.quiet] 29)).heap.size A n x.keys :=
    (h.below ((Below.refl w.heap.size w).alloc (Nat.le_refl _) _) (Nat.le_refl _)).more (by simp)
  have hv := of_any x A n c _ hx
  have hg : goodF x = goodF x := rfl
  conv at hg => rhs; unfold goodF; rw [h1]
  have HG := Lib.hid hg
  have H1 := Lib.hid h1
  have HX := Lib.hid h
  have HT := Lib.hid ht
  rw [h1] at hv
  simp only [cV] at hv
  have HV := Lib.hid hv
  clear h1 hv hx hg h ht
  go_enter Tryd.func17, Tryd.ntmps17
  go_wp2_with fail
  refine HV.out.mono ?_
  rintro e w1 ⟨A1, c1, rfl, hr1, hb1⟩
  obtain ⟨hc1, hf1, hz1⟩ := bcell hb1
  have hs1 : w.heap.size + 1 ≤ w1.heap.size := by simpa using hz1
  have hw := bel_of hb1
  clear hr1 hf1 hz1
  go_wp2_with fail
  go_quiet (fail)
  rename_i nq
  have hq := own_cell (hb1.trans ((bel_drewN (bel_alloc (bel_alloc (bel_alloc (bel_refl _) (.cells #[.string ⟨#[]⟩] 77)) (.cells #[.bool false] 80)) (.cells #[.string ⟨#[]⟩, .string ⟨#[]⟩, .string ⟨#[]⟩, .int .u32 0, .int .i64 0, .int .u64 0, .bool false] 83)) nq).mono hb1.size))
  have hwq : ∀ nq, Below w.heap.size w ((((w1.alloc (.cells #[.string ⟨#[]⟩] 77)).alloc (.cells #[.bool false] 80)).alloc (.cells #[.string ⟨#[]⟩, .string ⟨#[]⟩, .string ⟨#[]⟩, .int .u32 0, .int .i64 0, .int .u64 0, .bool false] 83)).drewN nq) := fun nq => bel_drewN (bel_alloc (bel_alloc (bel_alloc hw _) _) _) nq
  go_wp2_with fail
  refine (keys_any x A n c _ ((HX.out.below (hwq _) (Nat.le_refl _)).more (hwq _).size)).mono ?_
  rintro e w4 ⟨A4, n4, c4, rfl, hr4, hb4⟩
  have hw4 := bel_trans (hwq _) hb4
  rw [H1.out] at hr4
  simp only [M.C.keys] at hr4
  obtain rfl : n4 = 0 := hr4.1.symm
  clear hr4 hb4
  go_wp2_with fail
  go_ret
  refine ⟨?_, hw4⟩
  rw [HG.out]; simp [M.C.keys]
set_option maxRecDepth 100000 in
set_option maxHeartbeats 2000000 in
theorem good_none (x : M.Cmd) (A : Option Addr) (n c : Nat) (w : World) (h : RdS w w.heap.size A n x.keys) (ht : Tabs w) (h1 : x.of = .none) :
    Calls Tryd.prog 17 #[.agg #[.string x.what, .string x.verb, .slice A n c, .string x.data, .int .u32 x.flags, .int .i64 x.exp, .int .u64 x.cas, .int .u64 x.by_, .bool x.withCas, .bool x.withTouch, .bool x.down, .bool x.quiet]] w
      fun r w' => r = .returned (.bool (goodF x)) ∧ Below w.heap.size w w' := by
  have hx : RdS (w.alloc (.cells #[.string x.what, .string x.verb, .slice A n c, .string x.data, .int .u32 x.flags, .int .i64 x.exp, .int .u64 x.cas, .int .u64 x.by_, .bool x.withCas, .bool x.withTouch, .bool x.down, .bool x.quiet] 29)) (w.alloc (.cells #[.string x.what, .string x.verb, .slice A n c, .string x.data, .int .u32 x.flags, .int .i64 x.exp, .int .u64 x.cas, .int .u64 x.by_, .bool x.withCas, .bool x.withTouch, .bool x.down, .bool x.quiet] 29)).heap.size A n x.keys :=
    (h.below ((Below.refl w.heap.size w).alloc (Nat.le_refl _) _) (Nat.le_refl _)).more (by simp)
  have hv := of_any x A n c _ hx
  have hg : goodF x = goodF x := rfl
  conv at hg => rhs; unfold goodF; rw [h1]
  have HG := Lib.hid hg
  have H1 := Lib.hid h1
  have HX := Lib.hid h
  have HT := Lib.hid ht
  rw [h1] at hv
  simp only [cV] at hv
  have HV := Lib.hid hv
  clear h1 hv hx hg h ht
  go_enter Tryd.func17, Tryd.ntmps17
  go_wp2_with fail
  refine HV.out.mono ?_
  rintro e w1 ⟨A1, c1, rfl, hr1, hb1⟩
  obtain ⟨hc1, hf1, hz1⟩ := bcell hb1
  have hs1 : w.heap.size + 1 ≤ w1.heap.size := by simpa using hz1
  have hw := bel_of hb1
  clear hr1 hf1 hz1
  go_wp2_with fail
  go_quiet (fail)
  rename_i nq
  have hq := own_cell (hb1.trans ((bel_drewN (bel_alloc (bel_alloc (bel_alloc (bel_refl _) (.cells #[.string ⟨#[]⟩] 77)) (.cells #[.bool false] 80)) (.cells #[.string ⟨#[]⟩, .string ⟨#[]⟩, .string ⟨#[]⟩, .int .u32 0, .int .i64 0, .int .u64 0, .bool false] 83)) nq).mono hb1.size))
  have hwq : ∀ nq, Below w.heap.size w ((((w1.alloc (.cells #[.string ⟨#[]⟩] 77)).alloc (.cells #[.bool false] 80)).alloc (.cells #[.string ⟨#[]⟩, .string ⟨#[]⟩, .string ⟨#[]⟩, .int .u32 0, .int .i64 0, .int .u64 0, .bool false] 83)).drewN nq) := fun nq => bel_drewN (bel_alloc (bel_alloc (bel_alloc hw _) _) _) nq
  go_wp2_with fail
  refine (keys_any x A n c _ ((HX.out.below (hwq _) (Nat.le_refl _)).more (hwq _).size)).mono ?_
  rintro e w4 ⟨A4, n4, c4, rfl, hr4, hb4⟩
  have hw4 := bel_trans (hwq _) hb4
  rw [H1.out] at hr4
  simp only [M.C.keys] at hr4
  obtain rfl : n4 = 0 := hr4.1.symm
  clear hr4 hb4
  go_wp2_with fail
  go_ret
  refine ⟨?_, hw4⟩
  rw [HG.out]; simp [M.C.keys]
set_option maxRecDepth 100000 in
set_option maxHeartbeats 2000000 in
theorem good_get_zero (x : M.Cmd) (A : Option Addr) (n c : Nat) (w : World) (h : RdS w w.heap.size A n x.keys) (ht : Tabs w) (h1 : x.of = .get x.keys x.withCas x.withTouch x.exp) (hk : x.keys.length = 0) :
    Calls Tryd.prog 17 #[.agg #[.string x.what, .string x.verb, .slice A n c, .string x.data, .int .u32 x.flags, .int .i64 x.exp, .int .u64 x.cas, .int .u64 x.by_, .bool x.withCas, .bool x.withTouch, .bool x.down, .bool x.quiet]] w
      fun r w' => r = .returned (.bool (goodF x)) ∧ Below w.heap.size w w' := by
  have hx : RdS (w.alloc (.cells #[.string x.what, .string x.verb, .slice A n c, .string x.data, .int .u32 x.flags, .int .i64 x.exp, .int .u64 x.cas, .int .u64 x.by_, .bool x.withCas, .bool x.withTouch, .bool x.down, .bool x.quiet] 29)) (w.alloc (.cells #[.string x.what, .string x.verb, .slice A n c, .string x.data, .int .u32 x.flags, .int .i64 x.exp, .int .u64 x.cas, .int .u64 x.by_, .bool x.withCas, .bool x.withTouch, .bool x.down, .bool x.quiet] 29)).heap.size A n x.keys :=
    (h.below ((Below.refl w.heap.size w).alloc (Nat.le_refl _) _) (Nat.le_refl _)).more (by simp)
  have hv := of_any x A n c _ hx
  have hg : goodF x = goodF x := rfl
  conv at hg => rhs; unfold goodF; rw [h1]
  have HG := Lib.hid hg
  have H1 := Lib.hid h1
  have HX := Lib.hid h
  have HT := Lib.hid ht
  rw [h1] at hv
  simp only [cV] at hv
  have HV := Lib.hid hv
  clear h1 hv hx hg h ht
  have HK := Lib.hid hk
  clear hk
  go_enter Tryd.func17, Tryd.ntmps17
  go_wp2_with fail
  refine HV.out.mono ?_
  rintro e w1 ⟨A1, c1, rfl, hr1, hb1⟩
  obtain ⟨hc1, hf1, hz1⟩ := bcell hb1
  have hs1 : w.heap.size + 1 ≤ w1.heap.size := by simpa using hz1
  have hw := bel_of hb1
  clear hr1 hf1 hz1
  go_wp2_with fail
  go_quiet (fail)
  rename_i nq
  have hq := own_cell (hb1.trans ((bel_drewN (bel_alloc (bel_alloc (bel_alloc (bel_refl _) (.cells #[.string ⟨#[]⟩] 77)) (.cells #[.bool false] 80)) (.cells #[.string ⟨#[]⟩, .string ⟨#[]⟩, .string ⟨#[]⟩, .int .u32 0, .int .i64 0, .int .u64 0, .bool false] 83)) nq).mono hb1.size))
  have hwq : ∀ nq, Below w.heap.size w ((((w1.alloc (.cells #[.string ⟨#[]⟩] 77)).alloc (.cells #[.bool false] 80)).alloc (.cells #[.string ⟨#[]⟩, .string ⟨#[]⟩, .string ⟨#[]⟩, .int .u32 0, .int .i64 0, .int .u64 0, .bool false] 83)).drewN nq) := fun nq => bel_drewN (bel_alloc (bel_alloc (bel_alloc hw _) _) _) nq
  go_wp2_with fail
  refine (keys_any x A n c _ ((HX.out.below (hwq _) (Nat.le_refl _)).more (hwq _).size)).mono ?_
  rintro e w4 ⟨A4, n4, c4, rfl, hr4, hb4⟩
  have hw4 := bel_trans (hwq _) hb4
  rw [H1.out] at hr4
  simp only [M.C.keys] at hr4
  obtain rfl : n4 = 0 := hr4.1.symm.trans HK.out
  skip
  clear hr4 hb4
  go_wp2_with fail
  go_ret
  refine ⟨?_, hw4⟩
  rw [HG.out]; simp [M.C.keys, HK.out]
set_option maxRecDepth 100000 in
set_option maxHeartbeats 2000000 in
theorem good_get_big (x : M.Cmd) (A : Option Addr) (n c : Nat) (w : World) (h : RdS w w.heap.size A n x.keys) (ht : Tabs w) (h1 : x.of = .get x.keys x.withCas x.withTouch x.exp) (hk : ¬ x.keys.length ≤ 64) :
    Calls Tryd.prog 17 #[.agg #[.string x.what, .string x.verb, .slice A n c, .string x.data, .int .u32 x.flags, .int .i64 x.exp, .int .u64 x.cas, .int .u64 x.by_, .bool x.withCas, .bool x.withTouch, .bool x.down, .bool x.quiet]] w
      fun r w' => r = .returned (.bool (goodF x)) ∧ Below w.heap.size w w' := by
  have hx : RdS (w.alloc (.cells #[.string x.what, .string x.verb, .slice A n c, .string x.data, .int .u32 x.flags, .int .i64 x.exp, .int .u64 x.cas, .int .u64 x.by_, .bool x.withCas, .bool x.withTouch, .bool x.down, .bool x.quiet] 29)) (w.alloc (.cells #[.string x.what, .string x.verb, .slice A n c, .string x.data, .int .u32 x.flags, .int .i64 x.exp, .int .u64 x.cas, .int .u64 x.by_, .bool x.withCas, .bool x.withTouch, .bool x.down, .bool x.quiet] 29)).heap.size A n x.keys :=
    (h.below ((Below.refl w.heap.size w).alloc (Nat.le_refl _) _) (Nat.le_refl _)).more (by simp)
  have hv := of_any x A n c _ hx
  have hg : goodF x = goodF x := rfl
  conv at hg => rhs; unfold goodF; rw [h1]
  have HG := Lib.hid hg
  have H1 := Lib.hid h1
  have HX := Lib.hid h
  have HT := Lib.hid ht
  rw [h1] at hv
  simp only [cV] at hv
  have HV := Lib.hid hv
  clear h1 hv hx hg h ht
  have HK := Lib.hid hk
  clear hk
  go_enter Tryd.func17, Tryd.ntmps17
  go_wp2_with fail
  refine HV.out.mono ?_
  rintro e w1 ⟨A1, c1, rfl, hr1, hb1⟩
  obtain ⟨hc1, hf1, hz1⟩ := bcell hb1
  have hs1 : w.heap.size + 1 ≤ w1.heap.size := by simpa using hz1
  have hw := bel_of hb1
  clear hr1 hf1 hz1
  go_wp2_with fail
  go_quiet (fail)
  rename_i nq
  have hq := own_cell (hb1.trans ((bel_drewN (bel_alloc (bel_alloc (bel_alloc (bel_refl _) (.cells #[.string ⟨#[]⟩] 77)) (.cells #[.bool false] 80)) (.cells #[.string ⟨#[]⟩, .string ⟨#[]⟩, .string ⟨#[]⟩, .int .u32 0, .int .i64 0, .int .u64 0, .bool false] 83)) nq).mono hb1.size))
  have hwq : ∀ nq, Below w.heap.size w ((((w1.alloc (.cells #[.string ⟨#[]⟩] 77)).alloc (.cells #[.bool false] 80)).alloc (.cells #[.string ⟨#[]⟩, .string ⟨#[]⟩, .string ⟨#[]⟩, .int .u32 0, .int .i64 0, .int .u64 0, .bool false] 83)).drewN nq) := fun nq => bel_drewN (bel_alloc (bel_alloc (bel_alloc hw _) _) _) nq
  go_wp2_with fail
  refine (keys_any x A n c _ ((HX.out.below (hwq _) (Nat.le_refl _)).more (hwq _).size)).mono ?_
  rintro e w4 ⟨A4, n4, c4, rfl, hr4, hb4⟩
  have hw4 := bel_trans (hwq _) hb4
  rw [H1.out] at hr4
  simp only [M.C.keys] at hr4
  obtain rfl : x.keys.length = n4 := hr4.1
  have hk := HK.out
  have u1 : decide ((1 : Int) ≤ (x.keys.length : Int)) = true := by simp; omega
  have u2 : decide ((x.keys.length : Int) ≤ 64) = false := by simp; omega
  clear hk
  clear hr4 hb4
  go_wp2_with fail
  go_ret
  refine ⟨?_, hw4⟩
  rw [HG.out]; have hk := HK.out
  simp [M.C.keys, hk]
set_option maxRecDepth 100000 in
set_option maxHeartbeats 2000000 in
theorem good_get_ok (x : M.Cmd) (A : Option Addr) (n c : Nat) (w : World) (h : RdS w w.heap.size A n x.keys) (ht : Tabs w) (h1 : x.of = .get x.keys x.withCas x.withTouch x.exp) (hk : 1 ≤ x.keys.length ∧ x.keys.length ≤ 64) :
    Calls Tryd.prog 17 #[.agg #[.string x.what, .string x.verb, .slice A n c, .string x.data, .int .u32 x.flags, .int .i64 x.exp, .int .u64 x.cas, .int .u64 x.by_, .bool x.withCas, .bool x.withTouch, .bool x.down, .bool x.quiet]] w
      fun r w' => r = .returned (.bool (goodF x)) ∧ Below w.heap.size w w' := by
  have hx : RdS (w.alloc (.cells #[.string x.what, .string x.verb, .slice A n c, .string x.data, .int .u32 x.flags, .int .i64 x.exp, .int .u64 x.cas, .int .u64 x.by_, .bool x.withCas, .bool x.withTouch, .bool x.down, .bool x.quiet] 29)) (w.alloc (.cells #[.string x.what, .string x.verb, .slice A n c, .string x.data, .int .u32 x.flags, .int .i64 x.exp, .int .u64 x.cas, .int .u64 x.by_, .bool x.withCas, .bool x.withTouch, .bool x.down, .bool x.quiet] 29)).heap.size A n x.keys :=
    (h.below ((Below.refl w.heap.size w).alloc (Nat.le_refl _) _) (Nat.le_refl _)).more (by simp)
  have hv := of_any x A n c _ hx
  have hg : goodF x = goodF x := rfl
  conv at hg => rhs; unfold goodF; rw [h1]
  have HG := Lib.hid hg
  have H1 := Lib.hid h1
  have HX := Lib.hid h
  have HT := Lib.hid ht
  rw [h1] at hv
  simp only [cV] at hv
  have HV := Lib.hid hv
  clear h1 hv hx hg h ht
  have HK := Lib.hid hk
  clear hk
  go_enter Tryd.func17, Tryd.ntmps17
  go_wp2_with fail
  refine HV.out.mono ?_
  rintro e w1 ⟨A1, c1, rfl, hr1, hb1⟩
  obtain ⟨hc1, hf1, hz1⟩ := bcell hb1
  have hs1 : w.heap.size + 1 ≤ w1.heap.size := by simpa using hz1
  have hw := bel_of hb1
  clear hr1 hf1 hz1
  go_wp2_with fail
  go_quiet (fail)
  rename_i nq
  have hq := own_cell (hb1.trans ((bel_drewN (bel_alloc (bel_alloc (bel_alloc (bel_refl _) (.cells #[.string ⟨#[]⟩] 77)) (.cells #[.bool false] 80)) (.cells #[.string ⟨#[]⟩, .string ⟨#[]⟩, .string ⟨#[]⟩, .int .u32 0, .int .i64 0, .int .u64 0, .bool false] 83)) nq).mono hb1.size))
  have hwq : ∀ nq, Below w.heap.size w ((((w1.alloc (.cells #[.string ⟨#[]⟩] 77)).alloc (.cells #[.bool false] 80)).alloc (.cells #[.string ⟨#[]⟩, .string ⟨#[]⟩, .string ⟨#[]⟩, .int .u32 0, .int .i64 0, .int .u64 0, .bool false] 83)).drewN nq) := fun nq => bel_drewN (bel_alloc (bel_alloc (bel_alloc hw _) _) _) nq
  go_wp2_with fail
  refine (keys_any x A n c _ ((HX.out.below (hwq _) (Nat.le_refl _)).more (hwq _).size)).mono ?_
  rintro e w4 ⟨A4, n4, c4, rfl, hr4, hb4⟩
  have hw4 := bel_trans (hwq _) hb4
  rw [H1.out] at hr4
  simp only [M.C.keys] at hr4
  obtain rfl : x.keys.length = n4 := hr4.1
  have hk := HK.out
  have u1 : decide ((1 : Int) ≤ (x.keys.length : Int)) = true := by simp; omega
  have u2 : decide ((x.keys.length : Int) ≤ 64) = true := by simp; omega
  clear hk
  have HC := Lib.hid (containsf_any A4 x.keys.length c4 _ _ hr4 (HT.out.bel hw4))
  clear hr4 hb4
  go_wp2_with (go_at_call 35; refine HC.out.mono ?_; rintro e w5 ⟨rfl, hb5⟩)
  go_ret
  refine ⟨?_, bel_trans hw4 hb5⟩
  have hk := HK.out
  rw [HG.out]; simp [M.C.keys, hk]; exact any_not _
/-- event.Good. -/
theorem good_any (x : M.Cmd) (A : Option Addr) (n c : Nat) (w : World) (h : RdS w w.heap.size A n x.keys) (ht : Tabs w) :
    Calls Tryd.prog 17 #[.agg #[.string x.what, .string x.verb, .slice A n c, .string x.data, .int .u32 x.flags, .int .i64 x.exp, .int .u64 x.cas, .int .u64 x.by_, .bool x.withCas, .bool x.withTouch, .bool x.down, .bool x.quiet]] w
      fun r w' => r = .returned (.bool (goodF x)) ∧ Below w.heap.size w w' := by
  rcases what_of x with ⟨_, h1⟩ | ⟨_, h1⟩ | ⟨_, h1⟩ | ⟨_, h1⟩ | ⟨_, h1⟩ | ⟨_, h1⟩ | ⟨_, h1⟩ | ⟨_, h1⟩ | ⟨_, h1⟩
  · by_cases k0 : x.keys.length = 0
    · exact good_get_zero x A n c w h ht h1 k0
    · by_cases k1 : x.keys.length ≤ 64
      · exact good_get_ok x A n c w h ht h1 ⟨by omega, k1⟩
      · exact good_get_big x A n c w h ht h1 k1
  · cases hv : verbIn x.verb with
    | false => exact good_store_verb x A n c w h ht h1 hv
    | true =>
      by_cases hs : x.data.size ≤ 1024
      · exact good_store_ok x A n c w h ht h1 hv hs
      · exact good_store_size x A n c w h ht h1 hv hs
  · exact good_arith x A n c w h ht h1
  · exact good_touch x A n c w h ht h1
  · exact good_delete x A n c w h ht h1
  · exact good_flush x A n c w h ht h1
  · exact good_bad x A n c w h ht h1
  · exact good_word x A n c w h ht h1
  · exact good_none x A n c w h ht h1
end Go.Proofs.YtbhnmaghnnpboaaDoor

/- model.Map: arith. -/
import Derived.Deep.CutRange
import Derived.Test.YtbhnmaghnnpboaaDoorZf
import Derived.Test.YtbhnmaghnnpboaaDoorZa
import Derived.Test.YtbhnmaghnnpboaaDoorZx
namespace Go.Proofs.YtbhnmaghnnpboaaDoor
open Go.RowKit
attribute [local go_sem ↓] Go.wp_at_zero Go.wp_at_succ

/-- The number behind an Arith. -/
def arithN (n by_ : Int) (down : Bool) : Nat := if down then (n - min n by_).toNat else ((n + by_) % 18446744073709551616).toNat
theorem cell_put {w : World} {b i o : Nat} {u v z : Value} (h : w.cell? ⟨b, i, none⟩ = some u) (hz : w.cell? ⟨b, o, none⟩ = some z) : (w.setCell ⟨b, i, none⟩ v).cell? ⟨b, o, none⟩ = some (if o = i then v else z) := by
  by_cases ho : o = i
  · subst ho; rw [if_pos rfl]; exact World.cell?_setCell_same w _ v h
  · rw [if_neg ho, World.cell?_setCell_other w _ _ v (fun e => ho (by injection e with _ e _; exact e.symm))]; exact hz
theorem own_frozen {w w2 : World} {cs : Array Value} {t : TypeId} (hb : Below (w.alloc (.cells cs t)).heap.size (w.alloc (.cells cs t)) w2) : ∀ o, w2.frozen? ⟨w.heap.size, o, none⟩ = false := fun o => (hb.frozen (p := ⟨w.heap.size, o, none⟩) (by simp)).trans (World.frozen?_alloc_new w cs t o)
theorem arith_up (n by_ : Int) (_ : 0 ≤ n) (_ : n < 18446744073709551616) (_ : 0 ≤ by_) (_ : by_ < 18446744073709551616) : IntKind.u64.wrap (n + by_) = (arithN n by_ false : Int) := by
  rw [IntKind.wrap_u64]
  simp only [arithN, Bool.false_eq_true, if_false]
  omega
theorem arith_dn (n by_ : Int) (_ : 0 ≤ n) (_ : n < 18446744073709551616) (_ : 0 ≤ by_) (_ : by_ < 18446744073709551616) : IntKind.u64.wrap (n - min n by_) = (arithN n by_ true : Int) := by
  rw [IntKind.wrap_u64]
  simp only [arithN, if_true]
  omega
theorem arith_lt (n by_ : Int) (d : Bool) (_ : 0 ≤ n) (_ : n < 18446744073709551616) (_ : 0 ≤ by_) (_ : by_ < 18446744073709551616) : arithN n by_ d < 18446744073709551616 := by
  cases d <;> simp only [arithN, if_true, Bool.false_eq_true, if_false] <;> omega
def digits (n : Nat) : ByteArray := ⟨(Lib.decDigits n).toArray⟩
def arithF (l : M.Mp) (key : ByteArray) (by_ : Int) (down : Bool) (now ver : Int) : ByteArray × M.Mp :=
  match M.mget l key now with
  | none => (M.tNF, l)
  | some y => if (numF y.val).2 then (digits (arithN (numF y.val).1 by_ down), M.mset l y.key { y with val := digits (arithN (numF y.val).1 by_ down), ver := ver }) else (M.tNN, l)

theorem pu_range (M : Nat) (hM : M < 18446744073709551616) : ∀ (l : List UInt8) (acc : Nat), acc ≤ M → ∀ u, Lib.parseUintM M acc l = .ok u → u ≤ M
  | [], acc, ha, u, h => by simp only [Lib.parseUintM, Lib.NumEnd.ok.injEq] at h; omega
  | c :: r, acc, ha, u, h => by
    unfold Lib.parseUintM at h
    split at h
    · split at h
      · cases h
      · split at h
        · cases h
        · exact pu_range M hM r _ (by omega) u h
    · cases h
theorem num_range (s : ByteArray) : 0 ≤ (numF s).1 ∧ (numF s).1 < 18446744073709551616 := by
  unfold numF
  split
  · exact ⟨by decide, by decide⟩
  · split
    · split
      · rename_i u hu
        exact ⟨Int.natCast_nonneg _, by
          unfold Lib.parseUintB at hu
          split at hu
          · cases hu
          · have h1 := pu_range (2 ^ 64 - 1) (by decide) _ 0 (by decide) u hu
            simp only
            omega⟩
      · exact ⟨by decide, by decide⟩
    · exact ⟨by decide, by decide⟩

set_option maxRecDepth 100000 in
set_option maxHeartbeats 2000000 in
theorem arith_none (mb g : Nat) (l : M.Mp) (key : ByteArray) (by_ : Int) (down q : Bool) (now ver : Int) (w : World) (h : MapSt w mb g l) (hx : M.mget l key now = none) :
    Calls Tryd.prog 43 #[.pointer (some ⟨mb, 0, none⟩), .agg #[.string key, .int .u64 by_, .bool down, .bool q], .int .i64 now, .int .u64 ver] w (Lined w mb g ⟨#[78, 79, 84, 95, 70, 79, 85, 78, 68]⟩ l) := by
  have HC := Lib.hid (mget_none mb g l key now _ (h.below (bel_alloc (bel_refl w) (.cells #[.string key, .int .u64 by_, .bool down, .bool q] 108))) hx)
  have H := Lib.hid h
  clear h hx
  go_enter Tryd.func43, Tryd.ntmps43
  go_wp2_with (first | (go_at_call 24; refine HC.out.mono ?_; rintro e w1 ⟨rfl, hb1⟩; have hq := own_cell hb1; have hs1 := size_of hb1; have hw := bel_of hb1; clear hb1) | (go_at_call 40; refine (mline_any _ _).mono ?_; rintro e w3 ⟨v, rfl, hrow, hb3⟩; have HR := Lib.hid hrow; have hb4 : Below w.heap.size w w3 := bel_trans (by repeat (first | with_reducible exact hw | with_reducible exact hw2 | with_reducible apply bel_drew | with_reducible apply bel_alloc | (with_reducible refine Below.setCell ?_ ?_ _; rotate_left; · (first | (simp; done) | (simp; omega) | omega)))) hb3; have hs4 := hb4.size; clear hrow hb3))
  go_ret
  exact ⟨v, rfl, HR.out.mono (by simp; omega), H.out.below hb4, gr_of hb4⟩

set_option maxRecDepth 100000 in
set_option maxHeartbeats 2000000 in
theorem arith_non (mb g : Nat) (l : M.Mp) (key : ByteArray) (by_ : Int) (down q : Bool) (now ver : Int) (y : M.Item) (w : World) (h : MapSt w mb g l) (ht : Tabs w) (hx : M.mget l key now = some y) (hf : (numF y.val).2 = false) :
    Calls Tryd.prog 43 #[.pointer (some ⟨mb, 0, none⟩), .agg #[.string key, .int .u64 by_, .bool down, .bool q], .int .i64 now, .int .u64 ver] w (Lined w mb g ⟨#[67, 76, 73, 69, 78, 84, 95, 69, 82, 82, 79, 82, 32, 99, 97, 110, 110, 111, 116, 32, 105, 110, 99, 114, 101, 109, 101, 110, 116, 32, 111, 114, 32, 100, 101, 99, 114, 101, 109, 101, 110, 116, 32, 110, 111, 110, 45, 110, 117, 109, 101, 114, 105, 99, 32, 118, 97, 108, 117, 101]⟩ l) := by
  have HC := Lib.hid (mget_some mb g l key now y _ (h.below (bel_alloc (bel_refl w) (.cells #[.string key, .int .u64 by_, .bool down, .bool q] 108))) hx)
  have H := Lib.hid h
  have HT := Lib.hid ht
  clear h hx ht
  go_enter Tryd.func43, Tryd.ntmps43
  go_wp2_with (first | (go_at_call 24; refine HC.out.mono ?_; rintro e w1 ⟨rfl, hb1⟩; have hq := own_cell hb1; have hs1 := size_of hb1; have hw := bel_of hb1; clear hb1) | (go_at_call 61; refine (number_any y.val _ (HT.out.bel (by repeat (first | with_reducible exact hw | with_reducible exact hw2 | with_reducible apply bel_drew | with_reducible apply bel_alloc | (with_reducible refine Below.setCell ?_ ?_ _; rotate_left; · (first | (simp; done) | (simp; omega) | omega)))))).mono ?_; rw [hf]; rintro e w2 ⟨rfl, hb2⟩; have hw2 : Below w.heap.size w w2 := bel_trans (by repeat (first | with_reducible exact hw | with_reducible exact hw2 | with_reducible apply bel_drew | with_reducible apply bel_alloc | (with_reducible refine Below.setCell ?_ ?_ _; rotate_left; · (first | (simp; done) | (simp; omega) | omega)))) hb2; have hs2 := hb2.size; have hq2 := own_cell hb2; clear hb2) | (go_at_call 40; refine (mline_any _ _).mono ?_; rintro e w3 ⟨v, rfl, hrow, hb3⟩; have HR := Lib.hid hrow; have hb4 : Below w.heap.size w w3 := bel_trans (by repeat (first | with_reducible exact hw | with_reducible exact hw2 | with_reducible apply bel_drew | with_reducible apply bel_alloc | (with_reducible refine Below.setCell ?_ ?_ _; rotate_left; · (first | (simp; done) | (simp; omega) | omega)))) hb3; have hs4 := hb4.size; clear hrow hb3))
  go_ret
  exact ⟨v, rfl, HR.out.mono (by simp at hs2 ⊢; omega), H.out.below hb4, gr_of hb4⟩

set_option maxRecDepth 100000 in
set_option maxHeartbeats 3000000 in
theorem arith_false (mb g : Nat) (l : M.Mp) (key : ByteArray) (by_ : Int) (q : Bool) (now ver : Int) (y : M.Item) (w : World) (h : MapSt w mb g l) (ht : Tabs w) (hx : M.mget l key now = some y) (hf : (numF y.val).2 = true) (hy : 0 ≤ by_ ∧ by_ < 18446744073709551616) :
    Calls Tryd.prog 43 #[.pointer (some ⟨mb, 0, none⟩), .agg #[.string key, .int .u64 by_, .bool false, .bool q], .int .i64 now, .int .u64 ver] w (Lined w mb g (digits (arithN (numF y.val).1 by_ false)) (M.mset l y.key { y with val := digits (arithN (numF y.val).1 by_ false), ver := ver })) := by
  have HC := Lib.hid (mget_some mb g l key now y _ (h.below (bel_alloc (bel_refl w) (.cells #[.string key, .int .u64 by_, .bool false, .bool q] 108))) hx)
  have HX := Lib.hid (num_range y.val)
  have HF := Lib.hid hf
  generalize hu : arithN (numF y.val).1 by_ false = u
  have hu2 : IntKind.u64.wrap ((numF y.val).fst + by_) = (u : Int) := by rw [← hu]; exact arith_up _ _ (num_range y.val).1 (num_range y.val).2 hy.1 hy.2
  have hu3 : u < 18446744073709551616 := by rw [← hu]; exact arith_lt _ _ _ (num_range y.val).1 (num_range y.val).2 hy.1 hy.2
  have hd : ∀ w', Tabs w' → Calls Tryd.prog 62 #[.int .u64 u] w' fun e w'' => e = .returned (.string (digits u)) ∧ Below w'.heap.size w' w'' := fun w' ht' => text_any u hu3 w' ht'
  generalize digits u = s at hd ⊢
  have HD := Lib.hid hd
  clear hd
  have HU2 := Lib.hid hu2
  clear hu2 hu3
  have HY := Lib.hid hy
  have H := Lib.hid h
  have HT := Lib.hid ht
  clear h hx ht hf hy hu
  go_enter Tryd.func43, Tryd.ntmps43
  go_upto_region 11 with (first | (go_at_call 24; refine HC.out.mono ?_; rintro e w1 ⟨rfl, hb1⟩; have hq := own_cell hb1; have hs1 := size_of hb1; have hw := bel_of hb1; clear hb1) | (go_at_call 61; refine (number_any y.val _ (HT.out.bel (by repeat (first | with_reducible exact hw | with_reducible exact hw2 | with_reducible apply bel_drew | with_reducible apply bel_alloc | (with_reducible refine Below.setCell ?_ ?_ _; rotate_left; · (first | (simp; done) | (simp; omega) | omega)))))).mono ?_; rw [HF.out]; rintro e w2 ⟨rfl, hb2⟩; have hw2 : Below w.heap.size w w2 := bel_trans (by repeat (first | with_reducible exact hw | with_reducible exact hw2 | with_reducible apply bel_drew | with_reducible apply bel_alloc | (with_reducible refine Below.setCell ?_ ?_ _; rotate_left; · (first | (simp; done) | (simp; omega) | omega)))) hb2; have hs2 := hb2.size; have hq2 := own_cell hb2; have hf2 := own_frozen hb2; have hq3 : ∀ o, w2.cell? ⟨w.heap.size, o, none⟩ = #[Value.string key, Value.int .u64 by_, Value.bool false, Value.bool q][o]? := (fun o => (hb2.cell (p := ⟨w.heap.size, o, none⟩) (by simp; omega)).trans ((World.cell?_alloc_lt w1 _ ⟨w.heap.size, o, none⟩ hs1).trans (hq o))); clear hb2) | (go_at_call 62; rw [HU2.out]; refine (HD.out _ (HT.out.bel hw2)).mono ?_; rintro e w4 ⟨rfl, hb4⟩; have hw4 : Below w.heap.size w w4 := bel_trans hw2 hb4; have hq4 : ∀ o, w4.cell? ⟨w1.heap.size, o, none⟩ = #[Value.string y.key, Value.string y.val, Value.int IntKind.u32 y.flags, Value.int IntKind.i64 y.exp, Value.int IntKind.u64 y.ver][o]? := (fun o => (hb4.cell (p := ⟨w1.heap.size, o, none⟩) (by simp at hs2 ⊢; omega)).trans (hq2 o)); have hf4 : ∀ o, w4.frozen? ⟨w1.heap.size, o, none⟩ = false := (fun o => (hb4.frozen (p := ⟨w1.heap.size, o, none⟩) (by simp at hs2 ⊢; omega)).trans (hf2 o)); have hs4 := hb4.size; clear hb4))
  have hw5 : Below w.heap.size w (w4.setCell ⟨w1.heap.size, 1, none⟩ (.string s)) := Below.setCell hw4 (by show w.heap.size ≤ w1.heap.size; omega) _
  have c0 := cell_put (v := .string s) (hq4 1) (hq4 0)
  have c1 := cell_put (v := .string s) (hq4 1) (hq4 1)
  have c2 := cell_put (v := .string s) (hq4 1) (hq4 2)
  have c3 := cell_put (v := .string s) (hq4 1) (hq4 3)
  have c4 := cell_put (v := .string s) (hq4 1) (hq4 4)
  simp only [Nat.reduceEqDiff, if_true, if_false] at c0 c1 c2 c3 c4
  clear hq hq2 hf2 hq3 hq4 hf4 hs2 hs4 hw4 hw2
  generalize w4.setCell ⟨w1.heap.size, 1, none⟩ (.string s) = w5 at *
  have hm5 := H.out.below hw5
  have hs5 := hw5.size
  have HS := Lib.hid (mset_any mb g l ⟨y.key, s, y.flags, y.exp, y.ver⟩ ver s _ hm5)
  clear hm5
  go_wp2_with (go_at_call 45; refine HS.out.mono ?_; rintro e w3 ⟨v, rfl, hrow, hm, hg⟩; have HR := Lib.hid hrow; have HM := Lib.hid hm; have HG := Lib.hid (gr_bel hw5 hg); clear hrow hm hg)
  go_ret
  exact ⟨v, rfl, HR.out.mono hs5, HM.out, HG.out⟩

set_option maxRecDepth 100000 in
set_option maxHeartbeats 3000000 in
theorem arith_true (mb g : Nat) (l : M.Mp) (key : ByteArray) (by_ : Int) (q : Bool) (now ver : Int) (y : M.Item) (w : World) (h : MapSt w mb g l) (ht : Tabs w) (hx : M.mget l key now = some y) (hf : (numF y.val).2 = true) (hy : 0 ≤ by_ ∧ by_ < 18446744073709551616) :
    Calls Tryd.prog 43 #[.pointer (some ⟨mb, 0, none⟩), .agg #[.string key, .int .u64 by_, .bool true, .bool q], .int .i64 now, .int .u64 ver] w (Lined w mb g (digits (arithN (numF y.val).1 by_ true)) (M.mset l y.key { y with val := digits (arithN (numF y.val).1 by_ true), ver := ver })) := by
  have HC := Lib.hid (mget_some mb g l key now y _ (h.below (bel_alloc (bel_refl w) (.cells #[.string key, .int .u64 by_, .bool true, .bool q] 108))) hx)
  have HX := Lib.hid (num_range y.val)
  have HF := Lib.hid hf
  generalize hu : arithN (numF y.val).1 by_ true = u
  have hu2 : IntKind.u64.wrap ((numF y.val).fst - min (numF y.val).fst by_) = (u : Int) := by rw [← hu]; exact arith_dn _ _ (num_range y.val).1 (num_range y.val).2 hy.1 hy.2
  have hu3 : u < 18446744073709551616 := by rw [← hu]; exact arith_lt _ _ _ (num_range y.val).1 (num_range y.val).2 hy.1 hy.2
  have hd : ∀ w', Tabs w' → Calls Tryd.prog 62 #[.int .u64 u] w' fun e w'' => e = .returned (.string (digits u)) ∧ Below w'.heap.size w' w'' := fun w' ht' => text_any u hu3 w' ht'
  generalize digits u = s at hd ⊢
  have HD := Lib.hid hd
  clear hd
  have HU2 := Lib.hid hu2
  clear hu2 hu3
  have HY := Lib.hid hy
  have H := Lib.hid h
  have HT := Lib.hid ht
  clear h hx ht hf hy hu
  go_enter Tryd.func43, Tryd.ntmps43
  go_upto_region 11 with (first | (go_at_call 24; refine HC.out.mono ?_; rintro e w1 ⟨rfl, hb1⟩; have hq := own_cell hb1; have hs1 := size_of hb1; have hw := bel_of hb1; clear hb1) | (go_at_call 61; refine (number_any y.val _ (HT.out.bel (by repeat (first | with_reducible exact hw | with_reducible exact hw2 | with_reducible apply bel_drew | with_reducible apply bel_alloc | (with_reducible refine Below.setCell ?_ ?_ _; rotate_left; · (first | (simp; done) | (simp; omega) | omega)))))).mono ?_; rw [HF.out]; rintro e w2 ⟨rfl, hb2⟩; have hw2 : Below w.heap.size w w2 := bel_trans (by repeat (first | with_reducible exact hw | with_reducible exact hw2 | with_reducible apply bel_drew | with_reducible apply bel_alloc | (with_reducible refine Below.setCell ?_ ?_ _; rotate_left; · (first | (simp; done) | (simp; omega) | omega)))) hb2; have hs2 := hb2.size; have hq2 := own_cell hb2; have hf2 := own_frozen hb2; have hq3 : ∀ o, w2.cell? ⟨w.heap.size, o, none⟩ = #[Value.string key, Value.int .u64 by_, Value.bool true, Value.bool q][o]? := (fun o => (hb2.cell (p := ⟨w.heap.size, o, none⟩) (by simp; omega)).trans ((World.cell?_alloc_lt w1 _ ⟨w.heap.size, o, none⟩ hs1).trans (hq o))); clear hb2) | (go_at_call 62; rw [HU2.out]; refine (HD.out _ (HT.out.bel hw2)).mono ?_; rintro e w4 ⟨rfl, hb4⟩; have hw4 : Below w.heap.size w w4 := bel_trans hw2 hb4; have hq4 : ∀ o, w4.cell? ⟨w1.heap.size, o, none⟩ = #[Value.string y.key, Value.string y.val, Value.int IntKind.u32 y.flags, Value.int IntKind.i64 y.exp, Value.int IntKind.u64 y.ver][o]? := (fun o => (hb4.cell (p := ⟨w1.heap.size, o, none⟩) (by simp at hs2 ⊢; omega)).trans (hq2 o)); have hf4 : ∀ o, w4.frozen? ⟨w1.heap.size, o, none⟩ = false := (fun o => (hb4.frozen (p := ⟨w1.heap.size, o, none⟩) (by simp at hs2 ⊢; omega)).trans (hf2 o)); have hs4 := hb4.size; clear hb4))
  have hw5 : Below w.heap.size w (w4.setCell ⟨w1.heap.size, 1, none⟩ (.string s)) := Below.setCell hw4 (by show w.heap.size ≤ w1.heap.size; omega) _
  have c0 := cell_put (v := .string s) (hq4 1) (hq4 0)
  have c1 := cell_put (v := .string s) (hq4 1) (hq4 1)
  have c2 := cell_put (v := .string s) (hq4 1) (hq4 2)
  have c3 := cell_put (v := .string s) (hq4 1) (hq4 3)
  have c4 := cell_put (v := .string s) (hq4 1) (hq4 4)
  simp only [Nat.reduceEqDiff, if_true, if_false] at c0 c1 c2 c3 c4
  clear hq hq2 hf2 hq3 hq4 hf4 hs2 hs4 hw4 hw2
  generalize w4.setCell ⟨w1.heap.size, 1, none⟩ (.string s) = w5 at *
  have hm5 := H.out.below hw5
  have hs5 := hw5.size
  have HS := Lib.hid (mset_any mb g l ⟨y.key, s, y.flags, y.exp, y.ver⟩ ver s _ hm5)
  clear hm5
  go_wp2_with (go_at_call 45; refine HS.out.mono ?_; rintro e w3 ⟨v, rfl, hrow, hm, hg⟩; have HR := Lib.hid hrow; have HM := Lib.hid hm; have HG := Lib.hid (gr_bel hw5 hg); clear hrow hm hg)
  go_ret
  exact ⟨v, rfl, HR.out.mono hs5, HM.out, HG.out⟩
end Go.Proofs.YtbhnmaghnnpboaaDoor
/- model.Map: store, whole; the pure Do. -/
namespace Go.Proofs.YtbhnmaghnnpboaaDoor
open Go.RowKit

theorem Lined.of {w w1 : World} {mb g : Nat} {t : ByteArray} {l' : M.Mp} {e : Ending} {w' : World} (hb : Below w.heap.size w w1) (h : Lined w1 mb g t l' e w') : Lined w mb g t l' e w' := by
  obtain ⟨v, he, hr, hm, hg⟩ := h
  exact ⟨v, he, hr.mono hb.size, hm, gr_bel hb hg⟩

/-- A command that is no Get, done. -/
def doF (l : M.Mp) (x : M.Cmd) (now ver : Int) : Option ByteArray × M.Mp :=
  match x.of with
  | .bad t => (some t, l)
  | .store verb key data flags exp cas _ => if goodF x then (some (M.store l verb key data flags exp cas now ver).1, (M.store l verb key data flags exp cas now ver).2) else (some M.tERR, l)
  | .arith key by_ down _ => if goodF x then (some (arithF l key by_ down now ver).1, (arithF l key by_ down now ver).2) else (some M.tERR, l)
  | .touch key exp _ =>
    if goodF x then
      match M.mget l key now with
      | none => (some M.tNF, l)
      | some y => (some M.tTOUCHED, M.mset l y.key { y with exp := M.time exp now, ver := ver })
    else (some M.tERR, l)
  | .delete key _ =>
    if goodF x then
      match M.mget l key now with
      | none => (some M.tNF, M.mdel l key)
      | some _ => (some M.tDELETED, M.mdel l key)
    else (some M.tERR, l)
  | .flush _ => if goodF x then (some M.tOK, []) else (some M.tERR, l)
  | .word name => if goodF x then (if name = ⟨#[113, 117, 105, 116]⟩ then (none, l) else (some M.tVER, l)) else (some M.tERR, l)
  | _ => (some M.tERR, l)

theorem ba_of_list {a b : ByteArray} {l : List UInt8} (h : (a.toList == l) = true) (hb : b.toList = l) : a = b := by
  have he := eq_of_beq h
  rw [← hb] at he
  have h1 : a.data.toList = b.data.toList := by rw [← ByteArray.toList_eq, ← ByteArray.toList_eq]; exact he
  cases a; cases b; congr 1; exact Array.toList_inj.1 h1

theorem verb_of {v : ByteArray} (h : verbIn v = true) : v = M.vset ∨ v = M.vadd ∨ v = M.vreplace ∨ v = M.vappend ∨ v = M.vprepend ∨ v = M.vcas := by
  simp only [verbIn, verbsL, List.any_cons, List.any_nil, Bool.or_false, Bool.or_eq_true, decide_eq_true_eq] at h
  simp only [M.vset, M.vadd, M.vreplace, M.vappend, M.vprepend, M.vcas]
  grind

theorem store_any (mb g : Nat) (l : M.Mp) (verb key data : ByteArray) (flags exp cas : Int) (q : Bool) (now ver : Int) (w : World) (h : MapSt w mb g l) (hv : verbIn verb = true) (he : I64 exp) (hn : I64 now) (hb : ∀ y, M.mget l key now = some y → y.val.size + data.size ≤ 9223372036854775807) :
    Calls Tryd.prog 42 #[.pointer (some ⟨mb, 0, none⟩), .agg #[.string verb, .string key, .string data, .int .u32 flags, .int .i64 exp, .int .u64 cas, .bool q], .int .i64 now, .int .u64 ver] w
      (Lined w mb g (M.store l verb key data flags exp cas now ver).1 (M.store l verb key data flags exp cas now ver).2) := by
  cases hx : M.mget l key now with
  | none =>
    rcases verb_of hv with rfl | rfl | rfl | rfl | rfl | rfl
    · have e : M.store l M.vset key data flags exp cas now ver = (M.tSTORED, M.mset l key ⟨key, data, flags, M.time exp now, ver⟩) := by unfold M.store; rw [hx]; simp [show ∀ a b : ByteArray, (a = b) = (a.data = b.data) from fun a b => propext ⟨fun h => by rw [h], fun h => by cases a; cases b; simp_all⟩, M.vset,M.vreplace, M.vappend, M.vprepend, M.vcas]
      rw [e]
      exact store_set_none mb g l key data flags exp cas q now ver w h hx he hn
    · have e : M.store l M.vadd key data flags exp cas now ver = (M.tSTORED, M.mset l key ⟨key, data, flags, M.time exp now, ver⟩) := by unfold M.store; rw [hx]; simp [show ∀ a b : ByteArray, (a = b) = (a.data = b.data) from fun a b => propext ⟨fun h => by rw [h], fun h => by cases a; cases b; simp_all⟩,M.vadd, M.vreplace, M.vappend, M.vprepend, M.vcas]
      rw [e]
      exact store_add_none mb g l key data flags exp cas q now ver w h hx he hn
    · have e : M.store l M.vreplace key data flags exp cas now ver = (M.tNS, l) := by unfold M.store; rw [hx]; simp [show ∀ a b : ByteArray, (a = b) = (a.data = b.data) from fun a b => propext ⟨fun h => by rw [h], fun h => by cases a; cases b; simp_all⟩,M.vreplace, M.vappend, M.vprepend]
      rw [e]
      exact store_replace_none mb g l key data flags exp cas q now ver w h hx he hn
    · have e : M.store l M.vappend key data flags exp cas now ver = (M.tNS, l) := by unfold M.store; rw [hx]; simp [show ∀ a b : ByteArray, (a = b) = (a.data = b.data) from fun a b => propext ⟨fun h => by rw [h], fun h => by cases a; cases b; simp_all⟩,M.vreplace, M.vappend, M.vprepend]
      rw [e]
      exact store_append_none mb g l key data flags exp cas q now ver w h hx he hn
    · have e : M.store l M.vprepend key data flags exp cas now ver = (M.tNS, l) := by unfold M.store; rw [hx]; simp [show ∀ a b : ByteArray, (a = b) = (a.data = b.data) from fun a b => propext ⟨fun h => by rw [h], fun h => by cases a; cases b; simp_all⟩,M.vreplace, M.vappend, M.vprepend]
      rw [e]
      exact store_prepend_none mb g l key data flags exp cas q now ver w h hx he hn
    · have e : M.store l M.vcas key data flags exp cas now ver = (M.tNF, l) := by unfold M.store; rw [hx]; simp [show ∀ a b : ByteArray, (a = b) = (a.data = b.data) from fun a b => propext ⟨fun h => by rw [h], fun h => by cases a; cases b; simp_all⟩,M.vreplace, M.vappend, M.vprepend, M.vcas]
      rw [e]
      exact store_cas_none mb g l key data flags exp cas q now ver w h hx he hn
  | some y =>
    have hb' := hb y hx
    rcases verb_of hv with rfl | rfl | rfl | rfl | rfl | rfl
    · have e : M.store l M.vset key data flags exp cas now ver = (M.tSTORED, M.mset l key ⟨key, data, flags, M.time exp now, ver⟩) := by unfold M.store; rw [hx]; simp [show ∀ a b : ByteArray, (a = b) = (a.data = b.data) from fun a b => propext ⟨fun h => by rw [h], fun h => by cases a; cases b; simp_all⟩, M.vset, M.vadd,M.vappend, M.vprepend, M.vcas]
      rw [e]
      exact store_set_some mb g l key data flags exp cas q now ver y w h hx he hn
    · have e : M.store l M.vadd key data flags exp cas now ver = (M.tNS, l) := by unfold M.store; rw [hx]; simp [M.vadd]
      rw [e]
      exact store_add_some mb g l key data flags exp cas q now ver y w h hx he hn
    · have e : M.store l M.vreplace key data flags exp cas now ver = (M.tSTORED, M.mset l key ⟨key, data, flags, M.time exp now, ver⟩) := by unfold M.store; rw [hx]; simp [show ∀ a b : ByteArray, (a = b) = (a.data = b.data) from fun a b => propext ⟨fun h => by rw [h], fun h => by cases a; cases b; simp_all⟩,M.vadd, M.vreplace, M.vappend, M.vprepend, M.vcas]
      rw [e]
      exact store_replace_some mb g l key data flags exp cas q now ver y w h hx he hn
    · by_cases hs : 1024 < y.val.size + data.size
      · have e : M.store l M.vappend key data flags exp cas now ver = (M.tBIG, l) := by unfold M.store; rw [hx]; simp [show ∀ a b : ByteArray, (a = b) = (a.data = b.data) from fun a b => propext ⟨fun h => by rw [h], fun h => by cases a; cases b; simp_all⟩,M.vadd,M.vappend,hs]
        rw [e]
        exact store_append_big mb g l key data flags exp cas q now ver y w h hx he hn hs (by omega)
      · have e : M.store l M.vappend key data flags exp cas now ver = (M.tSTORED, M.mset l key ⟨key, y.val ++ data, y.flags, y.exp, ver⟩) := by unfold M.store; rw [hx]; simp [show ∀ a b : ByteArray, (a = b) = (a.data = b.data) from fun a b => propext ⟨fun h => by rw [h], fun h => by cases a; cases b; simp_all⟩,M.vadd,M.vappend,hs]
        rw [e]
        exact store_append_some mb g l key data flags exp cas q now ver y w h hx he hn hs
    · by_cases hs : 1024 < data.size + y.val.size
      · have e : M.store l M.vprepend key data flags exp cas now ver = (M.tBIG, l) := by unfold M.store; rw [hx]; simp [show ∀ a b : ByteArray, (a = b) = (a.data = b.data) from fun a b => propext ⟨fun h => by rw [h], fun h => by cases a; cases b; simp_all⟩,M.vadd,M.vappend, M.vprepend,hs]
        rw [e]
        exact store_prepend_big mb g l key data flags exp cas q now ver y w h hx he hn hs (by omega)
      · have e : M.store l M.vprepend key data flags exp cas now ver = (M.tSTORED, M.mset l key ⟨key, data ++ y.val, y.flags, y.exp, ver⟩) := by unfold M.store; rw [hx]; simp [show ∀ a b : ByteArray, (a = b) = (a.data = b.data) from fun a b => propext ⟨fun h => by rw [h], fun h => by cases a; cases b; simp_all⟩,M.vadd,M.vappend, M.vprepend,hs]
        rw [e]
        exact store_prepend_some mb g l key data flags exp cas q now ver y w h hx he hn hs
    · by_cases hs : y.ver = cas
      · have e : M.store l M.vcas key data flags exp cas now ver = (M.tSTORED, M.mset l key ⟨key, data, flags, M.time exp now, ver⟩) := by unfold M.store; rw [hx]; simp [show ∀ a b : ByteArray, (a = b) = (a.data = b.data) from fun a b => propext ⟨fun h => by rw [h], fun h => by cases a; cases b; simp_all⟩,M.vadd,M.vappend, M.vprepend, M.vcas, hs]
        rw [e]
        exact store_cas_eq mb g l key data flags exp cas q now ver y w h hx he hn hs
      · have e : M.store l M.vcas key data flags exp cas now ver = (M.tEX, l) := by unfold M.store; rw [hx]; simp [show ∀ a b : ByteArray, (a = b) = (a.data = b.data) from fun a b => propext ⟨fun h => by rw [h], fun h => by cases a; cases b; simp_all⟩,M.vadd,M.vappend, M.vprepend, M.vcas, hs]
        rw [e]
        exact store_cas_ne mb g l key data flags exp cas q now ver y w h hx he hn hs
end Go.Proofs.YtbhnmaghnnpboaaDoor
/- model.Map: Do. -/
namespace Go.Proofs.YtbhnmaghnnpboaaDoor
open Go.RowKit
attribute [local go_sem ↓] Go.wp_at_zero Go.wp_at_succ

/-- What Do leaves of a command that is no Get. -/
def Dod (w : World) (mb g : Nat) (r : Option ByteArray × M.Mp) (e : Ending) (w' : World) : Prop :=
  match r.1 with
  | some t => Lined w mb g t r.2 e w'
  | none => e = .returned (.slice none 0 0) ∧ MapSt w' mb g r.2 ∧ w.grownBy w' (some g)

theorem row_bel {w w1 w2 : World} {v : Value} {n : Nat} {e : TypeId} {cs : Array Value} (h : Row1 w1 w2 v n e cs) (hb : Below w.heap.size w w1) : Row1 w w2 v n e cs := h.mono hb.size

set_option maxRecDepth 100000 in
set_option maxHeartbeats 4000000 in
theorem do_store_not (mb g : Nat) (l : M.Mp) (x : M.Cmd) (A : Option Addr) (n c : Nat) (now ver : Int) (verb key data : ByteArray) (flags exp cas : Int) (q : Bool) (w : World) (h : MapSt w mb g l) (ht : Tabs w) (hr : RdS w w.heap.size A n x.keys) (h1 : x.of = .store verb key data flags exp cas q) (hg : goodF x = false) :
    Calls Tryd.prog 27 #[.pointer (some ⟨mb, 0, none⟩), .agg #[.string x.what, .string x.verb, .slice A n c, .string x.data, .int .u32 x.flags, .int .i64 x.exp, .int .u64 x.cas, .int .u64 x.by_, .bool x.withCas, .bool x.withTouch, .bool x.down, .bool x.quiet], .int .i64 now, .int .u64 ver] w (Lined w mb g ⟨#[69, 82, 82, 79, 82]⟩ l) := by
  have hw0 := bel_refl w
  have hv := of_any x A n c _ ((hr.below (bel_alloc hw0 (.cells #[.string x.what, .string x.verb, .slice A n c, .string x.data, .int .u32 x.flags, .int .i64 x.exp, .int .u64 x.cas, .int .u64 x.by_, .bool x.withCas, .bool x.withTouch, .bool x.down, .bool x.quiet] 29)) (Nat.le_refl _)).more (by simp))
  rw [h1] at hv
  simp only [cV] at hv
  have HV := Lib.hid hv
  have HP : ∀ W, Below w.heap.size w W → Calls Tryd.prog 17 #[.agg #[.string x.what, .string x.verb, .slice A n c, .string x.data, .int .u32 x.flags, .int .i64 x.exp, .int .u64 x.cas, .int .u64 x.by_, .bool x.withCas, .bool x.withTouch, .bool x.down, .bool x.quiet]] W fun r w' => r = .returned (.bool (false)) ∧ Below W.heap.size W w' := fun W hW => by rw [← hg]; exact (good_any x A n c W ((hr.below hW (Nat.le_refl _)).more hW.size) (ht.bel hW))
  have HR := Lib.hid HP
  have H := Lib.hid h
  have HT := Lib.hid ht
  clear h ht hr h1 hv HP hg
  go_enter Tryd.func27, Tryd.ntmps27
  go_wp2_with (first
    | (go_at_call 29; refine HV.out.mono ?_; rintro e w1 ⟨A1, c1, rfl, _, hb1⟩; have hq := own_cell hb1; have hs1 := size_of hb1; have hw1 := bel_of hb1; clear hb1)
    | (go_at_call 17; refine (HR.out _ (by repeat (first | with_reducible exact hw3 | with_reducible exact hw2 | with_reducible exact hw1 | with_reducible exact hw0 | with_reducible apply bel_drew | with_reducible apply bel_alloc | (with_reducible refine Below.setCell ?_ ?_ _; rotate_left; · (first | (simp; done) | (simp; omega) | omega))))).mono ?_; rintro e w2 ⟨rfl, hb2⟩; have hs2 := size_of hb2; have hw2 := bel_trans hw1 (bel_of hb2); clear hb2)
    | (go_at_call 40; refine (mline_any _ _).mono ?_; rintro e w4 ⟨v, rfl, hrow, hb4⟩; have HL := Lib.hid (row_bel (w := w) hrow (by repeat (first | with_reducible exact hw3 | with_reducible exact hw2 | with_reducible exact hw1 | with_reducible exact hw0 | with_reducible apply bel_drew | with_reducible apply bel_alloc | (with_reducible refine Below.setCell ?_ ?_ _; rotate_left; · (first | (simp; done) | (simp; omega) | omega))))); have hw4 : Below w.heap.size w w4 := bel_trans (by repeat (first | with_reducible exact hw3 | with_reducible exact hw2 | with_reducible exact hw1 | with_reducible exact hw0 | with_reducible apply bel_drew | with_reducible apply bel_alloc | (with_reducible refine Below.setCell ?_ ?_ _; rotate_left; · (first | (simp; done) | (simp; omega) | omega)))) hb4; clear hrow hb4))
  go_ret
  exact ⟨v, rfl, HL.out, H.out.below hw4, gr_of hw4⟩

set_option maxRecDepth 100000 in
set_option maxHeartbeats 4000000 in
theorem do_arith_not (mb g : Nat) (l : M.Mp) (x : M.Cmd) (A : Option Addr) (n c : Nat) (now ver : Int) (key : ByteArray) (by_ : Int) (down q : Bool) (w : World) (h : MapSt w mb g l) (ht : Tabs w) (hr : RdS w w.heap.size A n x.keys) (h1 : x.of = .arith key by_ down q) (hg : goodF x = false) :
    Calls Tryd.prog 27 #[.pointer (some ⟨mb, 0, none⟩), .agg #[.string x.what, .string x.verb, .slice A n c, .string x.data, .int .u32 x.flags, .int .i64 x.exp, .int .u64 x.cas, .int .u64 x.by_, .bool x.withCas, .bool x.withTouch, .bool x.down, .bool x.quiet], .int .i64 now, .int .u64 ver] w (Lined w mb g ⟨#[69, 82, 82, 79, 82]⟩ l) := by
  have hw0 := bel_refl w
  have hv := of_any x A n c _ ((hr.below (bel_alloc hw0 (.cells #[.string x.what, .string x.verb, .slice A n c, .string x.data, .int .u32 x.flags, .int .i64 x.exp, .int .u64 x.cas, .int .u64 x.by_, .bool x.withCas, .bool x.withTouch, .bool x.down, .bool x.quiet] 29)) (Nat.le_refl _)).more (by simp))
  rw [h1] at hv
  simp only [cV] at hv
  have HV := Lib.hid hv
  have HP : ∀ W, Below w.heap.size w W → Calls Tryd.prog 17 #[.agg #[.string x.what, .string x.verb, .slice A n c, .string x.data, .int .u32 x.flags, .int .i64 x.exp, .int .u64 x.cas, .int .u64 x.by_, .bool x.withCas, .bool x.withTouch, .bool x.down, .bool x.quiet]] W fun r w' => r = .returned (.bool (false)) ∧ Below W.heap.size W w' := fun W hW => by rw [← hg]; exact (good_any x A n c W ((hr.below hW (Nat.le_refl _)).more hW.size) (ht.bel hW))
  have HR := Lib.hid HP
  have H := Lib.hid h
  have HT := Lib.hid ht
  clear h ht hr h1 hv HP hg
  go_enter Tryd.func27, Tryd.ntmps27
  go_wp2_with (first
    | (go_at_call 29; refine HV.out.mono ?_; rintro e w1 ⟨A1, c1, rfl, _, hb1⟩; have hq := own_cell hb1; have hs1 := size_of hb1; have hw1 := bel_of hb1; clear hb1)
    | (go_at_call 17; refine (HR.out _ (by repeat (first | with_reducible exact hw3 | with_reducible exact hw2 | with_reducible exact hw1 | with_reducible exact hw0 | with_reducible apply bel_drew | with_reducible apply bel_alloc | (with_reducible refine Below.setCell ?_ ?_ _; rotate_left; · (first | (simp; done) | (simp; omega) | omega))))).mono ?_; rintro e w2 ⟨rfl, hb2⟩; have hs2 := size_of hb2; have hw2 := bel_trans hw1 (bel_of hb2); clear hb2)
    | (go_at_call 40; refine (mline_any _ _).mono ?_; rintro e w4 ⟨v, rfl, hrow, hb4⟩; have HL := Lib.hid (row_bel (w := w) hrow (by repeat (first | with_reducible exact hw3 | with_reducible exact hw2 | with_reducible exact hw1 | with_reducible exact hw0 | with_reducible apply bel_drew | with_reducible apply bel_alloc | (with_reducible refine Below.setCell ?_ ?_ _; rotate_left; · (first | (simp; done) | (simp; omega) | omega))))); have hw4 : Below w.heap.size w w4 := bel_trans (by repeat (first | with_reducible exact hw3 | with_reducible exact hw2 | with_reducible exact hw1 | with_reducible exact hw0 | with_reducible apply bel_drew | with_reducible apply bel_alloc | (with_reducible refine Below.setCell ?_ ?_ _; rotate_left; · (first | (simp; done) | (simp; omega) | omega)))) hb4; clear hrow hb4))
  go_ret
  exact ⟨v, rfl, HL.out, H.out.below hw4, gr_of hw4⟩

set_option maxRecDepth 100000 in
set_option maxHeartbeats 4000000 in
theorem do_touch_not (mb g : Nat) (l : M.Mp) (x : M.Cmd) (A : Option Addr) (n c : Nat) (now ver : Int) (key : ByteArray) (exp : Int) (q : Bool) (w : World) (h : MapSt w mb g l) (ht : Tabs w) (hr : RdS w w.heap.size A n x.keys) (h1 : x.of = .touch key exp q) (hg : goodF x = false) :
    Calls Tryd.prog 27 #[.pointer (some ⟨mb, 0, none⟩), .agg #[.string x.what, .string x.verb, .slice A n c, .string x.data, .int .u32 x.flags, .int .i64 x.exp, .int .u64 x.cas, .int .u64 x.by_, .bool x.withCas, .bool x.withTouch, .bool x.down, .bool x.quiet], .int .i64 now, .int .u64 ver] w (Lined w mb g ⟨#[69, 82, 82, 79, 82]⟩ l) := by
  have hw0 := bel_refl w
  have hv := of_any x A n c _ ((hr.below (bel_alloc hw0 (.cells #[.string x.what, .string x.verb, .slice A n c, .string x.data, .int .u32 x.flags, .int .i64 x.exp, .int .u64 x.cas, .int .u64 x.by_, .bool x.withCas, .bool x.withTouch, .bool x.down, .bool x.quiet] 29)) (Nat.le_refl _)).more (by simp))
  rw [h1] at hv
  simp only [cV] at hv
  have HV := Lib.hid hv
  have HP : ∀ W, Below w.heap.size w W → Calls Tryd.prog 17 #[.agg #[.string x.what, .string x.verb, .slice A n c, .string x.data, .int .u32 x.flags, .int .i64 x.exp, .int .u64 x.cas, .int .u64 x.by_, .bool x.withCas, .bool x.withTouch, .bool x.down, .bool x.quiet]] W fun r w' => r = .returned (.bool (false)) ∧ Below W.heap.size W w' := fun W hW => by rw [← hg]; exact (good_any x A n c W ((hr.below hW (Nat.le_refl _)).more hW.size) (ht.bel hW))
  have HR := Lib.hid HP
  have H := Lib.hid h
  have HT := Lib.hid ht
  clear h ht hr h1 hv HP hg
  go_enter Tryd.func27, Tryd.ntmps27
  go_wp2_with (first
    | (go_at_call 29; refine HV.out.mono ?_; rintro e w1 ⟨A1, c1, rfl, _, hb1⟩; have hq := own_cell hb1; have hs1 := size_of hb1; have hw1 := bel_of hb1; clear hb1)
    | (go_at_call 17; refine (HR.out _ (by repeat (first | with_reducible exact hw3 | with_reducible exact hw2 | with_reducible exact hw1 | with_reducible exact hw0 | with_reducible apply bel_drew | with_reducible apply bel_alloc | (with_reducible refine Below.setCell ?_ ?_ _; rotate_left; · (first | (simp; done) | (simp; omega) | omega))))).mono ?_; rintro e w2 ⟨rfl, hb2⟩; have hs2 := size_of hb2; have hw2 := bel_trans hw1 (bel_of hb2); clear hb2)
    | (go_at_call 40; refine (mline_any _ _).mono ?_; rintro e w4 ⟨v, rfl, hrow, hb4⟩; have HL := Lib.hid (row_bel (w := w) hrow (by repeat (first | with_reducible exact hw3 | with_reducible exact hw2 | with_reducible exact hw1 | with_reducible exact hw0 | with_reducible apply bel_drew | with_reducible apply bel_alloc | (with_reducible refine Below.setCell ?_ ?_ _; rotate_left; · (first | (simp; done) | (simp; omega) | omega))))); have hw4 : Below w.heap.size w w4 := bel_trans (by repeat (first | with_reducible exact hw3 | with_reducible exact hw2 | with_reducible exact hw1 | with_reducible exact hw0 | with_reducible apply bel_drew | with_reducible apply bel_alloc | (with_reducible refine Below.setCell ?_ ?_ _; rotate_left; · (first | (simp; done) | (simp; omega) | omega)))) hb4; clear hrow hb4))
  go_ret
  exact ⟨v, rfl, HL.out, H.out.below hw4, gr_of hw4⟩

set_option maxRecDepth 100000 in
set_option maxHeartbeats 4000000 in
theorem do_delete_not (mb g : Nat) (l : M.Mp) (x : M.Cmd) (A : Option Addr) (n c : Nat) (now ver : Int) (key : ByteArray) (q : Bool) (w : World) (h : MapSt w mb g l) (ht : Tabs w) (hr : RdS w w.heap.size A n x.keys) (h1 : x.of = .delete key q) (hg : goodF x = false) :
    Calls Tryd.prog 27 #[.pointer (some ⟨mb, 0, none⟩), .agg #[.string x.what, .string x.verb, .slice A n c, .string x.data, .int .u32 x.flags, .int .i64 x.exp, .int .u64 x.cas, .int .u64 x.by_, .bool x.withCas, .bool x.withTouch, .bool x.down, .bool x.quiet], .int .i64 now, .int .u64 ver] w (Lined w mb g ⟨#[69, 82, 82, 79, 82]⟩ l) := by
  have hw0 := bel_refl w
  have hv := of_any x A n c _ ((hr.below (bel_alloc hw0 (.cells #[.string x.what, .string x.verb, .slice A n c, .string x.data, .int .u32 x.flags, .int .i64 x.exp, .int .u64 x.cas, .int .u64 x.by_, .bool x.withCas, .bool x.withTouch, .bool x.down, .bool x.quiet] 29)) (Nat.le_refl _)).more (by simp))
  rw [h1] at hv
  simp only [cV] at hv
  have HV := Lib.hid hv
  have HP : ∀ W, Below w.heap.size w W → Calls Tryd.prog 17 #[.agg #[.string x.what, .string x.verb, .slice A n c, .string x.data, .int .u32 x.flags, .int .i64 x.exp, .int .u64 x.cas, .int .u64 x.by_, .bool x.withCas, .bool x.withTouch, .bool x.down, .bool x.quiet]] W fun r w' => r = .returned (.bool (false)) ∧ Below W.heap.size W w' := fun W hW => by rw [← hg]; exact (good_any x A n c W ((hr.below hW (Nat.le_refl _)).more hW.size) (ht.bel hW))
  have HR := Lib.hid HP
  have H := Lib.hid h
  have HT := Lib.hid ht
  clear h ht hr h1 hv HP hg
  go_enter Tryd.func27, Tryd.ntmps27
  go_wp2_with (first
    | (go_at_call 29; refine HV.out.mono ?_; rintro e w1 ⟨A1, c1, rfl, _, hb1⟩; have hq := own_cell hb1; have hs1 := size_of hb1; have hw1 := bel_of hb1; clear hb1)
    | (go_at_call 17; refine (HR.out _ (by repeat (first | with_reducible exact hw3 | with_reducible exact hw2 | with_reducible exact hw1 | with_reducible exact hw0 | with_reducible apply bel_drew | with_reducible apply bel_alloc | (with_reducible refine Below.setCell ?_ ?_ _; rotate_left; · (first | (simp; done) | (simp; omega) | omega))))).mono ?_; rintro e w2 ⟨rfl, hb2⟩; have hs2 := size_of hb2; have hw2 := bel_trans hw1 (bel_of hb2); clear hb2)
    | (go_at_call 40; refine (mline_any _ _).mono ?_; rintro e w4 ⟨v, rfl, hrow, hb4⟩; have HL := Lib.hid (row_bel (w := w) hrow (by repeat (first | with_reducible exact hw3 | with_reducible exact hw2 | with_reducible exact hw1 | with_reducible exact hw0 | with_reducible apply bel_drew | with_reducible apply bel_alloc | (with_reducible refine Below.setCell ?_ ?_ _; rotate_left; · (first | (simp; done) | (simp; omega) | omega))))); have hw4 : Below w.heap.size w w4 := bel_trans (by repeat (first | with_reducible exact hw3 | with_reducible exact hw2 | with_reducible exact hw1 | with_reducible exact hw0 | with_reducible apply bel_drew | with_reducible apply bel_alloc | (with_reducible refine Below.setCell ?_ ?_ _; rotate_left; · (first | (simp; done) | (simp; omega) | omega)))) hb4; clear hrow hb4))
  go_ret
  exact ⟨v, rfl, HL.out, H.out.below hw4, gr_of hw4⟩

set_option maxRecDepth 100000 in
set_option maxHeartbeats 4000000 in
theorem do_flush_not (mb g : Nat) (l : M.Mp) (x : M.Cmd) (A : Option Addr) (n c : Nat) (now ver : Int) (q : Bool) (w : World) (h : MapSt w mb g l) (ht : Tabs w) (hr : RdS w w.heap.size A n x.keys) (h1 : x.of = .flush q) (hg : goodF x = false) :
    Calls Tryd.prog 27 #[.pointer (some ⟨mb, 0, none⟩), .agg #[.string x.what, .string x.verb, .slice A n c, .string x.data, .int .u32 x.flags, .int .i64 x.exp, .int .u64 x.cas, .int .u64 x.by_, .bool x.withCas, .bool x.withTouch, .bool x.down, .bool x.quiet], .int .i64 now, .int .u64 ver] w (Lined w mb g ⟨#[69, 82, 82, 79, 82]⟩ l) := by
  have hw0 := bel_refl w
  have hv := of_any x A n c _ ((hr.below (bel_alloc hw0 (.cells #[.string x.what, .string x.verb, .slice A n c, .string x.data, .int .u32 x.flags, .int .i64 x.exp, .int .u64 x.cas, .int .u64 x.by_, .bool x.withCas, .bool x.withTouch, .bool x.down, .bool x.quiet] 29)) (Nat.le_refl _)).more (by simp))
  rw [h1] at hv
  simp only [cV] at hv
  have HV := Lib.hid hv
  have HP : ∀ W, Below w.heap.size w W → Calls Tryd.prog 17 #[.agg #[.string x.what, .string x.verb, .slice A n c, .string x.data, .int .u32 x.flags, .int .i64 x.exp, .int .u64 x.cas, .int .u64 x.by_, .bool x.withCas, .bool x.withTouch, .bool x.down, .bool x.quiet]] W fun r w' => r = .returned (.bool (false)) ∧ Below W.heap.size W w' := fun W hW => by rw [← hg]; exact (good_any x A n c W ((hr.below hW (Nat.le_refl _)).more hW.size) (ht.bel hW))
  have HR := Lib.hid HP
  have H := Lib.hid h
  have HT := Lib.hid ht
  clear h ht hr h1 hv HP hg
  go_enter Tryd.func27, Tryd.ntmps27
  go_wp2_with (first
    | (go_at_call 29; refine HV.out.mono ?_; rintro e w1 ⟨A1, c1, rfl, _, hb1⟩; have hq := own_cell hb1; have hs1 := size_of hb1; have hw1 := bel_of hb1; clear hb1)
    | (go_at_call 17; refine (HR.out _ (by repeat (first | with_reducible exact hw3 | with_reducible exact hw2 | with_reducible exact hw1 | with_reducible exact hw0 | with_reducible apply bel_drew | with_reducible apply bel_alloc | (with_reducible refine Below.setCell ?_ ?_ _; rotate_left; · (first | (simp; done) | (simp; omega) | omega))))).mono ?_; rintro e w2 ⟨rfl, hb2⟩; have hs2 := size_of hb2; have hw2 := bel_trans hw1 (bel_of hb2); clear hb2)
    | (go_at_call 40; refine (mline_any _ _).mono ?_; rintro e w4 ⟨v, rfl, hrow, hb4⟩; have HL := Lib.hid (row_bel (w := w) hrow (by repeat (first | with_reducible exact hw3 | with_reducible exact hw2 | with_reducible exact hw1 | with_reducible exact hw0 | with_reducible apply bel_drew | with_reducible apply bel_alloc | (with_reducible refine Below.setCell ?_ ?_ _; rotate_left; · (first | (simp; done) | (simp; omega) | omega))))); have hw4 : Below w.heap.size w w4 := bel_trans (by repeat (first | with_reducible exact hw3 | with_reducible exact hw2 | with_reducible exact hw1 | with_reducible exact hw0 | with_reducible apply bel_drew | with_reducible apply bel_alloc | (with_reducible refine Below.setCell ?_ ?_ _; rotate_left; · (first | (simp; done) | (simp; omega) | omega)))) hb4; clear hrow hb4))
  go_ret
  exact ⟨v, rfl, HL.out, H.out.below hw4, gr_of hw4⟩

set_option maxRecDepth 100000 in
set_option maxHeartbeats 4000000 in
theorem do_word_not (mb g : Nat) (l : M.Mp) (x : M.Cmd) (A : Option Addr) (n c : Nat) (now ver : Int) (name : ByteArray) (w : World) (h : MapSt w mb g l) (ht : Tabs w) (hr : RdS w w.heap.size A n x.keys) (h1 : x.of = .word name) (hg : goodF x = false) :
    Calls Tryd.prog 27 #[.pointer (some ⟨mb, 0, none⟩), .agg #[.string x.what, .string x.verb, .slice A n c, .string x.data, .int .u32 x.flags, .int .i64 x.exp, .int .u64 x.cas, .int .u64 x.by_, .bool x.withCas, .bool x.withTouch, .bool x.down, .bool x.quiet], .int .i64 now, .int .u64 ver] w (Lined w mb g ⟨#[69, 82, 82, 79, 82]⟩ l) := by
  have hw0 := bel_refl w
  have hv := of_any x A n c _ ((hr.below (bel_alloc hw0 (.cells #[.string x.what, .string x.verb, .slice A n c, .string x.data, .int .u32 x.flags, .int .i64 x.exp, .int .u64 x.cas, .int .u64 x.by_, .bool x.withCas, .bool x.withTouch, .bool x.down, .bool x.quiet] 29)) (Nat.le_refl _)).more (by simp))
  rw [h1] at hv
  simp only [cV] at hv
  have HV := Lib.hid hv
  have HP : ∀ W, Below w.heap.size w W → Calls Tryd.prog 17 #[.agg #[.string x.what, .string x.verb, .slice A n c, .string x.data, .int .u32 x.flags, .int .i64 x.exp, .int .u64 x.cas, .int .u64 x.by_, .bool x.withCas, .bool x.withTouch, .bool x.down, .bool x.quiet]] W fun r w' => r = .returned (.bool (false)) ∧ Below W.heap.size W w' := fun W hW => by rw [← hg]; exact (good_any x A n c W ((hr.below hW (Nat.le_refl _)).more hW.size) (ht.bel hW))
  have HR := Lib.hid HP
  have H := Lib.hid h
  have HT := Lib.hid ht
  clear h ht hr h1 hv HP hg
  go_enter Tryd.func27, Tryd.ntmps27
  go_wp2_with (first
    | (go_at_call 29; refine HV.out.mono ?_; rintro e w1 ⟨A1, c1, rfl, _, hb1⟩; have hq := own_cell hb1; have hs1 := size_of hb1; have hw1 := bel_of hb1; clear hb1)
    | (go_at_call 17; refine (HR.out _ (by repeat (first | with_reducible exact hw3 | with_reducible exact hw2 | with_reducible exact hw1 | with_reducible exact hw0 | with_reducible apply bel_drew | with_reducible apply bel_alloc | (with_reducible refine Below.setCell ?_ ?_ _; rotate_left; · (first | (simp; done) | (simp; omega) | omega))))).mono ?_; rintro e w2 ⟨rfl, hb2⟩; have hs2 := size_of hb2; have hw2 := bel_trans hw1 (bel_of hb2); clear hb2)
    | (go_at_call 40; refine (mline_any _ _).mono ?_; rintro e w4 ⟨v, rfl, hrow, hb4⟩; have HL := Lib.hid (row_bel (w := w) hrow (by repeat (first | with_reducible exact hw3 | with_reducible exact hw2 | with_reducible exact hw1 | with_reducible exact hw0 | with_reducible apply bel_drew | with_reducible apply bel_alloc | (with_reducible refine Below.setCell ?_ ?_ _; rotate_left; · (first | (simp; done) | (simp; omega) | omega))))); have hw4 : Below w.heap.size w w4 := bel_trans (by repeat (first | with_reducible exact hw3 | with_reducible exact hw2 | with_reducible exact hw1 | with_reducible exact hw0 | with_reducible apply bel_drew | with_reducible apply bel_alloc | (with_reducible refine Below.setCell ?_ ?_ _; rotate_left; · (first | (simp; done) | (simp; omega) | omega)))) hb4; clear hrow hb4))
  go_ret
  exact ⟨v, rfl, HL.out, H.out.below hw4, gr_of hw4⟩

set_option maxRecDepth 100000 in
set_option maxHeartbeats 4000000 in
theorem do_none_not (mb g : Nat) (l : M.Mp) (x : M.Cmd) (A : Option Addr) (n c : Nat) (now ver : Int) (w : World) (h : MapSt w mb g l) (ht : Tabs w) (hr : RdS w w.heap.size A n x.keys) (h1 : x.of = .none) (hg : goodF x = false) :
    Calls Tryd.prog 27 #[.pointer (some ⟨mb, 0, none⟩), .agg #[.string x.what, .string x.verb, .slice A n c, .string x.data, .int .u32 x.flags, .int .i64 x.exp, .int .u64 x.cas, .int .u64 x.by_, .bool x.withCas, .bool x.withTouch, .bool x.down, .bool x.quiet], .int .i64 now, .int .u64 ver] w (Lined w mb g ⟨#[69, 82, 82, 79, 82]⟩ l) := by
  have hw0 := bel_refl w
  have hv := of_any x A n c _ ((hr.below (bel_alloc hw0 (.cells #[.string x.what, .string x.verb, .slice A n c, .string x.data, .int .u32 x.flags, .int .i64 x.exp, .int .u64 x.cas, .int .u64 x.by_, .bool x.withCas, .bool x.withTouch, .bool x.down, .bool x.quiet] 29)) (Nat.le_refl _)).more (by simp))
  rw [h1] at hv
  simp only [cV] at hv
  have HV := Lib.hid hv
  have HP : ∀ W, Below w.heap.size w W → Calls Tryd.prog 17 #[.agg #[.string x.what, .string x.verb, .slice A n c, .string x.data, .int .u32 x.flags, .int .i64 x.exp, .int .u64 x.cas, .int .u64 x.by_, .bool x.withCas, .bool x.withTouch, .bool x.down, .bool x.quiet]] W fun r w' => r = .returned (.bool (false)) ∧ Below W.heap.size W w' := fun W hW => by rw [← hg]; exact (good_any x A n c W ((hr.below hW (Nat.le_refl _)).more hW.size) (ht.bel hW))
  have HR := Lib.hid HP
  have H := Lib.hid h
  have HT := Lib.hid ht
  clear h ht hr h1 hv HP hg
  go_enter Tryd.func27, Tryd.ntmps27
  go_wp2_with (first
    | (go_at_call 29; refine HV.out.mono ?_; rintro e w1 ⟨A1, c1, rfl, _, hb1⟩; have hq := own_cell hb1; have hs1 := size_of hb1; have hw1 := bel_of hb1; clear hb1)
    | (go_at_call 17; refine (HR.out _ (by repeat (first | with_reducible exact hw3 | with_reducible exact hw2 | with_reducible exact hw1 | with_reducible exact hw0 | with_reducible apply bel_drew | with_reducible apply bel_alloc | (with_reducible refine Below.setCell ?_ ?_ _; rotate_left; · (first | (simp; done) | (simp; omega) | omega))))).mono ?_; rintro e w2 ⟨rfl, hb2⟩; have hs2 := size_of hb2; have hw2 := bel_trans hw1 (bel_of hb2); clear hb2)
    | (go_at_call 40; refine (mline_any _ _).mono ?_; rintro e w4 ⟨v, rfl, hrow, hb4⟩; have HL := Lib.hid (row_bel (w := w) hrow (by repeat (first | with_reducible exact hw3 | with_reducible exact hw2 | with_reducible exact hw1 | with_reducible exact hw0 | with_reducible apply bel_drew | with_reducible apply bel_alloc | (with_reducible refine Below.setCell ?_ ?_ _; rotate_left; · (first | (simp; done) | (simp; omega) | omega))))); have hw4 : Below w.heap.size w w4 := bel_trans (by repeat (first | with_reducible exact hw3 | with_reducible exact hw2 | with_reducible exact hw1 | with_reducible exact hw0 | with_reducible apply bel_drew | with_reducible apply bel_alloc | (with_reducible refine Below.setCell ?_ ?_ _; rotate_left; · (first | (simp; done) | (simp; omega) | omega)))) hb4; clear hrow hb4))
  go_ret
  exact ⟨v, rfl, HL.out, H.out.below hw4, gr_of hw4⟩

set_option maxRecDepth 100000 in
set_option maxHeartbeats 4000000 in
theorem do_bad (mb g : Nat) (l : M.Mp) (x : M.Cmd) (A : Option Addr) (n c : Nat) (now ver : Int) (t : ByteArray) (w : World) (h : MapSt w mb g l) (ht : Tabs w) (hr : RdS w w.heap.size A n x.keys) (h1 : x.of = .bad t) :
    Calls Tryd.prog 27 #[.pointer (some ⟨mb, 0, none⟩), .agg #[.string x.what, .string x.verb, .slice A n c, .string x.data, .int .u32 x.flags, .int .i64 x.exp, .int .u64 x.cas, .int .u64 x.by_, .bool x.withCas, .bool x.withTouch, .bool x.down, .bool x.quiet], .int .i64 now, .int .u64 ver] w (Lined w mb g t l) := by
  have hw0 := bel_refl w
  have hv := of_any x A n c _ ((hr.below (bel_alloc hw0 (.cells #[.string x.what, .string x.verb, .slice A n c, .string x.data, .int .u32 x.flags, .int .i64 x.exp, .int .u64 x.cas, .int .u64 x.by_, .bool x.withCas, .bool x.withTouch, .bool x.down, .bool x.quiet] 29)) (Nat.le_refl _)).more (by simp))
  rw [h1] at hv
  simp only [cV] at hv
  have HV := Lib.hid hv
  have HP : ∀ W, Below w.heap.size w W → Calls Tryd.prog 17 #[.agg #[.string x.what, .string x.verb, .slice A n c, .string x.data, .int .u32 x.flags, .int .i64 x.exp, .int .u64 x.cas, .int .u64 x.by_, .bool x.withCas, .bool x.withTouch, .bool x.down, .bool x.quiet]] W fun r w' => r = .returned (.bool (goodF x)) ∧ Below W.heap.size W w' := fun W hW => (good_any x A n c W ((hr.below hW (Nat.le_refl _)).more hW.size) (ht.bel hW))
  have HR := Lib.hid HP
  have H := Lib.hid h
  have HT := Lib.hid ht
  clear h ht hr h1 hv HP
  go_enter Tryd.func27, Tryd.ntmps27
  go_wp2_with (first
    | (go_at_call 29; refine HV.out.mono ?_; rintro e w1 ⟨A1, c1, rfl, _, hb1⟩; have hq := own_cell hb1; have hs1 := size_of hb1; have hw1 := bel_of hb1; clear hb1)
    | (go_at_call 17; refine (HR.out _ (by repeat (first | with_reducible exact hw3 | with_reducible exact hw2 | with_reducible exact hw1 | with_reducible exact hw0 | with_reducible apply bel_drew | with_reducible apply bel_alloc | (with_reducible refine Below.setCell ?_ ?_ _; rotate_left; · (first | (simp; done) | (simp; omega) | omega))))).mono ?_; rintro e w2 ⟨rfl, hb2⟩; have hs2 := size_of hb2; have hw2 := bel_trans hw1 (bel_of hb2); clear hb2)
    | (go_at_call 40; refine (mline_any _ _).mono ?_; rintro e w4 ⟨v, rfl, hrow, hb4⟩; have HL := Lib.hid (row_bel (w := w) hrow (by repeat (first | with_reducible exact hw3 | with_reducible exact hw2 | with_reducible exact hw1 | with_reducible exact hw0 | with_reducible apply bel_drew | with_reducible apply bel_alloc | (with_reducible refine Below.setCell ?_ ?_ _; rotate_left; · (first | (simp; done) | (simp; omega) | omega))))); have hw4 : Below w.heap.size w w4 := bel_trans (by repeat (first | with_reducible exact hw3 | with_reducible exact hw2 | with_reducible exact hw1 | with_reducible exact hw0 | with_reducible apply bel_drew | with_reducible apply bel_alloc | (with_reducible refine Below.setCell ?_ ?_ _; rotate_left; · (first | (simp; done) | (simp; omega) | omega)))) hb4; clear hrow hb4))
  go_ret
  exact ⟨v, rfl, HL.out, H.out.below hw4, gr_of hw4⟩

end Go.Proofs.YtbhnmaghnnpboaaDoor

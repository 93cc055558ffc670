/- model.Map: Do of good commands. -/
import Derived.Deep.CutRange
import Derived.Test.YtbhnmaghnnpboaaDoorZg
namespace Go.Proofs.YtbhnmaghnnpboaaDoor
open Go.RowKit
attribute [local go_sem ↓] Go.wp_at_zero Go.wp_at_succ

theorem arith_any (mb g : Nat) (l : M.Mp) (key : ByteArray) (by_ : Int) (down q : Bool) (now ver : Int) (w : World) (h : MapSt w mb g l) (ht : Tabs w) (hy : 0 ≤ by_ ∧ by_ < 18446744073709551616) :
    Calls Tryd.prog 43 #[.pointer (some ⟨mb, 0, none⟩), .agg #[.string key, .int .u64 by_, .bool down, .bool q], .int .i64 now, .int .u64 ver] w (Lined w mb g (arithF l key by_ down now ver).1 (arithF l key by_ down now ver).2) := by
  cases hx : M.mget l key now with
  | none => rw [show arithF l key by_ down now ver = (M.tNF, l) by unfold arithF; rw [hx]]; exact arith_none mb g l key by_ down q now ver w h hx
  | some y =>
    cases hf : (numF y.val).2 with
    | false => rw [show arithF l key by_ down now ver = (M.tNN, l) by unfold arithF; rw [hx]; simp [hf]]; exact arith_non mb g l key by_ down q now ver y w h ht hx hf
    | true =>
      rw [show arithF l key by_ down now ver = (digits (arithN (numF y.val).1 by_ down), M.mset l y.key { y with val := digits (arithN (numF y.val).1 by_ down), ver := ver }) by unfold arithF; rw [hx]; simp [hf]]
      cases down
      · exact arith_false mb g l key by_ q now ver y w h ht hx hf hy
      · exact arith_true mb g l key by_ q now ver y w h ht hx hf hy

set_option maxRecDepth 100000 in
set_option maxHeartbeats 4000000 in
theorem do_store_ok (mb g : Nat) (l : M.Mp) (x : M.Cmd) (A : Option Addr) (n c : Nat) (now ver : Int) (verb key data : ByteArray) (flags exp cas : Int) (q : Bool) (hvb : verbIn verb = true) (he : I64 exp) (hn : I64 now) (hb : ∀ y, M.mget l key now = some y → y.val.size + data.size ≤ 9223372036854775807) (w : World) (h : MapSt w mb g l) (ht : Tabs w) (hr : RdS w w.heap.size A n x.keys) (h1 : x.of = .store verb key data flags exp cas q) (hg : goodF x = true) :
    Calls Tryd.prog 27 #[.pointer (some ⟨mb, 0, none⟩), .agg #[.string x.what, .string x.verb, .slice A n c, .string x.data, .int .u32 x.flags, .int .i64 x.exp, .int .u64 x.cas, .int .u64 x.by_, .bool x.withCas, .bool x.withTouch, .bool x.down, .bool x.quiet], .int .i64 now, .int .u64 ver] w (Lined w mb g (M.store l verb key data flags exp cas now ver).1 (M.store l verb key data flags exp cas now ver).2) := by
  have hw0 := bel_refl w
  have hv := of_any x A n c _ ((hr.below (bel_alloc hw0 (.cells #[.string x.what, .string x.verb, .slice A n c, .string x.data, .int .u32 x.flags, .int .i64 x.exp, .int .u64 x.cas, .int .u64 x.by_, .bool x.withCas, .bool x.withTouch, .bool x.down, .bool x.quiet] 29)) (Nat.le_refl _)).more (by simp))
  rw [h1] at hv
  simp only [cV] at hv
  have HV := Lib.hid hv
  have HP : ∀ W, Below w.heap.size w W → Calls Tryd.prog 17 #[.agg #[.string x.what, .string x.verb, .slice A n c, .string x.data, .int .u32 x.flags, .int .i64 x.exp, .int .u64 x.cas, .int .u64 x.by_, .bool x.withCas, .bool x.withTouch, .bool x.down, .bool x.quiet]] W fun r w' => r = .returned (.bool (true)) ∧ Below W.heap.size W w' := fun W hW => by rw [← hg]; exact (good_any x A n c W ((hr.below hW (Nat.le_refl _)).more hW.size) (ht.bel hW))
  have HR := Lib.hid HP
  have H := Lib.hid h
  have HT := Lib.hid ht
  have hs : ∀ W, Below w.heap.size w W → Calls Tryd.prog 42 #[.pointer (some ⟨mb, 0, none⟩), .agg #[.string verb, .string key, .string data, .int .u32 flags, .int .i64 exp, .int .u64 cas, .bool q], .int .i64 now, .int .u64 ver] W (Lined W mb g (M.store l verb key data flags exp cas now ver).1 (M.store l verb key data flags exp cas now ver).2) := fun W hW => store_any mb g l verb key data flags exp cas q now ver W (h.below hW) hvb he hn hb
  generalize M.store l verb key data flags exp cas now ver = r at hs ⊢
  have HS := Lib.hid hs
  clear hs hb hvb he hn
  clear h ht hr h1 hv HP hg
  go_enter Tryd.func27, Tryd.ntmps27
  go_wp2_with (first
    | (go_at_call 29; refine HV.out.mono ?_; rintro e w1 ⟨A1, c1, rfl, _, hb1⟩; have hq := own_cell hb1; have hs1 := size_of hb1; have hw1 := bel_of hb1; clear hb1)
    | (go_at_call 17; refine (HR.out _ (by repeat (first | with_reducible exact hw3 | with_reducible exact hw2 | with_reducible exact hw1 | with_reducible exact hw0 | with_reducible apply bel_drew | with_reducible apply bel_alloc | (with_reducible refine Below.setCell ?_ ?_ _; rotate_left; · (first | (simp; done) | (simp; omega) | omega))))).mono ?_; rintro e w2 ⟨rfl, hb2⟩; have hs2 := size_of hb2; have hw2 := bel_trans hw1 (bel_of hb2); clear hb2)
    | (go_at_call 42; refine (HS.out _ (by repeat (first | with_reducible exact hw3 | with_reducible exact hw2 | with_reducible exact hw1 | with_reducible exact hw0 | with_reducible apply bel_drew | with_reducible apply bel_alloc | (with_reducible refine Below.setCell ?_ ?_ _; rotate_left; · (first | (simp; done) | (simp; omega) | omega))))).mono ?_; rintro e w4 hl; obtain ⟨v, rfl, hrow, hm, hg⟩ := Lined.of (w := w) (by repeat (first | with_reducible exact hw3 | with_reducible exact hw2 | with_reducible exact hw1 | with_reducible exact hw0 | with_reducible apply bel_drew | with_reducible apply bel_alloc | (with_reducible refine Below.setCell ?_ ?_ _; rotate_left; · (first | (simp; done) | (simp; omega) | omega)))) hl; have HL := Lib.hid hrow; have HM := Lib.hid hm; have HG := Lib.hid hg; clear hl hrow hm hg))
  go_ret
  exact ⟨v, rfl, HL.out, HM.out, HG.out⟩

set_option maxRecDepth 100000 in
set_option maxHeartbeats 4000000 in
theorem do_arith_ok (mb g : Nat) (l : M.Mp) (x : M.Cmd) (A : Option Addr) (n c : Nat) (now ver : Int) (key : ByteArray) (by_ : Int) (down q : Bool) (hy : 0 ≤ by_ ∧ by_ < 18446744073709551616) (w : World) (h : MapSt w mb g l) (ht : Tabs w) (hr : RdS w w.heap.size A n x.keys) (h1 : x.of = .arith key by_ down q) (hg : goodF x = true) :
    Calls Tryd.prog 27 #[.pointer (some ⟨mb, 0, none⟩), .agg #[.string x.what, .string x.verb, .slice A n c, .string x.data, .int .u32 x.flags, .int .i64 x.exp, .int .u64 x.cas, .int .u64 x.by_, .bool x.withCas, .bool x.withTouch, .bool x.down, .bool x.quiet], .int .i64 now, .int .u64 ver] w (Lined w mb g (arithF l key by_ down now ver).1 (arithF l key by_ down now ver).2) := by
  have hw0 := bel_refl w
  have hv := of_any x A n c _ ((hr.below (bel_alloc hw0 (.cells #[.string x.what, .string x.verb, .slice A n c, .string x.data, .int .u32 x.flags, .int .i64 x.exp, .int .u64 x.cas, .int .u64 x.by_, .bool x.withCas, .bool x.withTouch, .bool x.down, .bool x.quiet] 29)) (Nat.le_refl _)).more (by simp))
  rw [h1] at hv
  simp only [cV] at hv
  have HV := Lib.hid hv
  have HP : ∀ W, Below w.heap.size w W → Calls Tryd.prog 17 #[.agg #[.string x.what, .string x.verb, .slice A n c, .string x.data, .int .u32 x.flags, .int .i64 x.exp, .int .u64 x.cas, .int .u64 x.by_, .bool x.withCas, .bool x.withTouch, .bool x.down, .bool x.quiet]] W fun r w' => r = .returned (.bool (true)) ∧ Below W.heap.size W w' := fun W hW => by rw [← hg]; exact (good_any x A n c W ((hr.below hW (Nat.le_refl _)).more hW.size) (ht.bel hW))
  have HR := Lib.hid HP
  have H := Lib.hid h
  have HT := Lib.hid ht
  have hs : ∀ W, Below w.heap.size w W → Calls Tryd.prog 43 #[.pointer (some ⟨mb, 0, none⟩), .agg #[.string key, .int .u64 by_, .bool down, .bool q], .int .i64 now, .int .u64 ver] W (Lined W mb g (arithF l key by_ down now ver).1 (arithF l key by_ down now ver).2) := fun W hW => arith_any mb g l key by_ down q now ver W (h.below hW) (ht.bel hW) hy
  generalize arithF l key by_ down now ver = r at hs ⊢
  have HS := Lib.hid hs
  clear hs hy
  clear h ht hr h1 hv HP hg
  go_enter Tryd.func27, Tryd.ntmps27
  go_wp2_with (first
    | (go_at_call 29; refine HV.out.mono ?_; rintro e w1 ⟨A1, c1, rfl, _, hb1⟩; have hq := own_cell hb1; have hs1 := size_of hb1; have hw1 := bel_of hb1; clear hb1)
    | (go_at_call 17; refine (HR.out _ (by repeat (first | with_reducible exact hw3 | with_reducible exact hw2 | with_reducible exact hw1 | with_reducible exact hw0 | with_reducible apply bel_drew | with_reducible apply bel_alloc | (with_reducible refine Below.setCell ?_ ?_ _; rotate_left; · (first | (simp; done) | (simp; omega) | omega))))).mono ?_; rintro e w2 ⟨rfl, hb2⟩; have hs2 := size_of hb2; have hw2 := bel_trans hw1 (bel_of hb2); clear hb2)
    | (go_at_call 43; refine (HS.out _ (by repeat (first | with_reducible exact hw3 | with_reducible exact hw2 | with_reducible exact hw1 | with_reducible exact hw0 | with_reducible apply bel_drew | with_reducible apply bel_alloc | (with_reducible refine Below.setCell ?_ ?_ _; rotate_left; · (first | (simp; done) | (simp; omega) | omega))))).mono ?_; rintro e w4 hl; obtain ⟨v, rfl, hrow, hm, hg⟩ := Lined.of (w := w) (by repeat (first | with_reducible exact hw3 | with_reducible exact hw2 | with_reducible exact hw1 | with_reducible exact hw0 | with_reducible apply bel_drew | with_reducible apply bel_alloc | (with_reducible refine Below.setCell ?_ ?_ _; rotate_left; · (first | (simp; done) | (simp; omega) | omega)))) hl; have HL := Lib.hid hrow; have HM := Lib.hid hm; have HG := Lib.hid hg; clear hl hrow hm hg))
  go_ret
  exact ⟨v, rfl, HL.out, HM.out, HG.out⟩

set_option maxRecDepth 100000 in
set_option maxHeartbeats 4000000 in
theorem do_touch_none (mb g : Nat) (l : M.Mp) (x : M.Cmd) (A : Option Addr) (n c : Nat) (now ver : Int) (key : ByteArray) (exp : Int) (q : Bool) (hx : M.mget l key now = none) (w : World) (h : MapSt w mb g l) (ht : Tabs w) (hr : RdS w w.heap.size A n x.keys) (h1 : x.of = .touch key exp q) (hg : goodF x = true) :
    Calls Tryd.prog 27 #[.pointer (some ⟨mb, 0, none⟩), .agg #[.string x.what, .string x.verb, .slice A n c, .string x.data, .int .u32 x.flags, .int .i64 x.exp, .int .u64 x.cas, .int .u64 x.by_, .bool x.withCas, .bool x.withTouch, .bool x.down, .bool x.quiet], .int .i64 now, .int .u64 ver] w (Lined w mb g ⟨#[78, 79, 84, 95, 70, 79, 85, 78, 68]⟩ l) := by
  have hw0 := bel_refl w
  have hv := of_any x A n c _ ((hr.below (bel_alloc hw0 (.cells #[.string x.what, .string x.verb, .slice A n c, .string x.data, .int .u32 x.flags, .int .i64 x.exp, .int .u64 x.cas, .int .u64 x.by_, .bool x.withCas, .bool x.withTouch, .bool x.down, .bool x.quiet] 29)) (Nat.le_refl _)).more (by simp))
  rw [h1] at hv
  simp only [cV] at hv
  have HV := Lib.hid hv
  have HP : ∀ W, Below w.heap.size w W → Calls Tryd.prog 17 #[.agg #[.string x.what, .string x.verb, .slice A n c, .string x.data, .int .u32 x.flags, .int .i64 x.exp, .int .u64 x.cas, .int .u64 x.by_, .bool x.withCas, .bool x.withTouch, .bool x.down, .bool x.quiet]] W fun r w' => r = .returned (.bool (true)) ∧ Below W.heap.size W w' := fun W hW => by rw [← hg]; exact (good_any x A n c W ((hr.below hW (Nat.le_refl _)).more hW.size) (ht.bel hW))
  have HR := Lib.hid HP
  have H := Lib.hid h
  have HT := Lib.hid ht
  have HX := Lib.hid hx
  clear hx
  clear h ht hr h1 hv HP hg
  go_enter Tryd.func27, Tryd.ntmps27
  go_wp2_with (first
    | (go_at_call 29; refine HV.out.mono ?_; rintro e w1 ⟨A1, c1, rfl, _, hb1⟩; have hq := own_cell hb1; have hs1 := size_of hb1; have hw1 := bel_of hb1; clear hb1)
    | (go_at_call 17; refine (HR.out _ (by repeat (first | with_reducible exact hw3 | with_reducible exact hw2 | with_reducible exact hw1 | with_reducible exact hw0 | with_reducible apply bel_drew | with_reducible apply bel_alloc | (with_reducible refine Below.setCell ?_ ?_ _; rotate_left; · (first | (simp; done) | (simp; omega) | omega))))).mono ?_; rintro e w2 ⟨rfl, hb2⟩; have hs2 := size_of hb2; have hw2 := bel_trans hw1 (bel_of hb2); clear hb2)
    | (go_at_call 24; refine (mget_none mb g l key now _ (H.out.below (by repeat (first | with_reducible exact hw3 | with_reducible exact hw2 | with_reducible exact hw1 | with_reducible exact hw0 | with_reducible apply bel_drew | with_reducible apply bel_alloc | (with_reducible refine Below.setCell ?_ ?_ _; rotate_left; · (first | (simp; done) | (simp; omega) | omega))))) HX.out).mono ?_; rintro e w3 ⟨rfl, hb3⟩; have hq3 := own_cell hb3; have hs3 := size_of hb3; have hw3 := bel_trans hw2 (bel_of hb3); clear hb3)
    | (go_at_call 40; refine (mline_any _ _).mono ?_; rintro e w4 ⟨v, rfl, hrow, hb4⟩; have HL := Lib.hid (row_bel (w := w) hrow (by repeat (first | with_reducible exact hw3 | with_reducible exact hw2 | with_reducible exact hw1 | with_reducible exact hw0 | with_reducible apply bel_drew | with_reducible apply bel_alloc | (with_reducible refine Below.setCell ?_ ?_ _; rotate_left; · (first | (simp; done) | (simp; omega) | omega))))); have hw4 : Below w.heap.size w w4 := bel_trans (by repeat (first | with_reducible exact hw3 | with_reducible exact hw2 | with_reducible exact hw1 | with_reducible exact hw0 | with_reducible apply bel_drew | with_reducible apply bel_alloc | (with_reducible refine Below.setCell ?_ ?_ _; rotate_left; · (first | (simp; done) | (simp; omega) | omega)))) hb4; clear hrow hb4))
  go_ret
  exact ⟨v, rfl, HL.out, H.out.below hw4, gr_of hw4⟩

set_option maxRecDepth 100000 in
set_option maxHeartbeats 4000000 in
theorem do_touch_some (mb g : Nat) (l : M.Mp) (x : M.Cmd) (A : Option Addr) (n c : Nat) (now ver : Int) (key : ByteArray) (exp : Int) (q : Bool) (y : M.Item) (hx : M.mget l key now = some y) (he : I64 exp) (hn : I64 now) (w : World) (h : MapSt w mb g l) (ht : Tabs w) (hr : RdS w w.heap.size A n x.keys) (h1 : x.of = .touch key exp q) (hg : goodF x = true) :
    Calls Tryd.prog 27 #[.pointer (some ⟨mb, 0, none⟩), .agg #[.string x.what, .string x.verb, .slice A n c, .string x.data, .int .u32 x.flags, .int .i64 x.exp, .int .u64 x.cas, .int .u64 x.by_, .bool x.withCas, .bool x.withTouch, .bool x.down, .bool x.quiet], .int .i64 now, .int .u64 ver] w (Lined w mb g ⟨#[84, 79, 85, 67, 72, 69, 68]⟩ (M.mset l y.key { y with exp := M.time exp now, ver := ver })) := by
  have hw0 := bel_refl w
  have hv := of_any x A n c _ ((hr.below (bel_alloc hw0 (.cells #[.string x.what, .string x.verb, .slice A n c, .string x.data, .int .u32 x.flags, .int .i64 x.exp, .int .u64 x.cas, .int .u64 x.by_, .bool x.withCas, .bool x.withTouch, .bool x.down, .bool x.quiet] 29)) (Nat.le_refl _)).more (by simp))
  rw [h1] at hv
  simp only [cV] at hv
  have HV := Lib.hid hv
  have HP : ∀ W, Below w.heap.size w W → Calls Tryd.prog 17 #[.agg #[.string x.what, .string x.verb, .slice A n c, .string x.data, .int .u32 x.flags, .int .i64 x.exp, .int .u64 x.cas, .int .u64 x.by_, .bool x.withCas, .bool x.withTouch, .bool x.down, .bool x.quiet]] W fun r w' => r = .returned (.bool (true)) ∧ Below W.heap.size W w' := fun W hW => by rw [← hg]; exact (good_any x A n c W ((hr.below hW (Nat.le_refl _)).more hW.size) (ht.bel hW))
  have HR := Lib.hid HP
  have H := Lib.hid h
  have HT := Lib.hid ht
  have HX := Lib.hid hx
  clear hx
  have HE := Lib.hid he
  have HN := Lib.hid hn
  clear he hn
  clear h ht hr h1 hv HP hg
  go_enter Tryd.func27, Tryd.ntmps27
  go_wp2_with (first
    | (go_at_call 29; refine HV.out.mono ?_; rintro e w1 ⟨A1, c1, rfl, _, hb1⟩; have hq := own_cell hb1; have hs1 := size_of hb1; have hw1 := bel_of hb1; clear hb1)
    | (go_at_call 17; refine (HR.out _ (by repeat (first | with_reducible exact hw3 | with_reducible exact hw2 | with_reducible exact hw1 | with_reducible exact hw0 | with_reducible apply bel_drew | with_reducible apply bel_alloc | (with_reducible refine Below.setCell ?_ ?_ _; rotate_left; · (first | (simp; done) | (simp; omega) | omega))))).mono ?_; rintro e w2 ⟨rfl, hb2⟩; have hs2 := size_of hb2; have hw2 := bel_trans hw1 (bel_of hb2); clear hb2)
    | (go_at_call 24; refine (mget_some mb g l key now y _ (H.out.below (by repeat (first | with_reducible exact hw3 | with_reducible exact hw2 | with_reducible exact hw1 | with_reducible exact hw0 | with_reducible apply bel_drew | with_reducible apply bel_alloc | (with_reducible refine Below.setCell ?_ ?_ _; rotate_left; · (first | (simp; done) | (simp; omega) | omega))))) HX.out).mono ?_; rintro e w3 ⟨rfl, hb3⟩; have hq3 := own_cell hb3; have hs3 := size_of hb3; have hw3 := bel_trans hw2 (bel_of hb3); clear hb3)
    | (go_at_call 44; refine (time_any exp now HE.out.1 HE.out.2 HN.out.1 HN.out.2 _).mono ?_; rintro e w4 ⟨rfl, rfl⟩)
    | (go_at_call 45; refine (mset_any mb g l ⟨y.key, y.val, y.flags, M.time exp now, y.ver⟩ ver _ _ (H.out.below (by repeat (first | with_reducible exact hw3 | with_reducible exact hw2 | with_reducible exact hw1 | with_reducible exact hw0 | with_reducible apply bel_drew | with_reducible apply bel_alloc | (with_reducible refine Below.setCell ?_ ?_ _; rotate_left; · (first | (simp; done) | (simp; omega) | omega)))))).mono ?_; rintro e w5 ⟨v, rfl, hrow, hm, hg⟩; have HL := Lib.hid (row_bel (w := w) hrow (by repeat (first | with_reducible exact hw3 | with_reducible exact hw2 | with_reducible exact hw1 | with_reducible exact hw0 | with_reducible apply bel_drew | with_reducible apply bel_alloc | (with_reducible refine Below.setCell ?_ ?_ _; rotate_left; · (first | (simp; done) | (simp; omega) | omega))))); have HM := Lib.hid hm; have HG := Lib.hid (gr_bel (w := w) (by repeat (first | with_reducible exact hw3 | with_reducible exact hw2 | with_reducible exact hw1 | with_reducible exact hw0 | with_reducible apply bel_drew | with_reducible apply bel_alloc | (with_reducible refine Below.setCell ?_ ?_ _; rotate_left; · (first | (simp; done) | (simp; omega) | omega)))) hg); clear hrow hm hg))
  go_ret
  exact ⟨v, rfl, HL.out, HM.out, HG.out⟩

set_option maxRecDepth 100000 in
set_option maxHeartbeats 4000000 in
theorem do_delete_none (mb g : Nat) (l : M.Mp) (x : M.Cmd) (A : Option Addr) (n c : Nat) (now ver : Int) (key : ByteArray) (q : Bool) (hx : M.mget l key now = none) (w : World) (h : MapSt w mb g l) (ht : Tabs w) (hr : RdS w w.heap.size A n x.keys) (h1 : x.of = .delete key q) (hg : goodF x = true) :
    Calls Tryd.prog 27 #[.pointer (some ⟨mb, 0, none⟩), .agg #[.string x.what, .string x.verb, .slice A n c, .string x.data, .int .u32 x.flags, .int .i64 x.exp, .int .u64 x.cas, .int .u64 x.by_, .bool x.withCas, .bool x.withTouch, .bool x.down, .bool x.quiet], .int .i64 now, .int .u64 ver] w (Lined w mb g ⟨#[78, 79, 84, 95, 70, 79, 85, 78, 68]⟩ (M.mdel l key)) := by
  have hw0 := bel_refl w
  have hv := of_any x A n c _ ((hr.below (bel_alloc hw0 (.cells #[.string x.what, .string x.verb, .slice A n c, .string x.data, .int .u32 x.flags, .int .i64 x.exp, .int .u64 x.cas, .int .u64 x.by_, .bool x.withCas, .bool x.withTouch, .bool x.down, .bool x.quiet] 29)) (Nat.le_refl _)).more (by simp))
  rw [h1] at hv
  simp only [cV] at hv
  have HV := Lib.hid hv
  have HP : ∀ W, Below w.heap.size w W → Calls Tryd.prog 17 #[.agg #[.string x.what, .string x.verb, .slice A n c, .string x.data, .int .u32 x.flags, .int .i64 x.exp, .int .u64 x.cas, .int .u64 x.by_, .bool x.withCas, .bool x.withTouch, .bool x.down, .bool x.quiet]] W fun r w' => r = .returned (.bool (true)) ∧ Below W.heap.size W w' := fun W hW => by rw [← hg]; exact (good_any x A n c W ((hr.below hW (Nat.le_refl _)).more hW.size) (ht.bel hW))
  have HR := Lib.hid HP
  have H := Lib.hid h
  have HT := Lib.hid ht
  have HX := Lib.hid hx
  clear hx
  clear h ht hr h1 hv HP hg
  go_enter Tryd.func27, Tryd.ntmps27
  go_wp2_with (first
    | (go_at_call 29; refine HV.out.mono ?_; rintro e w1 ⟨A1, c1, rfl, _, hb1⟩; have hq := own_cell hb1; have hs1 := size_of hb1; have hw1 := bel_of hb1; clear hb1)
    | (go_at_call 17; refine (HR.out _ (by repeat (first | with_reducible exact hw3 | with_reducible exact hw2 | with_reducible exact hw1 | with_reducible exact hw0 | with_reducible apply bel_drew | with_reducible apply bel_alloc | (with_reducible refine Below.setCell ?_ ?_ _; rotate_left; · (first | (simp; done) | (simp; omega) | omega))))).mono ?_; rintro e w2 ⟨rfl, hb2⟩; have hs2 := size_of hb2; have hw2 := bel_trans hw1 (bel_of hb2); clear hb2)
    | (go_at_call 24; refine (mget_none mb g l key now _ (H.out.below (by repeat (first | with_reducible exact hw3 | with_reducible exact hw2 | with_reducible exact hw1 | with_reducible exact hw0 | with_reducible apply bel_drew | with_reducible apply bel_alloc | (with_reducible refine Below.setCell ?_ ?_ _; rotate_left; · (first | (simp; done) | (simp; omega) | omega))))) HX.out).mono ?_; rintro e w3 ⟨rfl, hb3⟩; have hq3 := own_cell hb3; have hs3 := size_of hb3; have hw3 := bel_trans hw2 (bel_of hb3); clear hb3)
    | (go_at_call 25; refine (mlose_any mb g l key _ (H.out.below (by repeat (first | with_reducible exact hw3 | with_reducible exact hw2 | with_reducible exact hw1 | with_reducible exact hw0 | with_reducible apply bel_drew | with_reducible apply bel_alloc | (with_reducible refine Below.setCell ?_ ?_ _; rotate_left; · (first | (simp; done) | (simp; omega) | omega)))))).mono ?_; rintro e w4 ⟨rfl, hm, hg⟩; have HM := Lib.hid hm; have HG := Lib.hid (gr_bel (w := w) (by repeat (first | with_reducible exact hw3 | with_reducible exact hw2 | with_reducible exact hw1 | with_reducible exact hw0 | with_reducible apply bel_drew | with_reducible apply bel_alloc | (with_reducible refine Below.setCell ?_ ?_ _; rotate_left; · (first | (simp; done) | (simp; omega) | omega)))) hg); clear hm hg)
    | (go_at_call 40; refine (mline_any _ _).mono ?_; rintro e w5 ⟨v, rfl, hrow, hb5⟩; have HL := Lib.hid (hrow.mono (w0 := w) (gr_size HG.out)); have HM5 := Lib.hid (HM.out.below hb5); have HG5 := Lib.hid (gr_after HG.out hb5); clear hrow hb5))
  go_ret
  exact ⟨v, rfl, HL.out, HM5.out, HG5.out⟩

set_option maxRecDepth 100000 in
set_option maxHeartbeats 4000000 in
theorem do_delete_some (mb g : Nat) (l : M.Mp) (x : M.Cmd) (A : Option Addr) (n c : Nat) (now ver : Int) (key : ByteArray) (q : Bool) (y : M.Item) (hx : M.mget l key now = some y) (w : World) (h : MapSt w mb g l) (ht : Tabs w) (hr : RdS w w.heap.size A n x.keys) (h1 : x.of = .delete key q) (hg : goodF x = true) :
    Calls Tryd.prog 27 #[.pointer (some ⟨mb, 0, none⟩), .agg #[.string x.what, .string x.verb, .slice A n c, .string x.data, .int .u32 x.flags, .int .i64 x.exp, .int .u64 x.cas, .int .u64 x.by_, .bool x.withCas, .bool x.withTouch, .bool x.down, .bool x.quiet], .int .i64 now, .int .u64 ver] w (Lined w mb g ⟨#[68, 69, 76, 69, 84, 69, 68]⟩ (M.mdel l key)) := by
  have hw0 := bel_refl w
  have hv := of_any x A n c _ ((hr.below (bel_alloc hw0 (.cells #[.string x.what, .string x.verb, .slice A n c, .string x.data, .int .u32 x.flags, .int .i64 x.exp, .int .u64 x.cas, .int .u64 x.by_, .bool x.withCas, .bool x.withTouch, .bool x.down, .bool x.quiet] 29)) (Nat.le_refl _)).more (by simp))
  rw [h1] at hv
  simp only [cV] at hv
  have HV := Lib.hid hv
  have HP : ∀ W, Below w.heap.size w W → Calls Tryd.prog 17 #[.agg #[.string x.what, .string x.verb, .slice A n c, .string x.data, .int .u32 x.flags, .int .i64 x.exp, .int .u64 x.cas, .int .u64 x.by_, .bool x.withCas, .bool x.withTouch, .bool x.down, .bool x.quiet]] W fun r w' => r = .returned (.bool (true)) ∧ Below W.heap.size W w' := fun W hW => by rw [← hg]; exact (good_any x A n c W ((hr.below hW (Nat.le_refl _)).more hW.size) (ht.bel hW))
  have HR := Lib.hid HP
  have H := Lib.hid h
  have HT := Lib.hid ht
  have HX := Lib.hid hx
  clear hx
  clear h ht hr h1 hv HP hg
  go_enter Tryd.func27, Tryd.ntmps27
  go_wp2_with (first
    | (go_at_call 29; refine HV.out.mono ?_; rintro e w1 ⟨A1, c1, rfl, _, hb1⟩; have hq := own_cell hb1; have hs1 := size_of hb1; have hw1 := bel_of hb1; clear hb1)
    | (go_at_call 17; refine (HR.out _ (by repeat (first | with_reducible exact hw3 | with_reducible exact hw2 | with_reducible exact hw1 | with_reducible exact hw0 | with_reducible apply bel_drew | with_reducible apply bel_alloc | (with_reducible refine Below.setCell ?_ ?_ _; rotate_left; · (first | (simp; done) | (simp; omega) | omega))))).mono ?_; rintro e w2 ⟨rfl, hb2⟩; have hs2 := size_of hb2; have hw2 := bel_trans hw1 (bel_of hb2); clear hb2)
    | (go_at_call 24; refine (mget_some mb g l key now y _ (H.out.below (by repeat (first | with_reducible exact hw3 | with_reducible exact hw2 | with_reducible exact hw1 | with_reducible exact hw0 | with_reducible apply bel_drew | with_reducible apply bel_alloc | (with_reducible refine Below.setCell ?_ ?_ _; rotate_left; · (first | (simp; done) | (simp; omega) | omega))))) HX.out).mono ?_; rintro e w3 ⟨rfl, hb3⟩; have hq3 := own_cell hb3; have hs3 := size_of hb3; have hw3 := bel_trans hw2 (bel_of hb3); clear hb3)
    | (go_at_call 25; refine (mlose_any mb g l key _ (H.out.below (by repeat (first | with_reducible exact hw3 | with_reducible exact hw2 | with_reducible exact hw1 | with_reducible exact hw0 | with_reducible apply bel_drew | with_reducible apply bel_alloc | (with_reducible refine Below.setCell ?_ ?_ _; rotate_left; · (first | (simp; done) | (simp; omega) | omega)))))).mono ?_; rintro e w4 ⟨rfl, hm, hg⟩; have HM := Lib.hid hm; have HG := Lib.hid (gr_bel (w := w) (by repeat (first | with_reducible exact hw3 | with_reducible exact hw2 | with_reducible exact hw1 | with_reducible exact hw0 | with_reducible apply bel_drew | with_reducible apply bel_alloc | (with_reducible refine Below.setCell ?_ ?_ _; rotate_left; · (first | (simp; done) | (simp; omega) | omega)))) hg); clear hm hg)
    | (go_at_call 40; refine (mline_any _ _).mono ?_; rintro e w5 ⟨v, rfl, hrow, hb5⟩; have HL := Lib.hid (hrow.mono (w0 := w) (gr_size HG.out)); have HM5 := Lib.hid (HM.out.below hb5); have HG5 := Lib.hid (gr_after HG.out hb5); clear hrow hb5))
  go_ret
  exact ⟨v, rfl, HL.out, HM5.out, HG5.out⟩

set_option maxRecDepth 100000 in
set_option maxHeartbeats 4000000 in
theorem do_flush_ok (mb g : Nat) (l : M.Mp) (x : M.Cmd) (A : Option Addr) (n c : Nat) (now ver : Int) (q : Bool) (w : World) (h : MapSt w mb g l) (ht : Tabs w) (hr : RdS w w.heap.size A n x.keys) (h1 : x.of = .flush q) (hg : goodF x = true) :
    Calls Tryd.prog 27 #[.pointer (some ⟨mb, 0, none⟩), .agg #[.string x.what, .string x.verb, .slice A n c, .string x.data, .int .u32 x.flags, .int .i64 x.exp, .int .u64 x.cas, .int .u64 x.by_, .bool x.withCas, .bool x.withTouch, .bool x.down, .bool x.quiet], .int .i64 now, .int .u64 ver] w (Lined w mb g ⟨#[79, 75]⟩ []) := by
  have hw0 := bel_refl w
  have hv := of_any x A n c _ ((hr.below (bel_alloc hw0 (.cells #[.string x.what, .string x.verb, .slice A n c, .string x.data, .int .u32 x.flags, .int .i64 x.exp, .int .u64 x.cas, .int .u64 x.by_, .bool x.withCas, .bool x.withTouch, .bool x.down, .bool x.quiet] 29)) (Nat.le_refl _)).more (by simp))
  rw [h1] at hv
  simp only [cV] at hv
  have HV := Lib.hid hv
  have HP : ∀ W, Below w.heap.size w W → Calls Tryd.prog 17 #[.agg #[.string x.what, .string x.verb, .slice A n c, .string x.data, .int .u32 x.flags, .int .i64 x.exp, .int .u64 x.cas, .int .u64 x.by_, .bool x.withCas, .bool x.withTouch, .bool x.down, .bool x.quiet]] W fun r w' => r = .returned (.bool (true)) ∧ Below W.heap.size W w' := fun W hW => by rw [← hg]; exact (good_any x A n c W ((hr.below hW (Nat.le_refl _)).more hW.size) (ht.bel hW))
  have HR := Lib.hid HP
  have H := Lib.hid h
  have HT := Lib.hid ht
  clear h ht hr h1 hv HP hg
  go_enter Tryd.func27, Tryd.ntmps27
  go_upto_region 39 with (first
    | (go_at_call 29; refine HV.out.mono ?_; rintro e w1 ⟨A1, c1, rfl, _, hb1⟩; have hq := own_cell hb1; have hs1 := size_of hb1; have hw1 := bel_of hb1; clear hb1)
    | (go_at_call 17; refine (HR.out _ (by repeat (first | with_reducible exact hw3 | with_reducible exact hw2 | with_reducible exact hw1 | with_reducible exact hw0 | with_reducible apply bel_drew | with_reducible apply bel_alloc | (with_reducible refine Below.setCell ?_ ?_ _; rotate_left; · (first | (simp; done) | (simp; omega) | omega))))).mono ?_; rintro e w2 ⟨rfl, hb2⟩; have hs2 := size_of hb2; have hw2 := bel_trans hw1 (bel_of hb2); clear hb2))
  have hw4 : Below w.heap.size w (w2.alloc (.cells #[.bool q] 80)) := bel_alloc hw2 _
  obtain ⟨w4, hrun, ha, hg⟩ := run_mclear (w2.alloc (.cells #[.bool q] 80)) g l (H.out.below hw4).at_
  have hc := (H.out.below hw4).cell
  have hgg := gr_bel hw4 hg
  have HM := Lib.hid (H.out.grown hgg ha)
  have HG := Lib.hid hgg
  clear ha hg hgg
  go_wp2_with (first
    | (go_at_call 40; refine (mline_any _ _).mono ?_; rintro e w5 ⟨v, rfl, hrow, hb5⟩; have HL := Lib.hid (hrow.mono (w0 := w) (gr_size HG.out)); have HM5 := Lib.hid (HM.out.below hb5); have HG5 := Lib.hid (gr_after HG.out hb5); clear hrow hb5))
  go_ret
  exact ⟨v, rfl, HL.out, HM5.out, HG5.out⟩

set_option maxRecDepth 100000 in
set_option maxHeartbeats 4000000 in
theorem do_word_ver (mb g : Nat) (l : M.Mp) (x : M.Cmd) (A : Option Addr) (n c : Nat) (now ver : Int) (name : ByteArray) (hq : (name.toList == [113, 117, 105, 116]) = false) (w : World) (h : MapSt w mb g l) (ht : Tabs w) (hr : RdS w w.heap.size A n x.keys) (h1 : x.of = .word name) (hg : goodF x = true) :
    Calls Tryd.prog 27 #[.pointer (some ⟨mb, 0, none⟩), .agg #[.string x.what, .string x.verb, .slice A n c, .string x.data, .int .u32 x.flags, .int .i64 x.exp, .int .u64 x.cas, .int .u64 x.by_, .bool x.withCas, .bool x.withTouch, .bool x.down, .bool x.quiet], .int .i64 now, .int .u64 ver] w (Lined w mb g ⟨#[86, 69, 82, 83, 73, 79, 78, 32, 99, 101, 108, 108, 97, 114, 101, 116]⟩ l) := by
  have hw0 := bel_refl w
  have hv := of_any x A n c _ ((hr.below (bel_alloc hw0 (.cells #[.string x.what, .string x.verb, .slice A n c, .string x.data, .int .u32 x.flags, .int .i64 x.exp, .int .u64 x.cas, .int .u64 x.by_, .bool x.withCas, .bool x.withTouch, .bool x.down, .bool x.quiet] 29)) (Nat.le_refl _)).more (by simp))
  rw [h1] at hv
  simp only [cV] at hv
  have HV := Lib.hid hv
  have HP : ∀ W, Below w.heap.size w W → Calls Tryd.prog 17 #[.agg #[.string x.what, .string x.verb, .slice A n c, .string x.data, .int .u32 x.flags, .int .i64 x.exp, .int .u64 x.cas, .int .u64 x.by_, .bool x.withCas, .bool x.withTouch, .bool x.down, .bool x.quiet]] W fun r w' => r = .returned (.bool (true)) ∧ Below W.heap.size W w' := fun W hW => by rw [← hg]; exact (good_any x A n c W ((hr.below hW (Nat.le_refl _)).more hW.size) (ht.bel hW))
  have HR := Lib.hid HP
  have H := Lib.hid h
  have HT := Lib.hid ht
  clear h ht hr h1 hv HP hg
  go_enter Tryd.func27, Tryd.ntmps27
  go_wp2_with (first
    | (go_at_call 29; refine HV.out.mono ?_; rintro e w1 ⟨A1, c1, rfl, _, hb1⟩; have hq0 := own_cell hb1; have hs1 := size_of hb1; have hw1 := bel_of hb1; clear hb1)
    | (go_at_call 17; refine (HR.out _ (by repeat (first | with_reducible exact hw3 | with_reducible exact hw2 | with_reducible exact hw1 | with_reducible exact hw0 | with_reducible apply bel_drew | with_reducible apply bel_alloc | (with_reducible refine Below.setCell ?_ ?_ _; rotate_left; · (first | (simp; done) | (simp; omega) | omega))))).mono ?_; rintro e w2 ⟨rfl, hb2⟩; have hs2 := size_of hb2; have hw2 := bel_trans hw1 (bel_of hb2); clear hb2)
    | (go_at_call 40; refine (mline_any _ _).mono ?_; rintro e w4 ⟨v, rfl, hrow, hb4⟩; have HL := Lib.hid (row_bel (w := w) hrow (by repeat (first | with_reducible exact hw3 | with_reducible exact hw2 | with_reducible exact hw1 | with_reducible exact hw0 | with_reducible apply bel_drew | with_reducible apply bel_alloc | (with_reducible refine Below.setCell ?_ ?_ _; rotate_left; · (first | (simp; done) | (simp; omega) | omega))))); have hw4 : Below w.heap.size w w4 := bel_trans (by repeat (first | with_reducible exact hw3 | with_reducible exact hw2 | with_reducible exact hw1 | with_reducible exact hw0 | with_reducible apply bel_drew | with_reducible apply bel_alloc | (with_reducible refine Below.setCell ?_ ?_ _; rotate_left; · (first | (simp; done) | (simp; omega) | omega)))) hb4; clear hrow hb4))
  go_ret
  exact ⟨v, rfl, HL.out, H.out.below hw4, gr_of hw4⟩

set_option maxRecDepth 100000 in
set_option maxHeartbeats 4000000 in
theorem do_word_quit (mb g : Nat) (l : M.Mp) (x : M.Cmd) (A : Option Addr) (n c : Nat) (now ver : Int) (w : World) (h : MapSt w mb g l) (ht : Tabs w) (hr : RdS w w.heap.size A n x.keys) (h1 : x.of = .word ⟨#[113, 117, 105, 116]⟩) (hg : goodF x = true) :
    Calls Tryd.prog 27 #[.pointer (some ⟨mb, 0, none⟩), .agg #[.string x.what, .string x.verb, .slice A n c, .string x.data, .int .u32 x.flags, .int .i64 x.exp, .int .u64 x.cas, .int .u64 x.by_, .bool x.withCas, .bool x.withTouch, .bool x.down, .bool x.quiet], .int .i64 now, .int .u64 ver] w (fun e w' => e = .returned (.slice none 0 0) ∧ MapSt w' mb g l ∧ w.grownBy w' (some g)) := by
  have hw0 := bel_refl w
  have hv := of_any x A n c _ ((hr.below (bel_alloc hw0 (.cells #[.string x.what, .string x.verb, .slice A n c, .string x.data, .int .u32 x.flags, .int .i64 x.exp, .int .u64 x.cas, .int .u64 x.by_, .bool x.withCas, .bool x.withTouch, .bool x.down, .bool x.quiet] 29)) (Nat.le_refl _)).more (by simp))
  rw [h1] at hv
  simp only [cV] at hv
  have HV := Lib.hid hv
  have HP : ∀ W, Below w.heap.size w W → Calls Tryd.prog 17 #[.agg #[.string x.what, .string x.verb, .slice A n c, .string x.data, .int .u32 x.flags, .int .i64 x.exp, .int .u64 x.cas, .int .u64 x.by_, .bool x.withCas, .bool x.withTouch, .bool x.down, .bool x.quiet]] W fun r w' => r = .returned (.bool (true)) ∧ Below W.heap.size W w' := fun W hW => by rw [← hg]; exact (good_any x A n c W ((hr.below hW (Nat.le_refl _)).more hW.size) (ht.bel hW))
  have HR := Lib.hid HP
  have H := Lib.hid h
  have HT := Lib.hid ht
  clear h ht hr h1 hv HP hg
  go_enter Tryd.func27, Tryd.ntmps27
  go_wp2_with (first
    | (go_at_call 29; refine HV.out.mono ?_; rintro e w1 ⟨A1, c1, rfl, _, hb1⟩; have hq := own_cell hb1; have hs1 := size_of hb1; have hw1 := bel_of hb1; clear hb1)
    | (go_at_call 17; refine (HR.out _ (by repeat (first | with_reducible exact hw3 | with_reducible exact hw2 | with_reducible exact hw1 | with_reducible exact hw0 | with_reducible apply bel_drew | with_reducible apply bel_alloc | (with_reducible refine Below.setCell ?_ ?_ _; rotate_left; · (first | (simp; done) | (simp; omega) | omega))))).mono ?_; rintro e w2 ⟨rfl, hb2⟩; have hs2 := size_of hb2; have hw2 := bel_trans hw1 (bel_of hb2); clear hb2))
  go_ret
  have hw4 : Below w.heap.size w (w2.alloc (.cells #[.string ⟨#[113, 117, 105, 116]⟩] 77)) := bel_alloc hw2 _
  exact ⟨rfl, H.out.below hw4, gr_of hw4⟩

end Go.Proofs.YtbhnmaghnnpboaaDoor
/- model.Map: Do, whole, of a command that is no Get. -/
namespace Go.Proofs.YtbhnmaghnnpboaaDoor
open Go.RowKit

/-- No value is longer than it may be. -/
def Small (l : M.Mp) : Prop := ∀ p ∈ l, p.2.val.size ≤ 1024
/-- The numbers of a command lie in their types. -/
structure CmdOk (x : M.Cmd) : Prop where
  exp : I64 x.exp
  by_ : 0 ≤ x.by_ ∧ x.by_ < 18446744073709551616
  cas : 0 ≤ x.cas ∧ x.cas < 18446744073709551616

theorem look_mem : ∀ (l : M.Mp) (k : ByteArray) (y : M.Item), M.look l k = some y → ∃ p ∈ l, p.1 = k ∧ p.2 = y
  | p :: l, k, y, h => by
    unfold M.look at h
    split at h
    · rename_i hk
      exact ⟨p, List.mem_cons_self, hk, by injection h⟩
    · obtain ⟨q, hq, h2⟩ := look_mem l k y h
      exact ⟨q, List.mem_cons_of_mem _ hq, h2⟩
theorem mget_look {l : M.Mp} {k : ByteArray} {now : Int} {y : M.Item} (h : M.mget l k now = some y) : M.look l k = some y := by
  unfold M.mget at h
  split at h
  · cases h
  · split at h
    · cases h
    · rename_i x hx _; rw [hx]; exact h

theorem do_any (mb g : Nat) (l : M.Mp) (x : M.Cmd) (A : Option Addr) (n c : Nat) (now ver : Int) (w : World) (h : MapSt w mb g l) (ht : Tabs w) (hr : RdS w w.heap.size A n x.keys) (hg : x.what ≠ M.sGet) (hx : CmdOk x) (hn : I64 now) (hl : Small l) :
    Calls Tryd.prog 27 #[.pointer (some ⟨mb, 0, none⟩), .agg #[.string x.what, .string x.verb, .slice A n c, .string x.data, .int .u32 x.flags, .int .i64 x.exp, .int .u64 x.cas, .int .u64 x.by_, .bool x.withCas, .bool x.withTouch, .bool x.down, .bool x.quiet], .int .i64 now, .int .u64 ver] w (Dod w mb g (doF l x now ver)) := by
  have hb : ∀ (key data : ByteArray), data.size ≤ 1024 → ∀ y, M.mget l key now = some y → y.val.size + data.size ≤ 9223372036854775807 := fun key data hd y hy => by
    obtain ⟨p, hp, _, rfl⟩ := look_mem l key y (mget_look hy)
    have := hl p hp
    omega
  rcases what_of x with ⟨h0, _⟩ | ⟨_, h1⟩ | ⟨_, h1⟩ | ⟨_, h1⟩ | ⟨_, h1⟩ | ⟨_, h1⟩ | ⟨_, h1⟩ | ⟨_, h1⟩ | ⟨_, h1⟩
  · exact absurd h0 hg
  · cases hG : goodF x with
    | false =>
      rw [show doF l x now ver = (some M.tERR, l) by unfold doF; rw [h1]; simp [hG]]
      exact do_store_not mb g l x A n c now ver _ _ _ _ _ _ _ w h ht hr h1 hG
    | true =>
      rw [show doF l x now ver = (some (M.store l x.verb (M.first x.keys) x.data x.flags x.exp x.cas now ver).1, (M.store l x.verb (M.first x.keys) x.data x.flags x.exp x.cas now ver).2) by unfold doF; rw [h1]; simp [hG]]
      have hv : verbIn x.verb = true ∧ x.data.size ≤ 1024 := by
        unfold goodF at hG
        rw [h1] at hG
        simp only [Bool.and_eq_true, decide_eq_true_eq] at hG
        exact hG.1
      exact do_store_ok mb g l x A n c now ver _ _ _ _ _ _ _ hv.1 hx.exp hn (hb _ _ hv.2) w h ht hr h1 hG
  · cases hG : goodF x with
    | false =>
      rw [show doF l x now ver = (some M.tERR, l) by unfold doF; rw [h1]; simp [hG]]
      exact do_arith_not mb g l x A n c now ver _ _ _ _ w h ht hr h1 hG
    | true =>
      rw [show doF l x now ver = (some (arithF l (M.first x.keys) x.by_ x.down now ver).1, (arithF l (M.first x.keys) x.by_ x.down now ver).2) by unfold doF; rw [h1]; simp [hG]]
      exact do_arith_ok mb g l x A n c now ver _ _ _ _ hx.by_ w h ht hr h1 hG
  · cases hG : goodF x with
    | false =>
      rw [show doF l x now ver = (some M.tERR, l) by unfold doF; rw [h1]; simp [hG]]
      exact do_touch_not mb g l x A n c now ver _ _ _ w h ht hr h1 hG
    | true =>
      cases hm : M.mget l (M.first x.keys) now with
      | none =>
        rw [show doF l x now ver = (some M.tNF, l) by unfold doF; rw [h1]; simp [hG, hm]]
        exact do_touch_none mb g l x A n c now ver _ _ _ hm w h ht hr h1 hG
      | some y =>
        rw [show doF l x now ver = (some M.tTOUCHED, M.mset l y.key { y with exp := M.time x.exp now, ver := ver }) by unfold doF; rw [h1]; simp [hG, hm]]
        exact do_touch_some mb g l x A n c now ver _ _ _ y hm hx.exp hn w h ht hr h1 hG
  · cases hG : goodF x with
    | false =>
      rw [show doF l x now ver = (some M.tERR, l) by unfold doF; rw [h1]; simp [hG]]
      exact do_delete_not mb g l x A n c now ver _ _ w h ht hr h1 hG
    | true =>
      cases hm : M.mget l (M.first x.keys) now with
      | none =>
        rw [show doF l x now ver = (some M.tNF, M.mdel l (M.first x.keys)) by unfold doF; rw [h1]; simp [hG, hm]]
        exact do_delete_none mb g l x A n c now ver _ _ hm w h ht hr h1 hG
      | some y =>
        rw [show doF l x now ver = (some M.tDELETED, M.mdel l (M.first x.keys)) by unfold doF; rw [h1]; simp [hG, hm]]
        exact do_delete_some mb g l x A n c now ver _ _ y hm w h ht hr h1 hG
  · cases hG : goodF x with
    | false =>
      rw [show doF l x now ver = (some M.tERR, l) by unfold doF; rw [h1]; simp [hG]]
      exact do_flush_not mb g l x A n c now ver _ w h ht hr h1 hG
    | true =>
      rw [show doF l x now ver = (some M.tOK, []) by unfold doF; rw [h1]; simp [hG]]
      exact do_flush_ok mb g l x A n c now ver _ w h ht hr h1 hG
  · rw [show doF l x now ver = (some x.verb, l) by unfold doF; rw [h1]]
    exact do_bad mb g l x A n c now ver _ w h ht hr h1
  · cases hG : goodF x with
    | false =>
      rw [show doF l x now ver = (some M.tERR, l) by unfold doF; rw [h1]; simp [hG]]
      exact do_word_not mb g l x A n c now ver _ w h ht hr h1 hG
    | true =>
      by_cases hq : x.verb = ⟨#[113, 117, 105, 116]⟩
      · rw [show doF l x now ver = (none, l) by unfold doF; rw [h1]; simp [hG, hq]]
        rw [hq] at h1
        exact do_word_quit mb g l x A n c now ver w h ht hr h1 hG
      · rw [show doF l x now ver = (some M.tVER, l) by unfold doF; rw [h1]; simp [hG, hq]]
        exact do_word_ver mb g l x A n c now ver _ (toList_ne hq (by rw [ByteArray.toList_eq])) w h ht hr h1 hG
  · cases hG : goodF x with
    | false =>
      rw [show doF l x now ver = (some M.tERR, l) by unfold doF; rw [h1]]
      exact do_none_not mb g l x A n c now ver w h ht hr h1 hG
    | true => unfold goodF at hG; rw [h1] at hG; cases hG
end Go.Proofs.YtbhnmaghnnpboaaDoor
/- lossy: text, absent, changes. -/
namespace Go.Proofs.YtbhnmaghnnpboaaDoor
open Go.RowKit
attribute [local go_sem ↓] Go.wp_at_zero Go.wp_at_succ

/-- The answers that a slice reads. -/
def RdA (w : World) (B : Nat) (A : Option Addr) (n : Nat) (l : List M.Ans) : Prop :=
  l.length = n ∧ (0 < n → ∃ b off, A = some ⟨b, off, none⟩ ∧ b < B ∧ ∀ j, j < n → ∀ k, k < 7 → w.cell? ⟨b, off + j * 7 + k, none⟩ = (ansCells (l.getD j default))[k]?)

theorem RdA.below {w w' : World} {B B' : Nat} {A : Option Addr} {n : Nat} {l : List M.Ans} (h : RdA w B A n l) (hb : Below B' w w') (hB : B ≤ B') : RdA w' B A n l := by
  refine ⟨h.1, fun hn => ?_⟩
  obtain ⟨b, off, hA, hlt, hc⟩ := h.2 hn
  exact ⟨b, off, hA, hlt, fun j hj k hk => (hb.cell (p := ⟨b, off + j * 7 + k, none⟩) (by show b < B'; omega)).trans (hc j hj k hk)⟩
theorem RdA.more {w : World} {B B' : Nat} {A : Option Addr} {n : Nat} {l : List M.Ans} (h : RdA w B A n l) (hB : B ≤ B') : RdA w B' A n l := by
  refine ⟨h.1, fun hn => ?_⟩
  obtain ⟨b, off, hA, hlt, hc⟩ := h.2 hn
  exact ⟨b, off, hA, by omega, hc⟩
/-- What one line reads. -/
theorem RdA.of_row {w0 w : World} {v : Value} {a : M.Ans} (h : Row1 w0 w v 1 46 (ansCells a).toArray) : ∃ A, v = .slice A 1 1 ∧ RdA w w.heap.size A 1 [a] := by
  obtain ⟨g, rfl, _, hg, hh⟩ := h
  refine ⟨_, rfl, rfl, fun _ => ⟨g, 0, rfl, hg, fun j hj k hk => ?_⟩⟩
  obtain rfl : j = 0 := by omega
  rw [cell_of_row w g _ _ 46 (0, 0) hh]
  simp

/-- The text of one line; false: these are not one line. -/
def textF (l : List M.Ans) : ByteArray × Bool :=
  match l with
  | [a] => if a.v then (⟨#[]⟩, false) else (a.text, true)
  | _ => (⟨#[]⟩, false)

set_option maxRecDepth 100000 in
theorem text_many (A : Option Addr) (n c : Nat) (w : World) (h : n ≠ 1) :
    Calls Tryd.prog 54 #[.slice A n c] w fun e w' => e = .returned (.tuple #[.string ⟨#[]⟩, .bool false]) ∧ Below w.heap.size w w' := by
  have h1 : ((n : Int) == 1) = false := by simp; omega
  have h2 : ((n : Int) != 1) = true := by simp; omega
  clear h
  go_enter Tryd.func54, Tryd.ntmps54
  go_wp2_with fail
  refine bodyPost_ret (v := .tuple #[.string ⟨#[]⟩, .bool false]) (by simp [results, Tryd.results54, go_sem]) rfl ⟨rfl, bel_refl _⟩

theorem text_one (b off c : Nat) (v : Bool) (t : ByteArray) (w : World) (h0 : w.cell? ⟨b, off, none⟩ = some (.bool v)) (h3 : w.cell? ⟨b, off + 3, none⟩ = some (.string t)) :
    Calls Tryd.prog 54 #[.slice (some ⟨b, off, none⟩) 1 c] w fun e w' => e = .returned (if v then .tuple #[.string ⟨#[]⟩, .bool false] else .tuple #[.string t, .bool true]) ∧ Below w.heap.size w w' := by
  cases v
  · go_enter Tryd.func54, Tryd.ntmps54
    go_wp2_with fail
    refine bodyPost_ret (v := .tuple #[.string t, .bool true]) (by simp [results, Tryd.results54, go_sem]) rfl ⟨rfl, bel_refl _⟩
  · go_enter Tryd.func54, Tryd.ntmps54
    go_wp2_with fail
    refine bodyPost_ret (v := .tuple #[.string ⟨#[]⟩, .bool false]) (by simp [results, Tryd.results54, go_sem]) rfl ⟨rfl, bel_refl _⟩

theorem text_any_l (A : Option Addr) (n c : Nat) (l : List M.Ans) (w : World) (h : RdA w w.heap.size A n l) :
    Calls Tryd.prog 54 #[.slice A n c] w fun e w' => e = .returned (.tuple #[.string (textF l).1, .bool (textF l).2]) ∧ Below w.heap.size w w' := by
  obtain ⟨hl, hr⟩ := h
  by_cases hn : n = 1
  · subst hn
    obtain ⟨b, off, rfl, _, hc⟩ := hr (by decide)
    match l, hl with
    | [a], _ =>
      have h0 := hc 0 (by decide) 0 (by decide)
      have h3 := hc 0 (by decide) 3 (by decide)
      refine (text_one b off c a.v a.text w h0 h3).mono ?_
      rintro e w' ⟨he, hb⟩
      refine ⟨?_, hb⟩
      rw [he]
      cases hv : a.v <;> simp [textF, hv]
  · refine (text_many A n c w hn).mono ?_
    rintro e w' ⟨he, hb⟩
    refine ⟨?_, hb⟩
    rw [he]
    unfold textF
    match l, hl with
    | [], _ => rfl
    | [_], hl => exact absurd hl.symm hn
    | _ :: _ :: _, _ => rfl

def eqs (a : ByteArray) (l : List UInt8) : Bool := a.toList == l
def bAdd : List UInt8 := [97, 100, 100]
def bStored : List UInt8 := [83, 84, 79, 82, 69, 68]
def bNot : List UInt8 := [78, 79, 84, 95, 83, 84, 79, 82, 69, 68]
def bNone : List UInt8 := [78, 79, 84, 95, 70, 79, 85, 78, 68]
def bTouched : List UInt8 := [84, 79, 85, 67, 72, 69, 68]
/-- Does an answer say that the key was not there? -/
def absentF (c : M.C) (told : ByteArray) : Bool :=
  match c with
  | .store verb _ _ _ _ _ _ => (eqs verb bAdd && eqs told bStored) || (eqs told bNot && !eqs verb bAdd) || eqs told bNone
  | _ => eqs told bNone

set_option maxHeartbeats 2000000 in
theorem absent_store (verb key data : ByteArray) (flags exp cas : Int) (q : Bool) (told : ByteArray) (w : World) :
    Calls Tryd.prog 55 #[.iface 83 (.agg #[.string verb, .string key, .string data, .int .u32 flags, .int .i64 exp, .int .u64 cas, .bool q]), .string told] w
      fun e w' => e = .returned (.bool ((eqs verb bAdd && eqs told bStored) || (eqs told bNot && !eqs verb bAdd) || eqs told bNone)) ∧ Below w.heap.size w w' := by
  cases h1 : verb.toList == [97, 100, 100] <;> cases h2 : told.toList == [83, 84, 79, 82, 69, 68] <;> cases h3 : told.toList == [78, 79, 84, 95, 83, 84, 79, 82, 69, 68] <;> cases h4 : told.toList == [78, 79, 84, 95, 70, 79, 85, 78, 68]
  all_goals
    simp only [eqs, bAdd, bStored, bNot, bNone, h1, h2, h3, h4, Bool.and_true, Bool.and_false, Bool.or_true, Bool.or_false,Bool.not_true, Bool.not_false]
    go_enter Tryd.func55, Tryd.ntmps55
    go_wp2_with fail
    go_ret
    exact ⟨rfl, bel_alloc (bel_refl _) _⟩

set_option maxHeartbeats 2000000 in
theorem absent_any (K : Value) (c : M.C) (told : ByteArray) (w : World) :
    Calls Tryd.prog 55 #[cV K c, .string told] w fun e w' => e = .returned (.bool (absentF c told)) ∧ Below w.heap.size w w' := by
  cases c with
  | store verb key data flags exp cas q => exact absent_store verb key data flags exp cas q told w
  | _ =>
    simp only [cV, absentF]
    cases h4 : told.toList == [78, 79, 84, 95, 70, 79, 85, 78, 68]
    all_goals
      simp only [eqs, bNone, h4]
      go_enter Tryd.func55, Tryd.ntmps55
      go_wp2_with fail
      go_ret
      exact ⟨rfl, bel_alloc (bel_refl _) _⟩
end Go.Proofs.YtbhnmaghnnpboaaDoor

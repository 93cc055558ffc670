/- model.Map: store: add, replace, set. -/
import Derived.Test.YtbhnmaghnnpboaaDoorZe

namespace Go.Proofs.YtbhnmaghnnpboaaDoor
open Go.RowKit
attribute [local go_sem ↓] Go.wp_at_zero Go.wp_at_succ

def lineCells (t : ByteArray) : Array Value := #[.bool false, .string ⟨#[]⟩, .string ⟨#[]⟩, .string t, .int .u32 0, .int .u64 0, .bool false]
/-- What a call that answers one line leaves. -/
def Lined (w : World) (mb g : Nat) (t : ByteArray) (l' : M.Mp) (e : Ending) (w' : World) : Prop := ∃ v, e = .returned v ∧ Row1 w w' v 1 46 (lineCells t) ∧ MapSt w' mb g l' ∧ w.grownBy w' (some g)
theorem gr_size {w w1 : World} {row : Option Nat} (h : w.grownBy w1 row) : w.heap.size ≤ w1.heap.size := h.size
theorem ba_app_size (a b : ByteArray) : (a ++ b).size = a.size + b.size := ByteArray.size_append

set_option maxRecDepth 100000 in
set_option maxHeartbeats 4000000 in
theorem store_add_some (mb g : Nat) (l : M.Mp) (key data : ByteArray) (flags exp cas : Int) (q : Bool) (now ver : Int) (y : M.Item) (w : World) (h : MapSt w mb g l) (hx : M.mget l key now = some y) (he : I64 exp) (hn : I64 now) :
    Calls Tryd.prog 42 #[.pointer (some ⟨mb, 0, none⟩), .agg #[.string ⟨#[97, 100, 100]⟩, .string key, .string data, .int .u32 flags, .int .i64 exp, .int .u64 cas, .bool q], .int .i64 now, .int .u64 ver] w (Lined w mb g ⟨#[78, 79, 84, 95, 83, 84, 79, 82, 69, 68]⟩ (l)) := by
  have HC := Lib.hid (mget_some mb g l key now y _ (h.below (bel_alloc (bel_refl w) (.cells #[.string ⟨#[97, 100, 100]⟩, .string key, .string data, .int .u32 flags, .int .i64 exp, .int .u64 cas, .bool q] 83))) hx)
  have H := Lib.hid h
  have HE := Lib.hid he
  have HN := Lib.hid hn
  clear h hx he hn
  go_enter Tryd.func42, Tryd.ntmps42
  go_wp2_with (go_at_call 24; refine HC.out.mono ?_; rintro e w1 ⟨rfl, hb1⟩; have hq := own_cell hb1; have hs1 := size_of hb1; have hw := bel_of hb1; have H1 := Lib.hid (H.out.below hw); clear hb1)
  go_region_held3 (fun w' => w'.cell? ⟨w.heap.size, 1, none⟩ = some (.string key) ∧ w'.cell? ⟨w.heap.size, 2, none⟩ = some (.string data) ∧ w'.cell? ⟨w.heap.size, 3, none⟩ = some (.int .u32 flags) ∧ w'.cell? ⟨w.heap.size, 4, none⟩ = some (.int .i64 exp)) (first | (go_keep; done) | (simp [go_sem]; done) | (simp [*, go_sem]; done)) (first | (go_at_call 44; refine (time_any exp now HE.out.1 HE.out.2 HN.out.1 HN.out.2 _).mono ?_; rintro e w2 ⟨rfl, rfl⟩))
  all_goals
    go_wp2_with (first | (go_at_call 40; refine (mline_any _ _).mono ?_; rintro e w3 ⟨v, rfl, hrow, hb3⟩; have HR := Lib.hid hrow; have hb4 : Below w.heap.size w w3 := bel_trans ((by repeat (first | with_reducible exact hw | with_reducible exact HW.out | with_reducible apply bel_drew | with_reducible apply bel_alloc | (with_reducible refine Below.setCell ?_ ?_ _; rotate_left; · (first | (simp; done) | (simp; omega) | omega))))) hb3; have hs4 := hb4.size; clear hrow hb3))
    go_ret
    exact ⟨v, rfl, HR.out.mono (by simp; omega), H.out.below hb4, gr_of hb4⟩

set_option maxRecDepth 100000 in
set_option maxHeartbeats 4000000 in
theorem store_add_none (mb g : Nat) (l : M.Mp) (key data : ByteArray) (flags exp cas : Int) (q : Bool) (now ver : Int) (w : World) (h : MapSt w mb g l) (hx : M.mget l key now = none) (he : I64 exp) (hn : I64 now) :
    Calls Tryd.prog 42 #[.pointer (some ⟨mb, 0, none⟩), .agg #[.string ⟨#[97, 100, 100]⟩, .string key, .string data, .int .u32 flags, .int .i64 exp, .int .u64 cas, .bool q], .int .i64 now, .int .u64 ver] w (Lined w mb g ⟨#[83, 84, 79, 82, 69, 68]⟩ (M.mset l key ⟨key, data, flags, M.time exp now, ver⟩)) := by
  have HC := Lib.hid (mget_none mb g l key now _ (h.below (bel_alloc (bel_refl w) (.cells #[.string ⟨#[97, 100, 100]⟩, .string key, .string data, .int .u32 flags, .int .i64 exp, .int .u64 cas, .bool q] 83))) hx)
  have H := Lib.hid h
  have HE := Lib.hid he
  have HN := Lib.hid hn
  clear h hx he hn
  go_enter Tryd.func42, Tryd.ntmps42
  go_wp2_with (go_at_call 24; refine HC.out.mono ?_; rintro e w1 ⟨rfl, hb1⟩; have hq := own_cell hb1; have hs1 := size_of hb1; have hw := bel_of hb1; have H1 := Lib.hid (H.out.below hw); clear hb1)
  go_region_held3 (fun w' => w'.cell? ⟨w.heap.size, 1, none⟩ = some (.string key) ∧ w'.cell? ⟨w.heap.size, 2, none⟩ = some (.string data) ∧ w'.cell? ⟨w.heap.size, 3, none⟩ = some (.int .u32 flags) ∧ w'.cell? ⟨w.heap.size, 4, none⟩ = some (.int .i64 exp)) (first | (go_keep; done) | (simp [go_sem]; done) | (simp [*, go_sem]; done)) (first | (go_at_call 44; refine (time_any exp now HE.out.1 HE.out.2 HN.out.1 HN.out.2 _).mono ?_; rintro e w2 ⟨rfl, rfl⟩))
  all_goals
    go_wp2_with (first | (go_at_call 45; refine (mset_any mb g l ⟨_, _, _, _, _⟩ ver _ _ (H.out.below (by repeat (first | with_reducible exact hw | with_reducible exact HW.out | with_reducible apply bel_drew | with_reducible apply bel_alloc | (with_reducible refine Below.setCell ?_ ?_ _; rotate_left; · (first | (simp; done) | (simp; omega) | omega)))))).mono ?_; rintro e w3 ⟨v, rfl, hrow, hm, hg⟩; have HR := Lib.hid hrow; have HM := Lib.hid hm; have HG := Lib.hid (gr_bel ((by repeat (first | with_reducible exact hw | with_reducible exact HW.out | with_reducible apply bel_drew | with_reducible apply bel_alloc | (with_reducible refine Below.setCell ?_ ?_ _; rotate_left; · (first | (simp; done) | (simp; omega) | omega))))) hg); clear hrow hm hg))
    go_ret
    exact ⟨v, rfl, HR.out.mono (by simp; omega), HM.out, HG.out⟩

set_option maxRecDepth 100000 in
set_option maxHeartbeats 4000000 in
theorem store_replace_some (mb g : Nat) (l : M.Mp) (key data : ByteArray) (flags exp cas : Int) (q : Bool) (now ver : Int) (y : M.Item) (w : World) (h : MapSt w mb g l) (hx : M.mget l key now = some y) (he : I64 exp) (hn : I64 now) :
    Calls Tryd.prog 42 #[.pointer (some ⟨mb, 0, none⟩), .agg #[.string ⟨#[114, 101, 112, 108, 97, 99, 101]⟩, .string key, .string data, .int .u32 flags, .int .i64 exp, .int .u64 cas, .bool q], .int .i64 now, .int .u64 ver] w (Lined w mb g ⟨#[83, 84, 79, 82, 69, 68]⟩ (M.mset l key ⟨key, data, flags, M.time exp now, ver⟩)) := by
  have HC := Lib.hid (mget_some mb g l key now y _ (h.below (bel_alloc (bel_refl w) (.cells #[.string ⟨#[114, 101, 112, 108, 97, 99, 101]⟩, .string key, .string data, .int .u32 flags, .int .i64 exp, .int .u64 cas, .bool q] 83))) hx)
  have H := Lib.hid h
  have HE := Lib.hid he
  have HN := Lib.hid hn
  clear h hx he hn
  go_enter Tryd.func42, Tryd.ntmps42
  go_wp2_with (go_at_call 24; refine HC.out.mono ?_; rintro e w1 ⟨rfl, hb1⟩; have hq := own_cell hb1; have hs1 := size_of hb1; have hw := bel_of hb1; have H1 := Lib.hid (H.out.below hw); clear hb1)
  go_region_held3 (fun w' => w'.cell? ⟨w.heap.size, 1, none⟩ = some (.string key) ∧ w'.cell? ⟨w.heap.size, 2, none⟩ = some (.string data) ∧ w'.cell? ⟨w.heap.size, 3, none⟩ = some (.int .u32 flags) ∧ w'.cell? ⟨w.heap.size, 4, none⟩ = some (.int .i64 exp)) (first | (go_keep; done) | (simp [go_sem]; done) | (simp [*, go_sem]; done)) (first | (go_at_call 44; refine (time_any exp now HE.out.1 HE.out.2 HN.out.1 HN.out.2 _).mono ?_; rintro e w2 ⟨rfl, rfl⟩))
  all_goals
    go_wp2_with (first | (go_at_call 45; refine (mset_any mb g l ⟨_, _, _, _, _⟩ ver _ _ (H.out.below (by repeat (first | with_reducible exact hw | with_reducible exact HW.out | with_reducible apply bel_drew | with_reducible apply bel_alloc | (with_reducible refine Below.setCell ?_ ?_ _; rotate_left; · (first | (simp; done) | (simp; omega) | omega)))))).mono ?_; rintro e w3 ⟨v, rfl, hrow, hm, hg⟩; have HR := Lib.hid hrow; have HM := Lib.hid hm; have HG := Lib.hid (gr_bel ((by repeat (first | with_reducible exact hw | with_reducible exact HW.out | with_reducible apply bel_drew | with_reducible apply bel_alloc | (with_reducible refine Below.setCell ?_ ?_ _; rotate_left; · (first | (simp; done) | (simp; omega) | omega))))) hg); clear hrow hm hg))
    go_ret
    exact ⟨v, rfl, HR.out.mono (by simp; omega), HM.out, HG.out⟩

set_option maxRecDepth 100000 in
set_option maxHeartbeats 4000000 in
theorem store_replace_none (mb g : Nat) (l : M.Mp) (key data : ByteArray) (flags exp cas : Int) (q : Bool) (now ver : Int) (w : World) (h : MapSt w mb g l) (hx : M.mget l key now = none) (he : I64 exp) (hn : I64 now) :
    Calls Tryd.prog 42 #[.pointer (some ⟨mb, 0, none⟩), .agg #[.string ⟨#[114, 101, 112, 108, 97, 99, 101]⟩, .string key, .string data, .int .u32 flags, .int .i64 exp, .int .u64 cas, .bool q], .int .i64 now, .int .u64 ver] w (Lined w mb g ⟨#[78, 79, 84, 95, 83, 84, 79, 82, 69, 68]⟩ (l)) := by
  have HC := Lib.hid (mget_none mb g l key now _ (h.below (bel_alloc (bel_refl w) (.cells #[.string ⟨#[114, 101, 112, 108, 97, 99, 101]⟩, .string key, .string data, .int .u32 flags, .int .i64 exp, .int .u64 cas, .bool q] 83))) hx)
  have H := Lib.hid h
  have HE := Lib.hid he
  have HN := Lib.hid hn
  clear h hx he hn
  go_enter Tryd.func42, Tryd.ntmps42
  go_wp2_with (go_at_call 24; refine HC.out.mono ?_; rintro e w1 ⟨rfl, hb1⟩; have hq := own_cell hb1; have hs1 := size_of hb1; have hw := bel_of hb1; have H1 := Lib.hid (H.out.below hw); clear hb1)
  go_region_held3 (fun w' => w'.cell? ⟨w.heap.size, 1, none⟩ = some (.string key) ∧ w'.cell? ⟨w.heap.size, 2, none⟩ = some (.string data) ∧ w'.cell? ⟨w.heap.size, 3, none⟩ = some (.int .u32 flags) ∧ w'.cell? ⟨w.heap.size, 4, none⟩ = some (.int .i64 exp)) (first | (go_keep; done) | (simp [go_sem]; done) | (simp [*, go_sem]; done)) (first | (go_at_call 44; refine (time_any exp now HE.out.1 HE.out.2 HN.out.1 HN.out.2 _).mono ?_; rintro e w2 ⟨rfl, rfl⟩))
  all_goals
    go_wp2_with (first | (go_at_call 40; refine (mline_any _ _).mono ?_; rintro e w3 ⟨v, rfl, hrow, hb3⟩; have HR := Lib.hid hrow; have hb4 : Below w.heap.size w w3 := bel_trans ((by repeat (first | with_reducible exact hw | with_reducible exact HW.out | with_reducible apply bel_drew | with_reducible apply bel_alloc | (with_reducible refine Below.setCell ?_ ?_ _; rotate_left; · (first | (simp; done) | (simp; omega) | omega))))) hb3; have hs4 := hb4.size; clear hrow hb3))
    go_ret
    exact ⟨v, rfl, HR.out.mono (by simp; omega), H.out.below hb4, gr_of hb4⟩

set_option maxRecDepth 100000 in
set_option maxHeartbeats 4000000 in
theorem store_set_some (mb g : Nat) (l : M.Mp) (key data : ByteArray) (flags exp cas : Int) (q : Bool) (now ver : Int) (y : M.Item) (w : World) (h : MapSt w mb g l) (hx : M.mget l key now = some y) (he : I64 exp) (hn : I64 now) :
    Calls Tryd.prog 42 #[.pointer (some ⟨mb, 0, none⟩), .agg #[.string ⟨#[115, 101, 116]⟩, .string key, .string data, .int .u32 flags, .int .i64 exp, .int .u64 cas, .bool q], .int .i64 now, .int .u64 ver] w (Lined w mb g ⟨#[83, 84, 79, 82, 69, 68]⟩ (M.mset l key ⟨key, data, flags, M.time exp now, ver⟩)) := by
  have HC := Lib.hid (mget_some mb g l key now y _ (h.below (bel_alloc (bel_refl w) (.cells #[.string ⟨#[115, 101, 116]⟩, .string key, .string data, .int .u32 flags, .int .i64 exp, .int .u64 cas, .bool q] 83))) hx)
  have H := Lib.hid h
  have HE := Lib.hid he
  have HN := Lib.hid hn
  clear h hx he hn
  go_enter Tryd.func42, Tryd.ntmps42
  go_wp2_with (go_at_call 24; refine HC.out.mono ?_; rintro e w1 ⟨rfl, hb1⟩; have hq := own_cell hb1; have hs1 := size_of hb1; have hw := bel_of hb1; have H1 := Lib.hid (H.out.below hw); clear hb1)
  go_region_held3 (fun w' => w'.cell? ⟨w.heap.size, 1, none⟩ = some (.string key) ∧ w'.cell? ⟨w.heap.size, 2, none⟩ = some (.string data) ∧ w'.cell? ⟨w.heap.size, 3, none⟩ = some (.int .u32 flags) ∧ w'.cell? ⟨w.heap.size, 4, none⟩ = some (.int .i64 exp)) (first | (go_keep; done) | (simp [go_sem]; done) | (simp [*, go_sem]; done)) (first | (go_at_call 44; refine (time_any exp now HE.out.1 HE.out.2 HN.out.1 HN.out.2 _).mono ?_; rintro e w2 ⟨rfl, rfl⟩))
  all_goals
    go_wp2_with (first | (go_at_call 45; refine (mset_any mb g l ⟨_, _, _, _, _⟩ ver _ _ (H.out.below (by repeat (first | with_reducible exact hw | with_reducible exact HW.out | with_reducible apply bel_drew | with_reducible apply bel_alloc | (with_reducible refine Below.setCell ?_ ?_ _; rotate_left; · (first | (simp; done) | (simp; omega) | omega)))))).mono ?_; rintro e w3 ⟨v, rfl, hrow, hm, hg⟩; have HR := Lib.hid hrow; have HM := Lib.hid hm; have HG := Lib.hid (gr_bel ((by repeat (first | with_reducible exact hw | with_reducible exact HW.out | with_reducible apply bel_drew | with_reducible apply bel_alloc | (with_reducible refine Below.setCell ?_ ?_ _; rotate_left; · (first | (simp; done) | (simp; omega) | omega))))) hg); clear hrow hm hg))
    go_ret
    exact ⟨v, rfl, HR.out.mono (by simp; omega), HM.out, HG.out⟩

set_option maxRecDepth 100000 in
set_option maxHeartbeats 4000000 in
theorem store_set_none (mb g : Nat) (l : M.Mp) (key data : ByteArray) (flags exp cas : Int) (q : Bool) (now ver : Int) (w : World) (h : MapSt w mb g l) (hx : M.mget l key now = none) (he : I64 exp) (hn : I64 now) :
    Calls Tryd.prog 42 #[.pointer (some ⟨mb, 0, none⟩), .agg #[.string ⟨#[115, 101, 116]⟩, .string key, .string data, .int .u32 flags, .int .i64 exp, .int .u64 cas, .bool q], .int .i64 now, .int .u64 ver] w (Lined w mb g ⟨#[83, 84, 79, 82, 69, 68]⟩ (M.mset l key ⟨key, data, flags, M.time exp now, ver⟩)) := by
  have HC := Lib.hid (mget_none mb g l key now _ (h.below (bel_alloc (bel_refl w) (.cells #[.string ⟨#[115, 101, 116]⟩, .string key, .string data, .int .u32 flags, .int .i64 exp, .int .u64 cas, .bool q] 83))) hx)
  have H := Lib.hid h
  have HE := Lib.hid he
  have HN := Lib.hid hn
  clear h hx he hn
  go_enter Tryd.func42, Tryd.ntmps42
  go_wp2_with (go_at_call 24; refine HC.out.mono ?_; rintro e w1 ⟨rfl, hb1⟩; have hq := own_cell hb1; have hs1 := size_of hb1; have hw := bel_of hb1; have H1 := Lib.hid (H.out.below hw); clear hb1)
  go_region_held3 (fun w' => w'.cell? ⟨w.heap.size, 1, none⟩ = some (.string key) ∧ w'.cell? ⟨w.heap.size, 2, none⟩ = some (.string data) ∧ w'.cell? ⟨w.heap.size, 3, none⟩ = some (.int .u32 flags) ∧ w'.cell? ⟨w.heap.size, 4, none⟩ = some (.int .i64 exp)) (first | (go_keep; done) | (simp [go_sem]; done) | (simp [*, go_sem]; done)) (first | (go_at_call 44; refine (time_any exp now HE.out.1 HE.out.2 HN.out.1 HN.out.2 _).mono ?_; rintro e w2 ⟨rfl, rfl⟩))
  all_goals
    go_wp2_with (first | (go_at_call 45; refine (mset_any mb g l ⟨_, _, _, _, _⟩ ver _ _ (H.out.below (by repeat (first | with_reducible exact hw | with_reducible exact HW.out | with_reducible apply bel_drew | with_reducible apply bel_alloc | (with_reducible refine Below.setCell ?_ ?_ _; rotate_left; · (first | (simp; done) | (simp; omega) | omega)))))).mono ?_; rintro e w3 ⟨v, rfl, hrow, hm, hg⟩; have HR := Lib.hid hrow; have HM := Lib.hid hm; have HG := Lib.hid (gr_bel ((by repeat (first | with_reducible exact hw | with_reducible exact HW.out | with_reducible apply bel_drew | with_reducible apply bel_alloc | (with_reducible refine Below.setCell ?_ ?_ _; rotate_left; · (first | (simp; done) | (simp; omega) | omega))))) hg); clear hrow hm hg))
    go_ret
    exact ⟨v, rfl, HR.out.mono (by simp; omega), HM.out, HG.out⟩

end Go.Proofs.YtbhnmaghnnpboaaDoor
/- model.Map: store: append, prepend. -/
namespace Go.Proofs.YtbhnmaghnnpboaaDoor
open Go.RowKit
attribute [local go_sem ↓] Go.wp_at_zero Go.wp_at_succ

set_option maxRecDepth 100000 in
set_option maxHeartbeats 4000000 in
theorem store_append_none (mb g : Nat) (l : M.Mp) (key data : ByteArray) (flags exp cas : Int) (q : Bool) (now ver : Int) (w : World) (h : MapSt w mb g l) (hx : M.mget l key now = none) (he : I64 exp) (hn : I64 now) :
    Calls Tryd.prog 42 #[.pointer (some ⟨mb, 0, none⟩), .agg #[.string ⟨#[97, 112, 112, 101, 110, 100]⟩, .string key, .string data, .int .u32 flags, .int .i64 exp, .int .u64 cas, .bool q], .int .i64 now, .int .u64 ver] w (Lined w mb g ⟨#[78, 79, 84, 95, 83, 84, 79, 82, 69, 68]⟩ (l)) := by
  have HC := Lib.hid (mget_none mb g l key now _ (h.below (bel_alloc (bel_refl w) (.cells #[.string ⟨#[97, 112, 112, 101, 110, 100]⟩, .string key, .string data, .int .u32 flags, .int .i64 exp, .int .u64 cas, .bool q] 83))) hx)
  have H := Lib.hid h
  have HE := Lib.hid he
  have HN := Lib.hid hn
  clear h hx he hn
  go_enter Tryd.func42, Tryd.ntmps42
  go_wp2_with (go_at_call 24; refine HC.out.mono ?_; rintro e w1 ⟨rfl, hb1⟩; have hq := own_cell hb1; have hs1 := size_of hb1; have hw := bel_of hb1; have H1 := Lib.hid (H.out.below hw); clear hb1)
  go_region_held3 (fun w' => w'.cell? ⟨w.heap.size, 1, none⟩ = some (.string key) ∧ w'.cell? ⟨w.heap.size, 2, none⟩ = some (.string data) ∧ w'.cell? ⟨w.heap.size, 3, none⟩ = some (.int .u32 flags) ∧ w'.cell? ⟨w.heap.size, 4, none⟩ = some (.int .i64 exp)) (first | (go_keep; done) | (simp [go_sem]; done) | (simp [*, go_sem]; done)) (first | (go_at_call 44; refine (time_any exp now HE.out.1 HE.out.2 HN.out.1 HN.out.2 _).mono ?_; rintro e w2 ⟨rfl, rfl⟩))
  all_goals
    go_wp2_with (first | (go_at_call 40; refine (mline_any _ _).mono ?_; rintro e w3 ⟨v, rfl, hrow, hb3⟩; have HR := Lib.hid hrow; have hb4 : Below w.heap.size w w3 := bel_trans ((by repeat (first | with_reducible exact hw | with_reducible exact HW.out | with_reducible apply bel_drew | with_reducible apply bel_alloc | (with_reducible refine Below.setCell ?_ ?_ _; rotate_left; · (first | (simp; done) | (simp; omega) | omega))))) hb3; have hs4 := hb4.size; clear hrow hb3))
    go_ret
    exact ⟨v, rfl, HR.out.mono (by simp; omega), H.out.below hb4, gr_of hb4⟩

set_option maxRecDepth 100000 in
set_option maxHeartbeats 4000000 in
theorem store_append_big (mb g : Nat) (l : M.Mp) (key data : ByteArray) (flags exp cas : Int) (q : Bool) (now ver : Int) (y : M.Item) (w : World) (h : MapSt w mb g l) (hx : M.mget l key now = some y) (he : I64 exp) (hn : I64 now) (hs : 1024 < y.val.size + data.size) (hb : y.val.size + data.size ≤ 9223372036854775807) :
    Calls Tryd.prog 42 #[.pointer (some ⟨mb, 0, none⟩), .agg #[.string ⟨#[97, 112, 112, 101, 110, 100]⟩, .string key, .string data, .int .u32 flags, .int .i64 exp, .int .u64 cas, .bool q], .int .i64 now, .int .u64 ver] w (Lined w mb g ⟨#[83, 69, 82, 86, 69, 82, 95, 69, 82, 82, 79, 82, 32, 111, 98, 106, 101, 99, 116, 32, 116, 111, 111, 32, 108, 97, 114, 103, 101, 32, 102, 111, 114, 32, 99, 97, 99, 104, 101]⟩ (l)) := by
  have HC := Lib.hid (mget_some mb g l key now y _ (h.below (bel_alloc (bel_refl w) (.cells #[.string ⟨#[97, 112, 112, 101, 110, 100]⟩, .string key, .string data, .int .u32 flags, .int .i64 exp, .int .u64 cas, .bool q] 83))) hx)
  have H := Lib.hid h
  have HE := Lib.hid he
  have HN := Lib.hid hn
  have ht : decide ((1024 : Int) < ((y.val.size : Int) + (data.size : Int) : Int)) = true := decide_eq_true (by omega)
  clear h hx he hn
  go_enter Tryd.func42, Tryd.ntmps42
  go_wp2_with (go_at_call 24; refine HC.out.mono ?_; rintro e w1 ⟨rfl, hb1⟩; have hq := own_cell hb1; have hs1 := size_of hb1; have hw := bel_of hb1; have H1 := Lib.hid (H.out.below hw); clear hb1)
  go_region_held3 (fun w' => w'.cell? ⟨w.heap.size, 1, none⟩ = some (.string key) ∧ w'.cell? ⟨w.heap.size, 2, none⟩ = some (.string data) ∧ w'.cell? ⟨w.heap.size, 3, none⟩ = some (.int .u32 flags) ∧ w'.cell? ⟨w.heap.size, 4, none⟩ = some (.int .i64 exp)) (first | (go_keep; done) | (simp [go_sem]; done) | (simp [*, go_sem]; done)) (first | (go_at_call 44; refine (time_any exp now HE.out.1 HE.out.2 HN.out.1 HN.out.2 _).mono ?_; rintro e w2 ⟨rfl, rfl⟩))
  all_goals
    go_wp2_with fail
    go_region
    go_wp2_with (first | (go_at_call 40; refine (mline_any _ _).mono ?_; rintro e w3 ⟨v, rfl, hrow, hb3⟩; have HR := Lib.hid hrow; have hb4 : Below w.heap.size w w3 := bel_trans ((by repeat (first | with_reducible exact hw | with_reducible exact HW.out | with_reducible apply bel_drew | with_reducible apply bel_alloc | (with_reducible refine Below.setCell ?_ ?_ _; rotate_left; · (first | (simp; done) | (simp; omega) | omega))))) hb3; have hs4 := hb4.size; clear hrow hb3))
    go_ret
    exact ⟨v, rfl, HR.out.mono (by simp; omega), H.out.below hb4, gr_of hb4⟩

set_option maxRecDepth 100000 in
set_option maxHeartbeats 4000000 in
theorem store_append_some (mb g : Nat) (l : M.Mp) (key data : ByteArray) (flags exp cas : Int) (q : Bool) (now ver : Int) (y : M.Item) (w : World) (h : MapSt w mb g l) (hx : M.mget l key now = some y) (he : I64 exp) (hn : I64 now) (hs : ¬ 1024 < y.val.size + data.size) :
    Calls Tryd.prog 42 #[.pointer (some ⟨mb, 0, none⟩), .agg #[.string ⟨#[97, 112, 112, 101, 110, 100]⟩, .string key, .string data, .int .u32 flags, .int .i64 exp, .int .u64 cas, .bool q], .int .i64 now, .int .u64 ver] w (Lined w mb g ⟨#[83, 84, 79, 82, 69, 68]⟩ (M.mset l key ⟨key, y.val ++ data, y.flags, y.exp, ver⟩)) := by
  have HC := Lib.hid (mget_some mb g l key now y _ (h.below (bel_alloc (bel_refl w) (.cells #[.string ⟨#[97, 112, 112, 101, 110, 100]⟩, .string key, .string data, .int .u32 flags, .int .i64 exp, .int .u64 cas, .bool q] 83))) hx)
  have H := Lib.hid h
  have HE := Lib.hid he
  have HN := Lib.hid hn
  have ht : decide ((1024 : Int) < ((y.val.size : Int) + (data.size : Int) : Int)) = false := decide_eq_false (by omega)
  clear h hx he hn
  go_enter Tryd.func42, Tryd.ntmps42
  go_wp2_with (go_at_call 24; refine HC.out.mono ?_; rintro e w1 ⟨rfl, hb1⟩; have hq := own_cell hb1; have hs1 := size_of hb1; have hw := bel_of hb1; have H1 := Lib.hid (H.out.below hw); clear hb1)
  go_region_held3 (fun w' => w'.cell? ⟨w.heap.size, 1, none⟩ = some (.string key) ∧ w'.cell? ⟨w.heap.size, 2, none⟩ = some (.string data) ∧ w'.cell? ⟨w.heap.size, 3, none⟩ = some (.int .u32 flags) ∧ w'.cell? ⟨w.heap.size, 4, none⟩ = some (.int .i64 exp)) (first | (go_keep; done) | (simp [go_sem]; done) | (simp [*, go_sem]; done)) (first | (go_at_call 44; refine (time_any exp now HE.out.1 HE.out.2 HN.out.1 HN.out.2 _).mono ?_; rintro e w2 ⟨rfl, rfl⟩))
  all_goals
    go_wp2_with fail
    go_region
    go_wp2_with (first | (go_at_call 45; refine (mset_any mb g l ⟨_, _, _, _, _⟩ ver _ _ (H.out.below (by repeat (first | with_reducible exact hw | with_reducible exact HW.out | with_reducible apply bel_drew | with_reducible apply bel_alloc | (with_reducible refine Below.setCell ?_ ?_ _; rotate_left; · (first | (simp; done) | (simp; omega) | omega)))))).mono ?_; rintro e w3 ⟨v, rfl, hrow, hm, hg⟩; have HR := Lib.hid hrow; have HM := Lib.hid hm; have HG := Lib.hid (gr_bel ((by repeat (first | with_reducible exact hw | with_reducible exact HW.out | with_reducible apply bel_drew | with_reducible apply bel_alloc | (with_reducible refine Below.setCell ?_ ?_ _; rotate_left; · (first | (simp; done) | (simp; omega) | omega))))) hg); clear hrow hm hg))
    go_ret
    exact ⟨v, rfl, HR.out.mono (by simp; omega), HM.out, HG.out⟩

set_option maxRecDepth 100000 in
set_option maxHeartbeats 4000000 in
theorem store_prepend_none (mb g : Nat) (l : M.Mp) (key data : ByteArray) (flags exp cas : Int) (q : Bool) (now ver : Int) (w : World) (h : MapSt w mb g l) (hx : M.mget l key now = none) (he : I64 exp) (hn : I64 now) :
    Calls Tryd.prog 42 #[.pointer (some ⟨mb, 0, none⟩), .agg #[.string ⟨#[112, 114, 101, 112, 101, 110, 100]⟩, .string key, .string data, .int .u32 flags, .int .i64 exp, .int .u64 cas, .bool q], .int .i64 now, .int .u64 ver] w (Lined w mb g ⟨#[78, 79, 84, 95, 83, 84, 79, 82, 69, 68]⟩ (l)) := by
  have HC := Lib.hid (mget_none mb g l key now _ (h.below (bel_alloc (bel_refl w) (.cells #[.string ⟨#[112, 114, 101, 112, 101, 110, 100]⟩, .string key, .string data, .int .u32 flags, .int .i64 exp, .int .u64 cas, .bool q] 83))) hx)
  have H := Lib.hid h
  have HE := Lib.hid he
  have HN := Lib.hid hn
  clear h hx he hn
  go_enter Tryd.func42, Tryd.ntmps42
  go_wp2_with (go_at_call 24; refine HC.out.mono ?_; rintro e w1 ⟨rfl, hb1⟩; have hq := own_cell hb1; have hs1 := size_of hb1; have hw := bel_of hb1; have H1 := Lib.hid (H.out.below hw); clear hb1)
  go_region_held3 (fun w' => w'.cell? ⟨w.heap.size, 1, none⟩ = some (.string key) ∧ w'.cell? ⟨w.heap.size, 2, none⟩ = some (.string data) ∧ w'.cell? ⟨w.heap.size, 3, none⟩ = some (.int .u32 flags) ∧ w'.cell? ⟨w.heap.size, 4, none⟩ = some (.int .i64 exp)) (first | (go_keep; done) | (simp [go_sem]; done) | (simp [*, go_sem]; done)) (first | (go_at_call 44; refine (time_any exp now HE.out.1 HE.out.2 HN.out.1 HN.out.2 _).mono ?_; rintro e w2 ⟨rfl, rfl⟩))
  all_goals
    go_wp2_with (first | (go_at_call 40; refine (mline_any _ _).mono ?_; rintro e w3 ⟨v, rfl, hrow, hb3⟩; have HR := Lib.hid hrow; have hb4 : Below w.heap.size w w3 := bel_trans ((by repeat (first | with_reducible exact hw | with_reducible exact HW.out | with_reducible apply bel_drew | with_reducible apply bel_alloc | (with_reducible refine Below.setCell ?_ ?_ _; rotate_left; · (first | (simp; done) | (simp; omega) | omega))))) hb3; have hs4 := hb4.size; clear hrow hb3))
    go_ret
    exact ⟨v, rfl, HR.out.mono (by simp; omega), H.out.below hb4, gr_of hb4⟩

set_option maxRecDepth 100000 in
set_option maxHeartbeats 4000000 in
theorem store_prepend_big (mb g : Nat) (l : M.Mp) (key data : ByteArray) (flags exp cas : Int) (q : Bool) (now ver : Int) (y : M.Item) (w : World) (h : MapSt w mb g l) (hx : M.mget l key now = some y) (he : I64 exp) (hn : I64 now) (hs : 1024 < data.size + y.val.size) (hb : data.size + y.val.size ≤ 9223372036854775807) :
    Calls Tryd.prog 42 #[.pointer (some ⟨mb, 0, none⟩), .agg #[.string ⟨#[112, 114, 101, 112, 101, 110, 100]⟩, .string key, .string data, .int .u32 flags, .int .i64 exp, .int .u64 cas, .bool q], .int .i64 now, .int .u64 ver] w (Lined w mb g ⟨#[83, 69, 82, 86, 69, 82, 95, 69, 82, 82, 79, 82, 32, 111, 98, 106, 101, 99, 116, 32, 116, 111, 111, 32, 108, 97, 114, 103, 101, 32, 102, 111, 114, 32, 99, 97, 99, 104, 101]⟩ (l)) := by
  have HC := Lib.hid (mget_some mb g l key now y _ (h.below (bel_alloc (bel_refl w) (.cells #[.string ⟨#[112, 114, 101, 112, 101, 110, 100]⟩, .string key, .string data, .int .u32 flags, .int .i64 exp, .int .u64 cas, .bool q] 83))) hx)
  have H := Lib.hid h
  have HE := Lib.hid he
  have HN := Lib.hid hn
  have ht : decide ((1024 : Int) < ((data.size : Int) + (y.val.size : Int) : Int)) = true := decide_eq_true (by omega)
  clear h hx he hn
  go_enter Tryd.func42, Tryd.ntmps42
  go_wp2_with (go_at_call 24; refine HC.out.mono ?_; rintro e w1 ⟨rfl, hb1⟩; have hq := own_cell hb1; have hs1 := size_of hb1; have hw := bel_of hb1; have H1 := Lib.hid (H.out.below hw); clear hb1)
  go_region_held3 (fun w' => w'.cell? ⟨w.heap.size, 1, none⟩ = some (.string key) ∧ w'.cell? ⟨w.heap.size, 2, none⟩ = some (.string data) ∧ w'.cell? ⟨w.heap.size, 3, none⟩ = some (.int .u32 flags) ∧ w'.cell? ⟨w.heap.size, 4, none⟩ = some (.int .i64 exp)) (first | (go_keep; done) | (simp [go_sem]; done) | (simp [*, go_sem]; done)) (first | (go_at_call 44; refine (time_any exp now HE.out.1 HE.out.2 HN.out.1 HN.out.2 _).mono ?_; rintro e w2 ⟨rfl, rfl⟩))
  all_goals
    go_wp2_with fail
    go_region
    go_wp2_with (first | (go_at_call 40; refine (mline_any _ _).mono ?_; rintro e w3 ⟨v, rfl, hrow, hb3⟩; have HR := Lib.hid hrow; have hb4 : Below w.heap.size w w3 := bel_trans ((by repeat (first | with_reducible exact hw | with_reducible exact HW.out | with_reducible apply bel_drew | with_reducible apply bel_alloc | (with_reducible refine Below.setCell ?_ ?_ _; rotate_left; · (first | (simp; done) | (simp; omega) | omega))))) hb3; have hs4 := hb4.size; clear hrow hb3))
    go_ret
    exact ⟨v, rfl, HR.out.mono (by simp; omega), H.out.below hb4, gr_of hb4⟩

set_option maxRecDepth 100000 in
set_option maxHeartbeats 4000000 in
theorem store_prepend_some (mb g : Nat) (l : M.Mp) (key data : ByteArray) (flags exp cas : Int) (q : Bool) (now ver : Int) (y : M.Item) (w : World) (h : MapSt w mb g l) (hx : M.mget l key now = some y) (he : I64 exp) (hn : I64 now) (hs : ¬ 1024 < data.size + y.val.size) :
    Calls Tryd.prog 42 #[.pointer (some ⟨mb, 0, none⟩), .agg #[.string ⟨#[112, 114, 101, 112, 101, 110, 100]⟩, .string key, .string data, .int .u32 flags, .int .i64 exp, .int .u64 cas, .bool q], .int .i64 now, .int .u64 ver] w (Lined w mb g ⟨#[83, 84, 79, 82, 69, 68]⟩ (M.mset l key ⟨key, data ++ y.val, y.flags, y.exp, ver⟩)) := by
  have HC := Lib.hid (mget_some mb g l key now y _ (h.below (bel_alloc (bel_refl w) (.cells #[.string ⟨#[112, 114, 101, 112, 101, 110, 100]⟩, .string key, .string data, .int .u32 flags, .int .i64 exp, .int .u64 cas, .bool q] 83))) hx)
  have H := Lib.hid h
  have HE := Lib.hid he
  have HN := Lib.hid hn
  have ht : decide ((1024 : Int) < ((data.size : Int) + (y.val.size : Int) : Int)) = false := decide_eq_false (by omega)
  clear h hx he hn
  go_enter Tryd.func42, Tryd.ntmps42
  go_wp2_with (go_at_call 24; refine HC.out.mono ?_; rintro e w1 ⟨rfl, hb1⟩; have hq := own_cell hb1; have hs1 := size_of hb1; have hw := bel_of hb1; have H1 := Lib.hid (H.out.below hw); clear hb1)
  go_region_held3 (fun w' => w'.cell? ⟨w.heap.size, 1, none⟩ = some (.string key) ∧ w'.cell? ⟨w.heap.size, 2, none⟩ = some (.string data) ∧ w'.cell? ⟨w.heap.size, 3, none⟩ = some (.int .u32 flags) ∧ w'.cell? ⟨w.heap.size, 4, none⟩ = some (.int .i64 exp)) (first | (go_keep; done) | (simp [go_sem]; done) | (simp [*, go_sem]; done)) (first | (go_at_call 44; refine (time_any exp now HE.out.1 HE.out.2 HN.out.1 HN.out.2 _).mono ?_; rintro e w2 ⟨rfl, rfl⟩))
  all_goals
    go_wp2_with fail
    go_region
    go_wp2_with (first | (go_at_call 45; refine (mset_any mb g l ⟨_, _, _, _, _⟩ ver _ _ (H.out.below (by repeat (first | with_reducible exact hw | with_reducible exact HW.out | with_reducible apply bel_drew | with_reducible apply bel_alloc | (with_reducible refine Below.setCell ?_ ?_ _; rotate_left; · (first | (simp; done) | (simp; omega) | omega)))))).mono ?_; rintro e w3 ⟨v, rfl, hrow, hm, hg⟩; have HR := Lib.hid hrow; have HM := Lib.hid hm; have HG := Lib.hid (gr_bel ((by repeat (first | with_reducible exact hw | with_reducible exact HW.out | with_reducible apply bel_drew | with_reducible apply bel_alloc | (with_reducible refine Below.setCell ?_ ?_ _; rotate_left; · (first | (simp; done) | (simp; omega) | omega))))) hg); clear hrow hm hg))
    go_ret
    exact ⟨v, rfl, HR.out.mono (by simp; omega), HM.out, HG.out⟩

end Go.Proofs.YtbhnmaghnnpboaaDoor
/- model.Map: store: cas. -/
namespace Go.Proofs.YtbhnmaghnnpboaaDoor
open Go.RowKit
attribute [local go_sem ↓] Go.wp_at_zero Go.wp_at_succ

set_option maxRecDepth 100000 in
set_option maxHeartbeats 4000000 in
theorem store_cas_none (mb g : Nat) (l : M.Mp) (key data : ByteArray) (flags exp cas : Int) (q : Bool) (now ver : Int) (w : World) (h : MapSt w mb g l) (hx : M.mget l key now = none) (he : I64 exp) (hn : I64 now) :
    Calls Tryd.prog 42 #[.pointer (some ⟨mb, 0, none⟩), .agg #[.string ⟨#[99, 97, 115]⟩, .string key, .string data, .int .u32 flags, .int .i64 exp, .int .u64 cas, .bool q], .int .i64 now, .int .u64 ver] w (Lined w mb g ⟨#[78, 79, 84, 95, 70, 79, 85, 78, 68]⟩ (l)) := by
  have HC := Lib.hid (mget_none mb g l key now _ (h.below (bel_alloc (bel_refl w) (.cells #[.string ⟨#[99, 97, 115]⟩, .string key, .string data, .int .u32 flags, .int .i64 exp, .int .u64 cas, .bool q] 83))) hx)
  have H := Lib.hid h
  have HE := Lib.hid he
  have HN := Lib.hid hn
  clear h hx he hn
  go_enter Tryd.func42, Tryd.ntmps42
  go_wp2_with (go_at_call 24; refine HC.out.mono ?_; rintro e w1 ⟨rfl, hb1⟩; have hq := own_cell hb1; have hs1 := size_of hb1; have hw := bel_of hb1; have H1 := Lib.hid (H.out.below hw); clear hb1)
  go_region_held3 (fun w' => w'.cell? ⟨w.heap.size, 1, none⟩ = some (.string key) ∧ w'.cell? ⟨w.heap.size, 2, none⟩ = some (.string data) ∧ w'.cell? ⟨w.heap.size, 3, none⟩ = some (.int .u32 flags) ∧ w'.cell? ⟨w.heap.size, 4, none⟩ = some (.int .i64 exp)) (first | (go_keep; done) | (simp [go_sem]; done) | (simp [*, go_sem]; done)) (first | (go_at_call 44; refine (time_any exp now HE.out.1 HE.out.2 HN.out.1 HN.out.2 _).mono ?_; rintro e w2 ⟨rfl, rfl⟩))
  all_goals
    go_wp2_with (first | (go_at_call 40; refine (mline_any _ _).mono ?_; rintro e w3 ⟨v, rfl, hrow, hb3⟩; have HR := Lib.hid hrow; have hb4 : Below w.heap.size w w3 := bel_trans ((by repeat (first | with_reducible exact hw | with_reducible exact HW.out | with_reducible apply bel_drew | with_reducible apply bel_alloc | (with_reducible refine Below.setCell ?_ ?_ _; rotate_left; · (first | (simp; done) | (simp; omega) | omega))))) hb3; have hs4 := hb4.size; clear hrow hb3))
    go_ret
    exact ⟨v, rfl, HR.out.mono (by simp; omega), H.out.below hb4, gr_of hb4⟩

set_option maxRecDepth 100000 in
set_option maxHeartbeats 4000000 in
theorem store_cas_ne (mb g : Nat) (l : M.Mp) (key data : ByteArray) (flags exp cas : Int) (q : Bool) (now ver : Int) (y : M.Item) (w : World) (h : MapSt w mb g l) (hx : M.mget l key now = some y) (he : I64 exp) (hn : I64 now) (hs : y.ver ≠ cas) :
    Calls Tryd.prog 42 #[.pointer (some ⟨mb, 0, none⟩), .agg #[.string ⟨#[99, 97, 115]⟩, .string key, .string data, .int .u32 flags, .int .i64 exp, .int .u64 cas, .bool q], .int .i64 now, .int .u64 ver] w (Lined w mb g ⟨#[69, 88, 73, 83, 84, 83]⟩ (l)) := by
  have HC := Lib.hid (mget_some mb g l key now y _ (h.below (bel_alloc (bel_refl w) (.cells #[.string ⟨#[99, 97, 115]⟩, .string key, .string data, .int .u32 flags, .int .i64 exp, .int .u64 cas, .bool q] 83))) hx)
  have H := Lib.hid h
  have HE := Lib.hid he
  have HN := Lib.hid hn
  have ht : (y.ver == cas) = false := by simp [hs]
  clear h hx he hn
  go_enter Tryd.func42, Tryd.ntmps42
  go_wp2_with (go_at_call 24; refine HC.out.mono ?_; rintro e w1 ⟨rfl, hb1⟩; have hq := own_cell hb1; have hs1 := size_of hb1; have hw := bel_of hb1; have H1 := Lib.hid (H.out.below hw); clear hb1)
  go_region_held3 (fun w' => w'.cell? ⟨w.heap.size, 1, none⟩ = some (.string key) ∧ w'.cell? ⟨w.heap.size, 2, none⟩ = some (.string data) ∧ w'.cell? ⟨w.heap.size, 3, none⟩ = some (.int .u32 flags) ∧ w'.cell? ⟨w.heap.size, 4, none⟩ = some (.int .i64 exp)) (first | (go_keep; done) | (simp [go_sem]; done) | (simp [*, go_sem]; done)) (first | (go_at_call 44; refine (time_any exp now HE.out.1 HE.out.2 HN.out.1 HN.out.2 _).mono ?_; rintro e w2 ⟨rfl, rfl⟩))
  all_goals
    go_wp2_with (first | (go_at_call 40; refine (mline_any _ _).mono ?_; rintro e w3 ⟨v, rfl, hrow, hb3⟩; have HR := Lib.hid hrow; have hb4 : Below w.heap.size w w3 := bel_trans ((by repeat (first | with_reducible exact hw | with_reducible exact HW.out | with_reducible apply bel_drew | with_reducible apply bel_alloc | (with_reducible refine Below.setCell ?_ ?_ _; rotate_left; · (first | (simp; done) | (simp; omega) | omega))))) hb3; have hs4 := hb4.size; clear hrow hb3))
    go_ret
    exact ⟨v, rfl, HR.out.mono (by simp; omega), H.out.below hb4, gr_of hb4⟩

set_option maxRecDepth 100000 in
set_option maxHeartbeats 4000000 in
theorem store_cas_eq (mb g : Nat) (l : M.Mp) (key data : ByteArray) (flags exp cas : Int) (q : Bool) (now ver : Int) (y : M.Item) (w : World) (h : MapSt w mb g l) (hx : M.mget l key now = some y) (he : I64 exp) (hn : I64 now) (hs : y.ver = cas) :
    Calls Tryd.prog 42 #[.pointer (some ⟨mb, 0, none⟩), .agg #[.string ⟨#[99, 97, 115]⟩, .string key, .string data, .int .u32 flags, .int .i64 exp, .int .u64 cas, .bool q], .int .i64 now, .int .u64 ver] w (Lined w mb g ⟨#[83, 84, 79, 82, 69, 68]⟩ (M.mset l key ⟨key, data, flags, M.time exp now, ver⟩)) := by
  have HC := Lib.hid (mget_some mb g l key now y _ (h.below (bel_alloc (bel_refl w) (.cells #[.string ⟨#[99, 97, 115]⟩, .string key, .string data, .int .u32 flags, .int .i64 exp, .int .u64 cas, .bool q] 83))) hx)
  have H := Lib.hid h
  have HE := Lib.hid he
  have HN := Lib.hid hn
  have ht : (y.ver == cas) = true := by simp [hs]
  clear h hx he hn
  go_enter Tryd.func42, Tryd.ntmps42
  go_wp2_with (go_at_call 24; refine HC.out.mono ?_; rintro e w1 ⟨rfl, hb1⟩; have hq := own_cell hb1; have hs1 := size_of hb1; have hw := bel_of hb1; have H1 := Lib.hid (H.out.below hw); clear hb1)
  go_region_held3 (fun w' => w'.cell? ⟨w.heap.size, 1, none⟩ = some (.string key) ∧ w'.cell? ⟨w.heap.size, 2, none⟩ = some (.string data) ∧ w'.cell? ⟨w.heap.size, 3, none⟩ = some (.int .u32 flags) ∧ w'.cell? ⟨w.heap.size, 4, none⟩ = some (.int .i64 exp)) (first | (go_keep; done) | (simp [go_sem]; done) | (simp [*, go_sem]; done)) (first | (go_at_call 44; refine (time_any exp now HE.out.1 HE.out.2 HN.out.1 HN.out.2 _).mono ?_; rintro e w2 ⟨rfl, rfl⟩))
  all_goals
    go_wp2_with (first | (go_at_call 45; refine (mset_any mb g l ⟨_, _, _, _, _⟩ ver _ _ (H.out.below (by repeat (first | with_reducible exact hw | with_reducible exact HW.out | with_reducible apply bel_drew | with_reducible apply bel_alloc | (with_reducible refine Below.setCell ?_ ?_ _; rotate_left; · (first | (simp; done) | (simp; omega) | omega)))))).mono ?_; rintro e w3 ⟨v, rfl, hrow, hm, hg⟩; have HR := Lib.hid hrow; have HM := Lib.hid hm; have HG := Lib.hid (gr_bel ((by repeat (first | with_reducible exact hw | with_reducible exact HW.out | with_reducible apply bel_drew | with_reducible apply bel_alloc | (with_reducible refine Below.setCell ?_ ?_ _; rotate_left; · (first | (simp; done) | (simp; omega) | omega))))) hg); clear hrow hm hg))
    go_ret
    exact ⟨v, rfl, HR.out.mono (by simp; omega), HM.out, HG.out⟩

end Go.Proofs.YtbhnmaghnnpboaaDoor

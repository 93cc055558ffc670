/- The small functions: Time, Line, line, Plain, key, verbs. -/
import Derived.Test.YtbhnmaghnnpboaaDoorRows
import Derived.Test.YtbhnmaghnnpboaaDoorZa
import Derived.Test.YtbhnmaghnnpboaaDoorShelf
import Derived.Lib.AppendIntMem
import Derived.Lib.OthersKept
namespace Go.Proofs.YtbhnmaghnnpboaaDoor
open Go.RowKit

set_option maxHeartbeats 400000 in
theorem time_any (e n : Int) (h1 : -9223372036854775808 ≤ e) (h2 : e ≤ 9223372036854775807) (h3 : -9223372036854775808 ≤ n) (h4 : n ≤ 9223372036854775807) (w : World) :
    Calls Tryd.prog 44 #[.int .i64 e, .int .i64 n] w fun r w' => r = .returned (.int .i64 (M.time e n)) ∧ w = w' := by
  go_enter Tryd.func44, Tryd.ntmps44
  go_wp2
  all_goals go_ret
  all_goals refine ⟨?_, rfl⟩
  all_goals simp only [Ending.returned.injEq, M.time]
  all_goals simp at *
  all_goals (repeat' split)
  all_goals omega

set_option maxHeartbeats 400000 in
theorem line_any (t : ByteArray) (w : World) :
    Calls Tryd.prog 41 #[.string t] w fun r w' => r = .returned (.agg #[.bool false, .string ⟨#[]⟩, .string ⟨#[]⟩, .string t, .int .u32 0, .int .u64 0, .bool false]) ∧ Below w.heap.size w w' := by
  go_enter Tryd.func41, Tryd.ntmps41
  go_wp2
  refine bodyPost_ret (v := .agg #[.bool false, .string ⟨#[]⟩, .string ⟨#[]⟩, .string t, .int .u32 0, .int .u64 0, .bool false]) (by simp [results, Tryd.results41, go_sem]) rfl ⟨rfl, (Below.refl _ _).alloc (Nat.le_refl _) _⟩

/-- The slice value v is a row of its own in block g: just the cells cs, of n elements of type e. -/
def Row1 (w0 w : World) (v : Value) (n : Nat) (e : TypeId) (cs : Array Value) : Prop := ∃ g, v = .slice (some ⟨g, 0, none⟩) n n ∧ w0.heap.size ≤ g ∧ g < w.heap.size ∧ w.heap[g]? = some (.cells cs e)

set_option maxHeartbeats 400000 in
theorem mline_any (t : ByteArray) (w : World) :
    Calls Tryd.prog 40 #[.string t] w fun r w' => ∃ v, r = .returned v ∧ Row1 w w' v 1 46 #[.bool false, .string ⟨#[]⟩, .string ⟨#[]⟩, .string t, .int .u32 0, .int .u64 0, .bool false] ∧ Below w.heap.size w w' := by
  go_enter Tryd.func40, Tryd.ntmps40
  go_wp2_with (go_at_call 41; refine (line_any _ _).mono ?_; rintro e w1 ⟨rfl, hb⟩)
  go_ret
  exact ⟨_, rfl, ⟨w1.heap.size, rfl, hb.size, by simp, heap_alloc_new _ _⟩, hb.alloc hb.size _⟩

set_option maxHeartbeats 400000 in
theorem ckey_some (what verb data : ByteArray) (flags exp cas by_ : Int) (wc wt dn q : Bool) (b off n c : Nat) (k : ByteArray) (w : World) (hn : 0 < n) (hb : b < w.heap.size) (hk : w.cell? ⟨b, off, none⟩ = some (.string k)) :
    Calls Tryd.prog 48 #[.agg #[.string what, .string verb, .slice (some ⟨b, off, none⟩) n c, .string data, .int .u32 flags, .int .i64 exp, .int .u64 cas, .int .u64 by_, .bool wc, .bool wt, .bool dn, .bool q]] w
      fun r w' => r = .returned (.string k) ∧ Below w.heap.size w w' := by
  have hn0 : ((n : Int) == 0) = false := by simp; omega
  go_enter Tryd.func48, Tryd.ntmps48
  go_wp2
  go_ret
  exact ⟨rfl, (Below.refl _ _).alloc (Nat.le_refl _) _⟩
set_option maxHeartbeats 400000 in
theorem ckey_none (what verb data : ByteArray) (flags exp cas by_ : Int) (wc wt dn q : Bool) (A : Option Addr) (c : Nat) (w : World) :
    Calls Tryd.prog 48 #[.agg #[.string what, .string verb, .slice A 0 c, .string data, .int .u32 flags, .int .i64 exp, .int .u64 cas, .int .u64 by_, .bool wc, .bool wt, .bool dn, .bool q]] w
      fun r w' => r = .returned (.string ⟨#[]⟩) ∧ Below w.heap.size w w' := by
  go_enter Tryd.func48, Tryd.ntmps48
  go_wp2
  go_ret
  exact ⟨rfl, (Below.refl _ _).alloc (Nat.le_refl _) _⟩
/-- event's (Command).key. -/
theorem ckey_any (what verb data : ByteArray) (flags exp cas by_ : Int) (wc wt dn q : Bool) (A : Option Addr) (n c : Nat) (ks : List ByteArray) (w : World) (h : RdS w w.heap.size A n ks) :
    Calls Tryd.prog 48 #[.agg #[.string what, .string verb, .slice A n c, .string data, .int .u32 flags, .int .i64 exp, .int .u64 cas, .int .u64 by_, .bool wc, .bool wt, .bool dn, .bool q]] w
      fun r w' => r = .returned (.string (M.first ks)) ∧ Below w.heap.size w w' := by
  obtain ⟨hl, _, hr⟩ := h
  cases n with
  | zero =>
    obtain rfl : ks = [] := List.eq_nil_of_length_eq_zero hl
    exact ckey_none what verb data flags exp cas by_ wc wt dn q A c w
  | succ n =>
    obtain ⟨b, off, rfl, hb, hc⟩ := hr (by omega)
    have h0 := hc 0 (by omega)
    match ks, hl with
    | k :: ks, _ => exact ckey_some _ _ _ _ _ _ _ _ _ _ _ b off (n + 1) c k w (by omega) hb (by rw [Nat.add_zero] at h0; exact h0)
set_option maxHeartbeats 400000 in
theorem rkey_some (what verb data : ByteArray) (flags exp cas by_ : Int) (wc wt dn q : Bool) (b off n c : Nat) (k : ByteArray) (w : World) (hn : 0 < n) (hb : b < w.heap.size) (hk : w.cell? ⟨b, off, none⟩ = some (.string k)) :
    Calls Tryd.prog 38 #[.agg #[.string what, .string verb, .slice (some ⟨b, off, none⟩) n c, .string data, .int .u32 flags, .int .i64 exp, .int .u64 cas, .int .u64 by_, .bool wc, .bool wt, .bool dn, .bool q]] w
      fun r w' => r = .returned (.string k) ∧ Below w.heap.size w w' := by
  have hn0 : ((n : Int) == 0) = false := by simp; omega
  go_enter Tryd.func38, Tryd.ntmps38
  go_wp2
  go_ret
  exact ⟨rfl, (Below.refl _ _).alloc (Nat.le_refl _) _⟩
set_option maxHeartbeats 400000 in
theorem rkey_none (what verb data : ByteArray) (flags exp cas by_ : Int) (wc wt dn q : Bool) (A : Option Addr) (c : Nat) (w : World) :
    Calls Tryd.prog 38 #[.agg #[.string what, .string verb, .slice A 0 c, .string data, .int .u32 flags, .int .i64 exp, .int .u64 cas, .int .u64 by_, .bool wc, .bool wt, .bool dn, .bool q]] w
      fun r w' => r = .returned (.string ⟨#[]⟩) ∧ Below w.heap.size w w' := by
  go_enter Tryd.func38, Tryd.ntmps38
  go_wp2
  go_ret
  exact ⟨rfl, (Below.refl _ _).alloc (Nat.le_refl _) _⟩
/-- cellaretref17's key. -/
theorem rkey_any (what verb data : ByteArray) (flags exp cas by_ : Int) (wc wt dn q : Bool) (A : Option Addr) (n c : Nat) (ks : List ByteArray) (w : World) (h : RdS w w.heap.size A n ks) :
    Calls Tryd.prog 38 #[.agg #[.string what, .string verb, .slice A n c, .string data, .int .u32 flags, .int .i64 exp, .int .u64 cas, .int .u64 by_, .bool wc, .bool wt, .bool dn, .bool q]] w
      fun r w' => r = .returned (.string (M.first ks)) ∧ Below w.heap.size w w' := by
  obtain ⟨hl, _, hr⟩ := h
  cases n with
  | zero =>
    obtain rfl : ks = [] := List.eq_nil_of_length_eq_zero hl
    exact rkey_none what verb data flags exp cas by_ wc wt dn q A c w
  | succ n =>
    obtain ⟨b, off, rfl, hb, hc⟩ := hr (by omega)
    have h0 := hc 0 (by omega)
    match ks, hl with
    | k :: ks, _ => exact rkey_some _ _ _ _ _ _ _ _ _ _ _ b off (n + 1) c k w (by omega) hb (by rw [Nat.add_zero] at h0; exact h0)

set_option maxHeartbeats 400000 in
theorem rline_any (t : ByteArray) (w : World) :
    Calls Tryd.prog 46 #[.string t] w fun r w' => r = .returned (.agg #[.bool false, .string t, .string ⟨#[]⟩, .string ⟨#[]⟩, .int .u32 0, .int .u64 0, .bool false]) ∧ Below w.heap.size w w' := by
  go_enter Tryd.func46, Tryd.ntmps46
  go_wp2
  refine bodyPost_ret (v := .agg #[.bool false, .string t, .string ⟨#[]⟩, .string ⟨#[]⟩, .int .u32 0, .int .u64 0, .bool false]) (by simp [results, Tryd.results46, go_sem]) rfl ⟨rfl, (Below.refl _ _).alloc (Nat.le_refl _) _⟩

set_option maxHeartbeats 400000 in
theorem verbs_any (w : World) :
    Calls Tryd.prog 31 #[] w fun r w' => ∃ v, r = .returned v ∧ Row1 w w' v 6 9 #[.string ⟨#[115, 101, 116]⟩, .string ⟨#[97, 100, 100]⟩, .string ⟨#[114, 101, 112, 108, 97, 99, 101]⟩, .string ⟨#[97, 112, 112, 101, 110, 100]⟩, .string ⟨#[112, 114, 101, 112, 101, 110, 100]⟩, .string ⟨#[99, 97, 115]⟩] ∧ Below w.heap.size w w' := by
  go_enter Tryd.func31, Tryd.ntmps31
  go_wp2
  go_ret
  exact ⟨_, rfl, ⟨w.heap.size, rfl, Nat.le_refl _, by simp, heap_alloc_new _ _⟩, (Below.refl _ _).alloc (Nat.le_refl _) _⟩

set_option maxHeartbeats 400000 in
theorem plain_any (a : M.Ans) (w : World) :
    Calls Tryd.prog 64 #[.agg #[.bool a.v, .string a.key, .string a.data, .string a.text, .int .u32 a.flags, .int .u64 a.cas, .bool a.withCas]] w
      fun r w' => r = .returned (ansV (M.plain a)) ∧ Below w.heap.size w w' := by
  obtain ⟨v, key, data, text, flags, cas, wc⟩ := a
  cases v
  · go_enter Tryd.func64, Tryd.ntmps64
    go_wp2_with (go_at_call 41; refine (line_any _ _).mono ?_; rintro e w1 ⟨rfl, hb⟩; obtain ⟨hc, hf, hz⟩ := bcell hb)
    refine bodyPost_ret (v := .agg #[.bool false, .string ⟨#[]⟩, .string ⟨#[]⟩, .string text, .int .u32 0, .int .u64 0, .bool false]) ?_ rfl ⟨rfl, ?_⟩
    · simp [results, Tryd.results64, go_sem, hc]
    · have h0 := ((Below.refl w.heap.size w).alloc (Nat.le_refl _) (.cells #[.bool false, .string key, .string data, .string text, .int .u32 flags, .int .u64 cas, .bool wc] 46)).alloc (by simp) (.cells #[.bool false, .string ⟨#[]⟩, .string ⟨#[]⟩, .string ⟨#[]⟩, .int .u32 0, .int .u64 0, .bool false] 46)
      have h1 := h0.trans (hb.mono (by simp; omega))
      repeat (first | with_reducible exact h1 | (with_reducible refine Below.setCell ?_ ?_ _; rotate_left; · simp))
  · go_enter Tryd.func64, Tryd.ntmps64
    go_wp2
    refine bodyPost_ret (v := .agg #[.bool true, .string key, .string data, .string ⟨#[]⟩, .int .u32 flags, .int .u64 cas, .bool wc]) ?_ rfl ⟨rfl, ?_⟩
    · simp [results, Tryd.results64, go_sem]
    · repeat (first | with_reducible exact Below.refl _ _ | (with_reducible refine Below.setCell ?_ ?_ _; rotate_left; · simp) | (with_reducible refine Below.alloc ?_ ?_ _; rotate_left; · simp))
end Go.Proofs.YtbhnmaghnnpboaaDoor
/- slices.Clone over strings, whatever the slice. -/
namespace Go.Proofs.YtbhnmaghnnpboaaDoor
open Go.RowKit

theorem clone_any (A : Option Addr) (n c : Nat) (ks : List ByteArray) (w : World) (h : RdS w w.heap.size A n ks) :
    Calls Tryd.prog 47 #[.slice A n c] w fun r w' => ∃ A' c', r = .returned (.slice A' n c') ∧ RdS w' w'.heap.size A' n ks ∧ Below w.heap.size w w' := by
  obtain ⟨hl, hs, hr⟩ := h
  cases A with
  | none =>
    obtain rfl : n = 0 := by
      cases n with
      | zero => rfl
      | succ n => obtain ⟨b, off, hA, _⟩ := hr (by omega); cases hA
    obtain rfl : ks = [] := List.eq_nil_of_length_eq_zero hl
    exact (Tryd.slices_Clone_string_nil 0 c w).mono fun e w' ⟨he, hw⟩ => by subst hw; exact ⟨none, 0, he, RdS.nil _ _ _, Below.refl _ _⟩
  | some a =>
    cases n with
    | zero =>
      obtain rfl : ks = [] := List.eq_nil_of_length_eq_zero hl
      refine (Tryd.slices_Clone_string_zero a c w).mono fun e w' ⟨v, he, ho, _, hb'⟩ => ?_
      obtain ⟨A', c', rfl⟩ := owns_shape ho
      exact ⟨A', c', he, RdS.nil _ _ _, hb'⟩
    | succ n =>
      obtain ⟨b, off, hA, hb, hc⟩ := hr (by omega)
      obtain rfl := Option.some.inj hA
      refine (Tryd.slices_Clone_string b off (n + 1) c ks w (by omega) hs (fun j hj => by rw [hc j (by omega)]; rfl)).mono fun e w' ⟨v, he, ho, _, hb'⟩ => ?_
      obtain ⟨A', c', rfl⟩ := owns_shape ho
      rw [List.take_of_length_le (by omega)] at ho
      exact ⟨A', c', he, RdS.own ho hs, hb'⟩
end Go.Proofs.YtbhnmaghnnpboaaDoor
/- words: Text, spelt, Key. -/
namespace Go.Proofs.YtbhnmaghnnpboaaDoor
open Go.RowKit

/-- What the library's variables hold. -/
structure Tabs (w : World) : Prop where
  u8 : Lib.Utf8Tabs 0 1 w
  p10 : Lib.TabIs Tryd.prog w "internal/strconv.uint64pow10" IntKind.u64 Lib.pow10Tab
  rng : ∃ tp p, World.var? Tryd.prog w "strconv.ErrRange" = some #[Value.iface tp p]
  big : 7 ≤ w.heap.size

theorem Tabs.below {w w' : World} {B : Nat} (h : Tabs w) (hb : Below B w w') (hB : 7 ≤ B) : Tabs w' := by
  have hblk : ∀ k, k < 7 → w'.heap[k]? = w.heap[k]? := fun k hk => hb.block k (by omega)
  have hc : ∀ b o, b < 7 → w'.cell? ⟨b, o, none⟩ = w.cell? ⟨b, o, none⟩ := fun b o hk => World.cell?_of_block (hblk b hk)
  refine ⟨⟨fun c hcc => by rw [hc 0 c (by omega)]; exact h.u8.1 c hcc, fun i hi => by rw [hc 1 _ (by omega), hc 1 _ (by omega)]; exact h.u8.2 i hi⟩, ?_, ?_, Nat.le_trans h.big hb.size⟩
  · have g : Tryd.prog.globalNamed "internal/strconv.uint64pow10" = some 4 := by kernel_rfl
    have h1 := h.p10
    unfold Lib.TabIs World.var? at h1 ⊢
    rw [g] at h1 ⊢
    simp only [Option.bind_some] at h1 ⊢
    rw [hblk 4 (by omega)]; exact h1
  · have g : Tryd.prog.globalNamed "strconv.ErrRange" = some 3 := by kernel_rfl
    obtain ⟨tp, p, h1⟩ := h.rng
    refine ⟨tp, p, ?_⟩
    unfold World.var? at h1 ⊢
    rw [g] at h1 ⊢
    simp only [Option.bind_some] at h1 ⊢
    rw [hblk 3 (by omega)]; exact h1
theorem Tabs.bel {w w' : World} (h : Tabs w) (hb : Below w.heap.size w w') : Tabs w' := h.below hb h.big

set_option maxHeartbeats 6400000 in
set_option maxRecDepth 100000 in
/-- internal/strconv.FormatUint at base 10. -/
theorem ifmtu_any (u : Nat) (hu64 : u < 18446744073709551616) (w : World) (ht : Tabs w) :
    Calls Tryd.prog 75 #[.int .u64 u, .int .i64 10] w fun e w' => e = .returned (.string ⟨(Lib.decDigits u).toArray⟩) ∧ Below w.heap.size w w' := by
  have htab := ht.p10
  clear ht
  by_cases hs : u < 100
  · go_enter Tryd.func75, Tryd.ntmps75
    go_wp2_with (go_at_call 82; refine (Tryd.internal_strconv_small u hs _).mono ?_; rintro e w' ⟨rfl, rfl⟩)
    go_ret
    exact ⟨rfl, Below.refl _ _⟩
  · have hu1 : 1 ≤ u := by omega
    have hnd20 : Lib.nDigits u ≤ 20 := by have := Lib.numDigits_eq u hu1 hu64; split at this <;> omega
    have hb3 : Lib.nDigits u ≤ 24 := by omega
    have hal : Tryd.prog.arrayLen 166 = 24 := by kernel_rfl
    have hsl1 : ∀ W, (Instr.sliceAt 166 (.pointer (some ⟨w.heap.size, 0, none⟩)) none (some (.int .i64 (Lib.nDigits u : Int))) none).run Tryd.prog W = .ok (.slice (some ⟨w.heap.size, 0, none⟩) (Lib.nDigits u) 24) W := fun W => by
      rw [run_sliceAt_array_h W 166 ⟨w.heap.size, 0, none⟩ (by kernel_rfl) .i64 (Lib.nDigits u : Int) (by omega) (by rw [hal]; omega)]
      go_simp
    have hH0 := Lib.holds_zero0 w 166 (Lib.nDigits u) (by omega)
    have hfmt := Tryd.internal_strconv_formatBase10 w.heap.size 0 24 u (Array.replicate (Lib.nDigits u) 0) (w.alloc (.cells Lib.zeros24 166)) hH0 (by rw [Array.size_replicate]; exact Lib.lt_pow_nDigits u) hu64 (by rw [Array.size_replicate]; omega)
    rw [Array.size_replicate] at hfmt
    have HH0 := Lib.hid hH0
    have HF := Lib.hid hfmt
    clear hH0 hal hfmt
    go_enter Tryd.func75, Tryd.ntmps75
    go_wp2_with (first
      | (go_at_call 83; refine (Tryd.internal_strconv_numDigits u hu1 hu64 _ (Lib.tabIs_alloc htab _)).mono ?_; rintro e w' ⟨rfl, rfl⟩))
    refine HF.out.mono ?_
    rintro e w' ⟨rfl, k, v', dk, rfl, hF⟩
    have hcv : (convert 161 9 (.slice (some ⟨w.heap.size, 0, none⟩) (Lib.nDigits u) 24)).run Tryd.prog ((Sort.putRow (fun (b : UInt8) => Value.int .u8 (b.toNat : Int)) (w.alloc (.cells Lib.zeros24 166)) w.heap.size 0 dk).drewN k) = .ok (.string ⟨(Lib.decDigits u).toArray⟩) ((Sort.putRow (fun (b : UInt8) => Value.int .u8 (b.toNat : Int)) (w.alloc (.cells Lib.zeros24 166)) w.heap.size 0 dk).drewN k) := by
      have h := run_convert_bytes_back (P := Tryd.prog) ((Sort.putRow (fun (b : UInt8) => Value.int .u8 (b.toNat : Int)) (w.alloc (.cells Lib.zeros24 166)) w.heap.size 0 dk).drewN k) 161 9 5 ⟨w.heap.size, 0, none⟩ 24 (Lib.decDigits u) Tryd.underlying161 Tryd.underlying5 Tryd.underlying9 (fun j hj => by
        rw [Lib.row_is_numeral hF j hj, Lib.add_plain, World.cell?_drewN]
        exact Sort.cell?_putRow (fun (b : UInt8) => Value.int .u8 (b.toNat : Int)) _ w.heap.size 0 _ dk HH0.out (by rw [hF.size, Array.size_replicate]) j (by rw [hF.size]; rw [Lib.decDigits_length] at hj; exact hj))
      rw [Lib.decDigits_length] at h
      exact h
    go_wp2
    go_ret
    refine ⟨rfl, ?_⟩
    obtain ⟨os, eo⟩ := Lib.fin_at w (.cells Lib.zeros24 166) dk k 0
    rw [eo]
    exact Lib.below_grow _ _ (Nat.le_refl _) _ _

/-- words.Text. -/
theorem text_any (u : Nat) (hu64 : u < 18446744073709551616) (w : World) (ht : Tabs w) :
    Calls Tryd.prog 62 #[.int .u64 u] w fun e w' => e = .returned (.string ⟨(Lib.decDigits u).toArray⟩) ∧ Below w.heap.size w w' := by
  have h1 : Calls Tryd.prog 70 #[.int .u64 u, .int .i64 10] w fun e w' => e = .returned (.string ⟨(Lib.decDigits u).toArray⟩) ∧ Below w.heap.size w w' := by
    go_enter Tryd.func70, Tryd.ntmps70
    go_wp2_with (go_at_call 75; refine (ifmtu_any u hu64 _ ht).mono ?_; rintro e w' ⟨rfl, hb⟩)
    go_ret
    exact ⟨rfl, hb⟩
  have H1 := Lib.hid h1
  clear h1
  go_enter Tryd.func62, Tryd.ntmps62
  go_wp2_with (go_at_call 70; refine H1.out.mono ?_; rintro e w' ⟨rfl, hb⟩)
  go_ret
  exact ⟨rfl, hb⟩

/-! ### spelt, Key -/
def speltF (s : ByteArray) (pos r : Nat) : Bool := r != 65533 || decide (1 < (Lib.decodeGo (s.extract pos s.size)).2)
/-- May this rune stand in a key? -/
def runeOk (s : ByteArray) (pos r : Nat) : Bool := speltF s pos r && decide (32 < r) && !(decide (127 ≤ r) && decide (r ≤ 160)) && (r != 8232) && (r != 8233)
def keyFrom (s : ByteArray) : Nat → Nat → Bool
  | 0, _ => true
  | k + 1, pos => if pos < s.size then runeOk s pos (Utf8.decode s pos).1 && keyFrom s k (pos + (Utf8.decode s pos).2) else true
def keyF (s : ByteArray) : Bool := decide (1 ≤ s.size) && decide (s.size ≤ 250) && keyFrom s s.size 0

set_option maxHeartbeats 1000000 in
theorem spelt_any (s : ByteArray) (pos r : Nat) (_hs : s.size ≤ 250) (hp : pos < s.size) (hr : r ≤ 2147483647) (w : World) (ht : Tabs w) :
    Calls Tryd.prog 50 #[.string s, .int .i64 pos, .int .i32 r] w fun e w' => e = .returned (.bool (speltF s pos r)) ∧ Below w.heap.size w w' := by
  have h1 : (pos : Int) ≤ (s.size : Int) := by omega
  have h2 : (0 : Int) ≤ (pos : Int) := by omega
  by_cases h : r = 65533
  · subst h
    go_enter Tryd.func50, Tryd.ntmps50
    go_wp2_with (go_at_call 63; refine (Tryd.utf8_DecodeRuneInString _ _ ht.u8).mono ?_; rintro e w' ⟨rfl, hb⟩)
    go_ret
    refine ⟨?_, hb⟩
    have e1 : speltF s pos 65533 = decide ((1 : Int) < ((Lib.decodeGo (s.extract pos s.size)).2 : Nat)) := by
      unfold speltF
      rw [Bool.eq_iff_iff]; simp; omega
    rw [e1]; rfl
  · have h3 : ((r : Int) != 65533) = true := by simp; omega
    go_enter Tryd.func50, Tryd.ntmps50
    go_wp2_with fail
    go_ret
    refine ⟨?_, Below.refl _ _⟩
    have : speltF s pos r = true := by unfold speltF; simp [h]
    rw [this]; rfl

theorem decode_pos (s : ByteArray) (pos : Nat) (h : pos < s.size) : 1 ≤ (Utf8.decode s pos).2 := by
  by_cases ha : (s[pos]'h).toNat < 128
  · rw [decode_ascii s pos h ha]; exact Nat.le_refl _
  · exact (decode_high s pos h (by omega)).2

set_option maxRecDepth 100000 in
set_option maxHeartbeats 4000000 in
theorem key_loop (s : ByteArray) (h1 : 1 ≤ s.size) (h2 : s.size ≤ 250) (w : World) (ht : Tabs w) :
    Calls Tryd.prog 34 #[.string s] w fun e w' => e = .returned (.bool (keyFrom s s.size 0)) ∧ Below w.heap.size w w' := by
  have g1 : decide ((s.size : Int) < 1) = false := by simp; omega
  have g2 : decide ((250 : Int) < (s.size : Int)) = false := by simp; omega
  have hb0 : Below w.heap.size w (w.iter s 0) := (Below.refl _ w).alloc (Nat.le_refl _) _
  have hk0 : (w.iter s 0).heap[w.heap.size]? = some (.stringIter s 0) := World.iter_heap w s 0
  have T0 := Lib.hid ht
  clear ht
  go_enter Tryd.func34, Tryd.ntmps34
  go_wp2_with fail
  go_loopw [3, 4] (fun _ _ wr => ∃ pos fuel : Nat, s.size - pos ≤ fuel ∧ keyFrom s s.size 0 = keyFrom s fuel pos ∧ wr.heap[w.heap.size]? = some (.stringIter s pos) ∧ Below w.heap.size w wr)
    (fun _ _ wr => s.size - wr.iterPos w.heap.size)
  case atStart => exact ⟨0, s.size, by omega, rfl, hk0, hb0⟩
  case round =>
    obtain ⟨pos, fuel, hf, hkf, hk, hnx⟩ := hrel
    clear hb0 hk0
    by_cases hp : pos < s.size
    · obtain ⟨fuel, rfl⟩ : ∃ m, fuel = m + 1 := ⟨fuel - 1, by omega⟩
      have hnext : ∀ ty, (Instr.next (.pointer (some ⟨w.heap.size, 0, none⟩)) true ty).run Tryd.prog wr = _ := fun ty => Lib.run_next_any_at wr w.heap.size s pos ty hk hp
      have hk1 := Lib.iterAt_heap wr w.heap.size s pos (pos + (Utf8.decode s pos).2) hk
      have hnx1 : Below w.heap.size w (wr.iterAt w.heap.size s (pos + (Utf8.decode s pos).2)) := Lib.below_iterAt hnx (Nat.le_refl _) s _
      have hr := decode_le s pos
      have hmu : wr.iterPos w.heap.size = pos := by simp [World.iterPos, hk]
      have hd1 : 1 ≤ (Utf8.decode s pos).2 := decode_pos s pos hp
      have hstep : keyFrom s (fuel + 1) pos = (runeOk s pos (Utf8.decode s pos).1 && keyFrom s fuel (pos + (Utf8.decode s pos).2)) := by
        show (if pos < s.size then _ else _) = _
        rw [if_pos hp]
      rw [hstep] at hkf
      clear hstep
      have T1 : Tabs (wr.iterAt w.heap.size s (pos + (Utf8.decode s pos).2)) := T0.out.below hnx1 T0.out.big
      generalize wr.iterAt w.heap.size s (pos + (Utf8.decode s pos).2) = W1 at hnext hk1 hnx1 T1
      generalize (Utf8.decode s pos).1 = r at hnext hr hkf
      generalize (Utf8.decode s pos).2 = d at hkf hk1 hd1
      have hc := spelt_any s pos r h2 hp hr W1 T1
      have hcases : (speltF s pos r = false) ∨ (speltF s pos r = true ∧ r ≤ 32) ∨ (speltF s pos r = true ∧ 32 < r ∧ r < 127) ∨ (speltF s pos r = true ∧ 127 ≤ r ∧ r ≤ 160) ∨ (speltF s pos r = true ∧ r = 8232) ∨ (speltF s pos r = true ∧ r = 8233) ∨ (speltF s pos r = true ∧ 160 < r ∧ r ≠ 8232 ∧ r ≠ 8233) := by
        cases speltF s pos r <;> simp <;> omega
      have HM := Lib.hid hmu
      have hkf := Lib.hid hkf
      clear hmu hk T1
      rcases hcases with hs | ⟨hs, c1⟩ | ⟨hs, c1, c2⟩ | ⟨hs, c1, c2⟩ | ⟨hs, c1⟩ | ⟨hs, c1⟩ | ⟨hs, c1, c2, c3⟩
      · have HF := Lib.hid (show runeOk s pos r = false by unfold runeOk; rw [hs]; simp; try omega)
        rw [hs] at hc
        have HC := Lib.hid hc
        clear hc hs
        skip
        go_wp2_with (go_at_call 50; refine HC.out.mono ?_; rintro e W2 ⟨rfl, hb2⟩)
        go_ret
        refine ⟨?_, hnx1.trans (hb2.mono hnx1.size)⟩
        rw [hkf.out, HF.out]; rfl
      · have HF := Lib.hid (show runeOk s pos r = false by unfold runeOk; rw [hs]; simp; try omega)
        rw [hs] at hc
        have HC := Lib.hid hc
        clear hc hs
        have t1 : decide ((r : Int) ≤ 32) = true := by simp; omega
        go_wp2_with (go_at_call 50; refine HC.out.mono ?_; rintro e W2 ⟨rfl, hb2⟩)
        go_ret
        refine ⟨?_, hnx1.trans (hb2.mono hnx1.size)⟩
        rw [hkf.out, HF.out]; rfl
      · have HF := Lib.hid (show runeOk s pos r = true by unfold runeOk; rw [hs]; simp; try omega)
        rw [hs] at hc
        have HC := Lib.hid hc
        clear hc hs
        have t1 : decide ((r : Int) ≤ 32) = false := by simp; omega
        have t2 : decide ((127 : Int) ≤ (r : Int)) = false := by simp; omega
        have t3 : ((r : Int) == 8232) = false := by simp; omega
        have t4 : ((r : Int) == 8233) = false := by simp; omega
        go_wp2_with (go_at_call 50; refine HC.out.mono ?_; rintro e W2 ⟨rfl, hb2⟩)
        go_roundw
        case rel =>
          refine ⟨pos + d, fuel, by omega, by rw [hkf.out, HF.out, Bool.true_and], (hb2.block w.heap.size (by have := (Array.getElem?_eq_some_iff.1 hk1).1; exact this)).trans hk1, hnx1.trans (hb2.mono hnx1.size)⟩
        case measure =>
          have hmu2 : W2.iterPos w.heap.size = pos + d := by
            have := (hb2.block w.heap.size (by have := (Array.getElem?_eq_some_iff.1 hk1).1; exact this)).trans hk1
            simp [World.iterPos, this]
          rw [HM.out, hmu2]; omega
      · have HF := Lib.hid (show runeOk s pos r = false by unfold runeOk; rw [hs]; simp; try omega)
        rw [hs] at hc
        have HC := Lib.hid hc
        clear hc hs
        have t1 : decide ((r : Int) ≤ 32) = false := by simp; omega
        have t2 : decide ((127 : Int) ≤ (r : Int)) = true := by simp; omega
        have t3 : decide ((r : Int) ≤ 160) = true := by simp; omega
        go_wp2_with (go_at_call 50; refine HC.out.mono ?_; rintro e W2 ⟨rfl, hb2⟩)
        go_ret
        refine ⟨?_, hnx1.trans (hb2.mono hnx1.size)⟩
        rw [hkf.out, HF.out]; rfl
      · have HF := Lib.hid (show runeOk s pos r = false by unfold runeOk; rw [hs]; simp; try omega)
        rw [hs] at hc
        have HC := Lib.hid hc
        clear hc hs
        subst c1
        go_wp2_with (go_at_call 50; refine HC.out.mono ?_; rintro e W2 ⟨rfl, hb2⟩)
        go_ret
        refine ⟨?_, hnx1.trans (hb2.mono hnx1.size)⟩
        rw [hkf.out, HF.out]; rfl
      · have HF := Lib.hid (show runeOk s pos r = false by unfold runeOk; rw [hs]; simp; try omega)
        rw [hs] at hc
        have HC := Lib.hid hc
        clear hc hs
        subst c1
        go_wp2_with (go_at_call 50; refine HC.out.mono ?_; rintro e W2 ⟨rfl, hb2⟩)
        go_ret
        refine ⟨?_, hnx1.trans (hb2.mono hnx1.size)⟩
        rw [hkf.out, HF.out]; rfl
      · have HF := Lib.hid (show runeOk s pos r = true by unfold runeOk; rw [hs]; simp; try omega)
        rw [hs] at hc
        have HC := Lib.hid hc
        clear hc hs
        have t1 : decide ((r : Int) ≤ 32) = false := by simp; omega
        have t2 : decide ((127 : Int) ≤ (r : Int)) = true := by simp; omega
        have t3 : decide ((r : Int) ≤ 160) = false := by simp; omega
        have t4 : ((r : Int) == 8232) = false := by simp; omega
        have t5 : ((r : Int) == 8233) = false := by simp; omega
        go_wp2_with (go_at_call 50; refine HC.out.mono ?_; rintro e W2 ⟨rfl, hb2⟩)
        go_roundw
        case rel =>
          refine ⟨pos + d, fuel, by omega, by rw [hkf.out, HF.out, Bool.true_and], (hb2.block w.heap.size (by have := (Array.getElem?_eq_some_iff.1 hk1).1; exact this)).trans hk1, hnx1.trans (hb2.mono hnx1.size)⟩
        case measure =>
          have hmu2 : W2.iterPos w.heap.size = pos + d := by
            have := (hb2.block w.heap.size (by have := (Array.getElem?_eq_some_iff.1 hk1).1; exact this)).trans hk1
            simp [World.iterPos, this]
          rw [HM.out, hmu2]; omega
    · have hnext : ∀ ty, (Instr.next (.pointer (some ⟨w.heap.size, 0, none⟩)) true ty).run Tryd.prog wr = _ := fun ty => Lib.run_next_end_at wr w.heap.size s pos ty hk hp
      have hkt : keyFrom s s.size 0 = true := by
        rw [hkf]; cases fuel with
        | zero => rfl
        | succ n => unfold keyFrom; rw [if_neg hp]
      have HK := Lib.hid hkt
      clear hkt hkf
      go_wp2_with fail
      go_ret
      refine ⟨?_, hnx⟩
      rw [HK.out]; rfl

set_option maxHeartbeats 1000000 in
/-- words.Key. -/
theorem key_any (s : ByteArray) (w : World) (ht : Tabs w) :
    Calls Tryd.prog 34 #[.string s] w fun e w' => e = .returned (.bool (keyF s)) ∧ Below w.heap.size w w' := by
  by_cases h1 : 1 ≤ s.size
  · by_cases h2 : s.size ≤ 250
    · have : keyF s = keyFrom s s.size 0 := by unfold keyF; simp [h1, h2]
      rw [this]; exact key_loop s h1 h2 w ht
    · have e : keyF s = false := by unfold keyF; simp [h2]
      have g1 : decide ((s.size : Int) < 1) = false := by simp; omega
      have g2 : decide ((250 : Int) < (s.size : Int)) = true := by simp; omega
      have HE := Lib.hid e
      clear e
      go_enter Tryd.func34, Tryd.ntmps34
      go_wp2_with fail
      go_ret
      refine ⟨?_, Below.refl _ _⟩
      rw [HE.out]; rfl
  · have e : keyF s = false := by unfold keyF; simp [h1]
    have g1 : decide ((s.size : Int) < 1) = true := by simp; omega
    have HE := Lib.hid e
    clear e
    go_enter Tryd.func34, Tryd.ntmps34
    go_wp2_with fail
    go_ret
    refine ⟨?_, Below.refl _ _⟩
    rw [HE.out]; rfl
end Go.Proofs.YtbhnmaghnnpboaaDoor

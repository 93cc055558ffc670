/- words.Number; slices.Contains over uint64; slices.ContainsFunc over event.Good's closure. -/
import Derived.Test.YtbhnmaghnnpboaaDoorZb
import Derived.WideLaws
import Derived.Lib.IfaceNeq
import Derived.Deep.RegionHeld3
import Derived.Deep.DrawnRows
namespace Go.Proofs.YtbhnmaghnnpboaaDoor
open Go.RowKit

def digitB (c : UInt8) : Bool := decide (48 ≤ c.toNat) && decide (c.toNat ≤ 57)
def numF (s : ByteArray) : Int × Bool :=
  if s.size < 1 ∨ 20 < s.size then (0, false)
  else if s.data.toList.all digitB then
    match Lib.parseUintB 64 s.data.toList with
    | .ok u => (u, true)
    | _ => (0, false)
  else (0, false)

theorem parse_digits (M acc : Nat) : ∀ l : List UInt8, l.all digitB = true → (∃ u, Lib.parseUintM M acc l = .ok u) ∨ Lib.parseUintM M acc l = .range
  | [], _ => .inl ⟨_, rfl⟩
  | c :: l, h => by
    rw [List.all_cons, Bool.and_eq_true] at h
    have hc : 48 ≤ c.toNat ∧ c.toNat ≤ 57 := by simpa [digitB] using h.1
    unfold Lib.parseUintM
    rw [if_pos hc]
    split
    · exact .inr rfl
    · split
      · exact .inr rfl
      · exact parse_digits M _ l h.2

theorem bel_bytes (w : World) (e : TypeId) (s : ByteArray) : Below w.heap.size w (Lib.bytesWorld w e s) := Lib.bytesWorld_below w e s

set_option maxRecDepth 100000 in
set_option maxHeartbeats 4000000 in
theorem number_body (s : ByteArray) (h1 : 1 ≤ s.size) (h2 : s.size ≤ 20) (w : World) (ht : Tabs w) :
    Calls Tryd.prog 61 #[.string s] w fun e w' => e = .returned (.tuple #[.int .u64 (numF s).1, .bool (numF s).2]) ∧ Below w.heap.size w w' := by
  have g1 : decide ((s.size : Int) < 1) = false := by simp; omega
  have g2 : decide ((20 : Int) < (s.size : Int)) = false := by simp; omega
  have hn : numF s = if s.data.toList.all digitB then (match Lib.parseUintB 64 s.data.toList with | .ok u => ((u : Int), true) | _ => (0, false)) else (0, false) := by
    unfold numF; rw [if_neg (by omega)]
  have HN := Lib.hid hn
  have T0 := Lib.hid ht
  clear ht hn
  go_enter Tryd.func61, Tryd.ntmps61
  go_wp2_with fail
  go_loop [4] (fun i => ∃ k : Nat, k ≤ s.size ∧ i = .int .i64 k ∧ ∀ j (hj : j < s.size), j < k → digitB s[j] = true) (fun i => s.size - (intOf i).toNat)
  case atStart => exact ⟨0, Nat.zero_le _, rfl, fun j _ h => absurd h (by omega)⟩
  case round =>
    obtain ⟨k, hk, rfl, hall⟩ := hrel
    have HA := Lib.hid hall
    clear hall
    by_cases hlt : k < s.size
    · by_cases hd : 48 ≤ s[k].toNat ∧ s[k].toNat ≤ 57
      · have t1 : decide ((s[k].toNat : Int) < 48) = false := by simp; omega
        have t2 : decide ((57 : Int) < (s[k].toNat : Int)) = false := by simp; omega
        have HD := Lib.hid hd
        clear hd
        go_wp2_with fail
        go_round
        case rel =>
          refine ⟨k + 1, by omega, by go_num, fun j hj hjk => ?_⟩
          by_cases e : j < k
          · exact HA.out j hj e
          · obtain rfl : j = k := by omega
            have := HD.out
            simp [digitB]; omega
        case measure => simp [intOf]; omega
      · have hf : s.data.toList.all digitB = false := by
          rw [List.all_eq_false]
          refine ⟨s[k], ?_, ?_⟩
          · exact List.getElem_mem (l := s.data.toList) (by simpa using hlt)
          · simp [digitB]; omega
        have hv : numF s = (0, false) := by rw [HN.out, hf]; rfl
        have HV := Lib.hid hv
        clear hv hf
        by_cases h48 : s[k].toNat < 48
        · have t1 : decide ((s[k].toNat : Int) < 48) = true := by simp; omega
          clear hd h48
          go_wp2_with fail
          go_ret2
          refine ⟨?_, Below.refl _ _⟩
          rw [HV.out]; rfl
        · have t1 : decide ((s[k].toNat : Int) < 48) = false := by simp; omega
          have t2 : decide ((57 : Int) < (s[k].toNat : Int)) = true := by simp; omega
          clear hd h48
          go_wp2_with fail
          go_ret2
          refine ⟨?_, Below.refl _ _⟩
          rw [HV.out]; rfl
    · have hall : s.data.toList.all digitB = true := by
        rw [List.all_eq_true]
        intro c hc
        obtain ⟨j, hj, rfl⟩ := List.getElem_of_mem hc
        have hj' : j < s.size := by simpa using hj
        have hkk : k = s.size := by omega
        exact HA.out j hj' (by rw [hkk]; exact hj')
      have hns := parse_digits (2 ^ 64 - 1) 0 _ hall
      have hne : s.data.toList ≠ [] := fun e => by
        have h0 : s.data.toList.length = 0 := by rw [e]; rfl
        rw [Array.length_toList] at h0
        have h3 : s.size = s.data.size := rfl
        omega
      have hpe : Lib.parseUintB 64 s.data.toList = Lib.parseUintM (2 ^ 64 - 1) 0 s.data.toList := by
        unfold Lib.parseUintB; rw [if_neg hne]
      have hn := HN.out
      rw [hall, if_pos rfl] at hn
      rcases hns with ⟨u, hu⟩ | hu
      · have hp : Lib.parseUintB 64 s.data.toList = .ok u := hpe.trans hu
        rw [hp] at hn
        have hn := Lib.hid hn
        have HP := Lib.hid hp
        have HC := Lib.hid (Tryd.strconv_ParseUint_10_at64_ok s (by omega) u hp w)
        clear hu hpe hp hall
        go_wp2_with (go_at_call 69; refine HC.out.mono ?_; rintro e W2 ⟨rfl, hw2⟩)
        go_ret2
        refine ⟨?_, ?_⟩
        · rw [hn.out]; rfl
        · rcases hw2 with rfl | rfl
          · exact Below.refl _ _
          · exact bel_bytes _ _ _
      · have hp : Lib.parseUintB 64 s.data.toList = .range := hpe.trans hu
        rw [hp] at hn
        have hn := Lib.hid hn
        have HP := Lib.hid hp
        obtain ⟨tp, p, hv⟩ := T0.out.rng
        have HC := Lib.hid (Tryd.strconv_ParseUint_10_at64_range_var s (by omega) hp tp p w hv)
        clear hu hpe hp hall hv
        go_wp2_with (go_at_call 69; refine HC.out.mono ?_; rintro e W2 ⟨N, rfl, h3, h4, hb2⟩)
        go_ret2
        refine ⟨?_, hb2⟩
        rw [hn.out]; rfl

set_option maxHeartbeats 1000000 in
/-- words.Number. -/
theorem number_any (s : ByteArray) (w : World) (ht : Tabs w) :
    Calls Tryd.prog 61 #[.string s] w fun e w' => e = .returned (.tuple #[.int .u64 (numF s).1, .bool (numF s).2]) ∧ Below w.heap.size w w' := by
  by_cases h1 : 1 ≤ s.size
  · by_cases h2 : s.size ≤ 20
    · exact number_body s h1 h2 w ht
    · have e : numF s = (0, false) := by unfold numF; rw [if_pos (by omega)]
      have g1 : decide ((s.size : Int) < 1) = false := by simp; omega
      have g2 : decide ((20 : Int) < (s.size : Int)) = true := by simp; omega
      have HE := Lib.hid e
      clear e
      go_enter Tryd.func61, Tryd.ntmps61
      go_wp2_with fail
      go_ret2
      refine ⟨?_, Below.refl _ _⟩
      rw [HE.out]; rfl
  · have e : numF s = (0, false) := by unfold numF; rw [if_pos (by omega)]
    have g1 : decide ((s.size : Int) < 1) = true := by simp; omega
    have HE := Lib.hid e
    clear e
    go_enter Tryd.func61, Tryd.ntmps61
    go_wp2_with fail
    go_ret2
    refine ⟨?_, Below.refl _ _⟩
    rw [HE.out]; rfl

/-! ### slices.Contains at uint64 -/
/-- The slice value '.slice A n c' reads as the numbers zs; it lies below block B. -/
def RdU (w : World) (B : Nat) (A : Option Addr) (n : Nat) (zs : List Int) : Prop :=
  zs.length = n ∧ n ≤ 9223372036854775807 ∧ (0 < n → ∃ b off, A = some ⟨b, off, none⟩ ∧ b < B ∧ ∀ j, j < n → w.cell? ⟨b, off + j, none⟩ = some (.int .u64 (zs.getD j 0)))

def IdxU (zs : List Int) (x : Int) (w : World) (e : Ending) (w' : World) : Prop := (∃ i : Int, e = .returned (.int .i64 i) ∧ decide (0 ≤ i) = zs.contains x) ∧ w = w'

set_option maxHeartbeats 1000000 in
theorem indexu_any (A : Option Addr) (n c : Nat) (zs : List Int) (x : Int) (w : World) (h : RdU w w.heap.size A n zs) :
    Calls Tryd.prog 68 #[.slice A n c, .int .u64 x] w (IdxU zs x w) := by
  obtain ⟨hl, hn, hr⟩ := h
  have HL := Lib.hid hl
  clear hl
  go_enter Tryd.func68, Tryd.ntmps68
  go_wp2_with fail
  go_loop [8] (fun i => ∃ k : Nat, k ≤ n ∧ i = .int .i64 k ∧ ∀ j, j < k → zs.getD j 0 ≠ x) (fun i => n - (intOf i).toNat)
  case atStart => exact ⟨0, Nat.zero_le _, rfl, fun j h => absurd h (by omega)⟩
  case round =>
    obtain ⟨k, hk, rfl, hall⟩ := hrel
    have HA := Lib.hid hall
    clear hall
    by_cases hlt : k < n
    · obtain ⟨b, off, rfl, hb, hc⟩ := hr (by omega)
      have hck := hc k hlt
      clear hc hr
      obtain ⟨y, hy⟩ : ∃ y, zs.getD k 0 = y := ⟨_, rfl⟩
      rw [hy] at hck
      have HY := Lib.hid hy
      clear hy
      by_cases hx : x = y
      · subst hx
        go_wp2_with fail
        go_ret
        refine ⟨⟨k, rfl, ?_⟩, rfl⟩
        have hm : x ∈ zs := by
          have h1 := HL.out
          have h2 := HY.out
          rw [List.getD, List.getElem?_eq_getElem (by omega)] at h2
          rw [← h2]; exact List.getElem_mem _
        simp [hm]
      · have t1 : (x == y) = false := by simp [hx]
        have HX := Lib.hid hx
        clear hx
        go_wp2_with fail
        go_round
        case rel =>
          refine ⟨k + 1, by omega, by go_num, fun j hj => ?_⟩
          by_cases e : j < k
          · exact HA.out j e
          · obtain rfl : j = k := by omega
            rw [HY.out]; exact fun e => HX.out e.symm
        case measure => simp [intOf]; omega
    · go_wp2_with fail
      go_ret
      refine ⟨⟨-1, rfl, ?_⟩, rfl⟩
      have : x ∉ zs := by
        intro hy
        obtain ⟨j, hj, rfl⟩ := List.getElem_of_mem hy
        have h1 := HL.out
        have h2 := HA.out j (by omega)
        exact h2 (by simp [List.getD, List.getElem?_eq_getElem hj])
      simp [this]

set_option maxHeartbeats 1000000 in
/-- slices.Contains at []uint64. -/
theorem containsu_any (A : Option Addr) (n c : Nat) (zs : List Int) (x : Int) (w : World) (h : RdU w w.heap.size A n zs) :
    Calls Tryd.prog 60 #[.slice A n c, .int .u64 x] w fun e w' => e = .returned (.bool (zs.contains x)) ∧ w = w' := by
  have HC := Lib.hid (indexu_any A n c zs x w h)
  clear h
  go_enter Tryd.func60, Tryd.ntmps60
  go_wp2_with (go_at_call 68; refine HC.out.mono ?_; rintro e W2 ⟨⟨i, rfl, hi⟩, rfl⟩; have HI := Lib.hid hi; clear hi)
  go_ret
  refine ⟨?_, rfl⟩
  rw [← HI.out]; rfl

/-! ### slices.ContainsFunc over the closure of event.Good -/
theorem wrong_any (s : ByteArray) (w : World) (ht : Tabs w) :
    Calls Tryd.prog 33 #[.string s] w fun e w' => e = .returned (.bool (!keyF s)) ∧ Below w.heap.size w w' := by
  have HC := Lib.hid (key_any s w ht)
  clear ht
  go_enter Tryd.func33, Tryd.ntmps33
  go_wp2_with (go_at_call 34; refine HC.out.mono ?_; rintro e W2 ⟨rfl, hb⟩)
  go_ret
  exact ⟨rfl, hb⟩

def IdxK (ks : List ByteArray) (w : World) (e : Ending) (w' : World) : Prop := (∃ i : Int, e = .returned (.int .i64 i) ∧ decide (0 ≤ i) = ks.any (fun k => !keyF k)) ∧ Below w.heap.size w w'

set_option maxHeartbeats 2000000 in
theorem indexf_any (A : Option Addr) (n c : Nat) (ks : List ByteArray) (w : World) (h : RdS w w.heap.size A n ks) (ht : Tabs w) :
    Calls Tryd.prog 51 #[.slice A n c, .func (.func 33) #[] #[]] w (IdxK ks w) := by
  obtain ⟨hl, hn, hr⟩ := h
  have HL := Lib.hid hl
  have T0 := Lib.hid ht
  clear hl ht
  go_enter Tryd.func51, Tryd.ntmps51
  go_wp2_with fail
  go_loopw [8] (fun i wr => ∃ k : Nat, k ≤ n ∧ i = .int .i64 k ∧ (∀ j, j < k → keyF (ks.getD j ⟨#[]⟩) = true) ∧ Below w.heap.size w wr) (fun i _ => n - (intOf i).toNat)
  case atStart => exact ⟨0, Nat.zero_le _, rfl, fun j h => absurd h (by omega), Below.refl _ _⟩
  case round =>
    obtain ⟨k, hk, rfl, hall, hnx⟩ := hrel
    have HA := Lib.hid hall
    clear hall
    by_cases hlt : k < n
    · obtain ⟨b, off, rfl, hb, hc⟩ := hr (by omega)
      have hck : wr.cell? ⟨b, off + k, none⟩ = some (.string (ks.getD k ⟨#[]⟩)) := (hnx.cell (p := ⟨b, off + k, none⟩) hb).trans (hc k hlt)
      clear hc hr
      obtain ⟨y, hy⟩ : ∃ y, ks.getD k ⟨#[]⟩ = y := ⟨_, rfl⟩
      rw [hy] at hck
      have HY := Lib.hid hy
      have hcall := wrong_any y wr (T0.out.bel hnx)
      clear hy
      by_cases hx : keyF y = true
      · rw [hx] at hcall
        have HX := Lib.hid hx
        have HC := Lib.hid hcall
        clear hx hcall
        go_wp2_with (go_at_call 33; refine HC.out.mono ?_; rintro e W2 ⟨rfl, hb2⟩)
        go_roundw
        case rel =>
          refine ⟨k + 1, by omega, by go_num, fun j hj => ?_, hnx.trans (hb2.mono hnx.size)⟩
          by_cases e : j < k
          · exact HA.out j e
          · obtain rfl : j = k := by omega
            rw [HY.out]; exact HX.out
        case measure => simp [intOf]; omega
      · have hx' : keyF y = false := by simpa using hx
        rw [hx'] at hcall
        have HX := Lib.hid hx'
        have HC := Lib.hid hcall
        clear hx hx' hcall
        go_wp2_with (go_at_call 33; refine HC.out.mono ?_; rintro e W2 ⟨rfl, hb2⟩)
        go_ret
        refine ⟨⟨k, rfl, ?_⟩, hnx.trans (hb2.mono hnx.size)⟩
        have hm : y ∈ ks := by
          have h1 := HL.out
          have h2 := HY.out
          rw [List.getD, List.getElem?_eq_getElem (by omega)] at h2
          rw [← h2]; exact List.getElem_mem _
        have : ks.any (fun k => !keyF k) = true := List.any_eq_true.2 ⟨y, hm, by rw [HX.out]; rfl⟩
        rw [this]; simp
    · go_wp2_with fail
      go_ret
      refine ⟨⟨-1, rfl, ?_⟩, hnx⟩
      have : ks.any (fun k => !keyF k) = false := by
        rw [List.any_eq_false]
        intro y hy
        obtain ⟨j, hj, rfl⟩ := List.getElem_of_mem hy
        have h1 := HL.out
        have h2 := HA.out j (by omega)
        simp [List.getD, List.getElem?_eq_getElem hj] at h2
        simp [h2]
      rw [this]; rfl

set_option maxHeartbeats 1000000 in
theorem containsf_any (A : Option Addr) (n c : Nat) (ks : List ByteArray) (w : World) (h : RdS w w.heap.size A n ks) (ht : Tabs w) :
    Calls Tryd.prog 35 #[.slice A n c, .func (.func 33) #[] #[]] w fun e w' => e = .returned (.bool (ks.any (fun k => !keyF k))) ∧ Below w.heap.size w w' := by
  have HC := Lib.hid (indexf_any A n c ks w h ht)
  clear h ht
  go_enter Tryd.func35, Tryd.ntmps35
  go_wp2_with (go_at_call 51; refine HC.out.mono ?_; rintro e W2 ⟨⟨i, rfl, hi⟩, hb⟩; have HI := Lib.hid hi; clear hi)
  go_ret
  refine ⟨?_, hb⟩
  rw [← HI.out]; rfl
end Go.Proofs.YtbhnmaghnnpboaaDoor
/- event.Of, for each kind of command. -/
namespace Go.Proofs.YtbhnmaghnnpboaaDoor
open Go.RowKit
attribute [local go_sem ↓] Go.wp_at_zero Go.wp_at_succ

set_option maxHeartbeats 1000000 in
theorem of_get (verb data : ByteArray) (flags exp cas by_ : Int) (wc wt dn q : Bool) (A : Option Addr) (n c : Nat) (ks : List ByteArray) (w : World) (h : RdS w w.heap.size A n ks) :
    Calls Tryd.prog 29 #[.agg #[.string ⟨#[103, 101, 116]⟩, .string verb, .slice A n c, .string data, .int .u32 flags, .int .i64 exp, .int .u64 cas, .int .u64 by_, .bool wc, .bool wt, .bool dn, .bool q]] w
      fun r w' => ∃ A' c', r = .returned (.iface 98 (.agg #[.slice A' n c', .bool wc, .bool wt, .int .i64 exp])) ∧ RdS w' w'.heap.size A' n ks ∧ Below w.heap.size w w' := by
  have hx : RdS (w.alloc (.cells #[.string ⟨#[103, 101, 116]⟩, .string verb, .slice A n c, .string data, .int .u32 flags, .int .i64 exp, .int .u64 cas, .int .u64 by_, .bool wc, .bool wt, .bool dn, .bool q] 29)).drew (w.alloc (.cells #[.string ⟨#[103, 101, 116]⟩, .string verb, .slice A n c, .string data, .int .u32 flags, .int .i64 exp, .int .u64 cas, .int .u64 by_, .bool wc, .bool wt, .bool dn, .bool q] 29)).drew.heap.size A n ks := (h.below (((Below.refl w.heap.size w).alloc (Nat.le_refl _) _).drew) (Nat.le_refl _)).more (by simp)
  go_enter Tryd.func29, Tryd.ntmps29
  go_wp2_with fail
  go_region_held3 (fun w' => w'.cell? ⟨w.heap.size, 2, none⟩ = some (.slice A n c) ∧ w'.cell? ⟨w.heap.size, 8, none⟩ = some (.bool wc) ∧ w'.cell? ⟨w.heap.size, 9, none⟩ = some (.bool wt) ∧ w'.cell? ⟨w.heap.size, 5, none⟩ = some (.int .i64 exp)) (go_keep) (first | (go_at_call 47; refine (clone_any A n c ks _ hx).mono ?_; rintro e w1 ⟨A', c', rfl, hr1, hb1⟩; obtain ⟨hc1, hf1, hz1⟩ := bcell hb1))
  go_wp2
  go_ret
  exact ⟨A', c', rfl, hr1, (((Below.refl _ _).alloc (Nat.le_refl _) _).drew).trans (hb1.mono (by simp))⟩
set_option maxHeartbeats 1000000 in
theorem of_store (verb data : ByteArray) (flags exp cas by_ : Int) (wc wt dn q : Bool) (A : Option Addr) (n c : Nat) (ks : List ByteArray) (w : World) (h : RdS w w.heap.size A n ks) :
    Calls Tryd.prog 29 #[.agg #[.string ⟨#[115, 116, 111, 114, 101]⟩, .string verb, .slice A n c, .string data, .int .u32 flags, .int .i64 exp, .int .u64 cas, .int .u64 by_, .bool wc, .bool wt, .bool dn, .bool q]] w
      fun r w' => r = .returned (.iface 83 (.agg #[.string verb, .string (M.first ks), .string data, .int .u32 flags, .int .i64 exp, .int .u64 cas, .bool q])) ∧ Below w.heap.size w w' := by
  have hx : RdS (w.alloc (.cells #[.string ⟨#[115, 116, 111, 114, 101]⟩, .string verb, .slice A n c, .string data, .int .u32 flags, .int .i64 exp, .int .u64 cas, .int .u64 by_, .bool wc, .bool wt, .bool dn, .bool q] 29)).drew (w.alloc (.cells #[.string ⟨#[115, 116, 111, 114, 101]⟩, .string verb, .slice A n c, .string data, .int .u32 flags, .int .i64 exp, .int .u64 cas, .int .u64 by_, .bool wc, .bool wt, .bool dn, .bool q] 29)).drew.heap.size A n ks := (h.below (((Below.refl w.heap.size w).alloc (Nat.le_refl _) _).drew) (Nat.le_refl _)).more (by simp)
  go_enter Tryd.func29, Tryd.ntmps29
  go_wp2_with fail
  go_region_held3 (fun w' => w'.cell? ⟨w.heap.size, 0, none⟩ = some (.string ⟨#[115, 116, 111, 114, 101]⟩) ∧ w'.cell? ⟨w.heap.size, 1, none⟩ = some (.string verb) ∧ w'.cell? ⟨w.heap.size, 2, none⟩ = some (.slice A n c) ∧ w'.cell? ⟨w.heap.size, 3, none⟩ = some (.string data) ∧ w'.cell? ⟨w.heap.size, 4, none⟩ = some (.int .u32 flags) ∧ w'.cell? ⟨w.heap.size, 5, none⟩ = some (.int .i64 exp) ∧ w'.cell? ⟨w.heap.size, 6, none⟩ = some (.int .u64 cas) ∧ w'.cell? ⟨w.heap.size, 7, none⟩ = some (.int .u64 by_) ∧ w'.cell? ⟨w.heap.size, 8, none⟩ = some (.bool wc) ∧ w'.cell? ⟨w.heap.size, 9, none⟩ = some (.bool wt) ∧ w'.cell? ⟨w.heap.size, 10, none⟩ = some (.bool dn) ∧ w'.cell? ⟨w.heap.size, 11, none⟩ = some (.bool q)) (go_keep) (first | (go_at_call 48; refine (ckey_any _ _ _ _ _ _ _ _ _ _ _ A n c ks _ hx).mono ?_; rintro e w1 ⟨rfl, hb1⟩; obtain ⟨hc1, hf1, hz1⟩ := bcell hb1))
  go_wp2
  go_ret
  exact ⟨rfl, (((Below.refl _ _).alloc (Nat.le_refl _) _).drew).trans (hb1.mono (by simp))⟩
set_option maxHeartbeats 1000000 in
theorem of_arith (verb data : ByteArray) (flags exp cas by_ : Int) (wc wt dn q : Bool) (A : Option Addr) (n c : Nat) (ks : List ByteArray) (w : World) (h : RdS w w.heap.size A n ks) :
    Calls Tryd.prog 29 #[.agg #[.string ⟨#[97, 114, 105, 116, 104]⟩, .string verb, .slice A n c, .string data, .int .u32 flags, .int .i64 exp, .int .u64 cas, .int .u64 by_, .bool wc, .bool wt, .bool dn, .bool q]] w
      fun r w' => r = .returned (.iface 108 (.agg #[.string (M.first ks), .int .u64 by_, .bool dn, .bool q])) ∧ Below w.heap.size w w' := by
  have hx : RdS (w.alloc (.cells #[.string ⟨#[97, 114, 105, 116, 104]⟩, .string verb, .slice A n c, .string data, .int .u32 flags, .int .i64 exp, .int .u64 cas, .int .u64 by_, .bool wc, .bool wt, .bool dn, .bool q] 29)).drew (w.alloc (.cells #[.string ⟨#[97, 114, 105, 116, 104]⟩, .string verb, .slice A n c, .string data, .int .u32 flags, .int .i64 exp, .int .u64 cas, .int .u64 by_, .bool wc, .bool wt, .bool dn, .bool q] 29)).drew.heap.size A n ks := (h.below (((Below.refl w.heap.size w).alloc (Nat.le_refl _) _).drew) (Nat.le_refl _)).more (by simp)
  go_enter Tryd.func29, Tryd.ntmps29
  go_wp2_with fail
  go_region_held3 (fun w' => w'.cell? ⟨w.heap.size, 0, none⟩ = some (.string ⟨#[97, 114, 105, 116, 104]⟩) ∧ w'.cell? ⟨w.heap.size, 1, none⟩ = some (.string verb) ∧ w'.cell? ⟨w.heap.size, 2, none⟩ = some (.slice A n c) ∧ w'.cell? ⟨w.heap.size, 3, none⟩ = some (.string data) ∧ w'.cell? ⟨w.heap.size, 4, none⟩ = some (.int .u32 flags) ∧ w'.cell? ⟨w.heap.size, 5, none⟩ = some (.int .i64 exp) ∧ w'.cell? ⟨w.heap.size, 6, none⟩ = some (.int .u64 cas) ∧ w'.cell? ⟨w.heap.size, 7, none⟩ = some (.int .u64 by_) ∧ w'.cell? ⟨w.heap.size, 8, none⟩ = some (.bool wc) ∧ w'.cell? ⟨w.heap.size, 9, none⟩ = some (.bool wt) ∧ w'.cell? ⟨w.heap.size, 10, none⟩ = some (.bool dn) ∧ w'.cell? ⟨w.heap.size, 11, none⟩ = some (.bool q)) (go_keep) (first | (go_at_call 48; refine (ckey_any _ _ _ _ _ _ _ _ _ _ _ A n c ks _ hx).mono ?_; rintro e w1 ⟨rfl, hb1⟩; obtain ⟨hc1, hf1, hz1⟩ := bcell hb1))
  go_wp2
  go_ret
  exact ⟨rfl, (((Below.refl _ _).alloc (Nat.le_refl _) _).drew).trans (hb1.mono (by simp))⟩
set_option maxHeartbeats 1000000 in
theorem of_touch (verb data : ByteArray) (flags exp cas by_ : Int) (wc wt dn q : Bool) (A : Option Addr) (n c : Nat) (ks : List ByteArray) (w : World) (h : RdS w w.heap.size A n ks) :
    Calls Tryd.prog 29 #[.agg #[.string ⟨#[116, 111, 117, 99, 104]⟩, .string verb, .slice A n c, .string data, .int .u32 flags, .int .i64 exp, .int .u64 cas, .int .u64 by_, .bool wc, .bool wt, .bool dn, .bool q]] w
      fun r w' => r = .returned (.iface 111 (.agg #[.string (M.first ks), .int .i64 exp, .bool q])) ∧ Below w.heap.size w w' := by
  have hx : RdS (w.alloc (.cells #[.string ⟨#[116, 111, 117, 99, 104]⟩, .string verb, .slice A n c, .string data, .int .u32 flags, .int .i64 exp, .int .u64 cas, .int .u64 by_, .bool wc, .bool wt, .bool dn, .bool q] 29)).drew (w.alloc (.cells #[.string ⟨#[116, 111, 117, 99, 104]⟩, .string verb, .slice A n c, .string data, .int .u32 flags, .int .i64 exp, .int .u64 cas, .int .u64 by_, .bool wc, .bool wt, .bool dn, .bool q] 29)).drew.heap.size A n ks := (h.below (((Below.refl w.heap.size w).alloc (Nat.le_refl _) _).drew) (Nat.le_refl _)).more (by simp)
  go_enter Tryd.func29, Tryd.ntmps29
  go_wp2_with fail
  go_region_held3 (fun w' => w'.cell? ⟨w.heap.size, 0, none⟩ = some (.string ⟨#[116, 111, 117, 99, 104]⟩) ∧ w'.cell? ⟨w.heap.size, 1, none⟩ = some (.string verb) ∧ w'.cell? ⟨w.heap.size, 2, none⟩ = some (.slice A n c) ∧ w'.cell? ⟨w.heap.size, 3, none⟩ = some (.string data) ∧ w'.cell? ⟨w.heap.size, 4, none⟩ = some (.int .u32 flags) ∧ w'.cell? ⟨w.heap.size, 5, none⟩ = some (.int .i64 exp) ∧ w'.cell? ⟨w.heap.size, 6, none⟩ = some (.int .u64 cas) ∧ w'.cell? ⟨w.heap.size, 7, none⟩ = some (.int .u64 by_) ∧ w'.cell? ⟨w.heap.size, 8, none⟩ = some (.bool wc) ∧ w'.cell? ⟨w.heap.size, 9, none⟩ = some (.bool wt) ∧ w'.cell? ⟨w.heap.size, 10, none⟩ = some (.bool dn) ∧ w'.cell? ⟨w.heap.size, 11, none⟩ = some (.bool q)) (go_keep) (first | (go_at_call 48; refine (ckey_any _ _ _ _ _ _ _ _ _ _ _ A n c ks _ hx).mono ?_; rintro e w1 ⟨rfl, hb1⟩; obtain ⟨hc1, hf1, hz1⟩ := bcell hb1))
  go_wp2
  go_ret
  exact ⟨rfl, (((Below.refl _ _).alloc (Nat.le_refl _) _).drew).trans (hb1.mono (by simp))⟩
set_option maxHeartbeats 1000000 in
theorem of_delete (verb data : ByteArray) (flags exp cas by_ : Int) (wc wt dn q : Bool) (A : Option Addr) (n c : Nat) (ks : List ByteArray) (w : World) (h : RdS w w.heap.size A n ks) :
    Calls Tryd.prog 29 #[.agg #[.string ⟨#[100, 101, 108, 101, 116, 101]⟩, .string verb, .slice A n c, .string data, .int .u32 flags, .int .i64 exp, .int .u64 cas, .int .u64 by_, .bool wc, .bool wt, .bool dn, .bool q]] w
      fun r w' => r = .returned (.iface 115 (.agg #[.string (M.first ks), .bool q])) ∧ Below w.heap.size w w' := by
  have hx : RdS (w.alloc (.cells #[.string ⟨#[100, 101, 108, 101, 116, 101]⟩, .string verb, .slice A n c, .string data, .int .u32 flags, .int .i64 exp, .int .u64 cas, .int .u64 by_, .bool wc, .bool wt, .bool dn, .bool q] 29)).drew (w.alloc (.cells #[.string ⟨#[100, 101, 108, 101, 116, 101]⟩, .string verb, .slice A n c, .string data, .int .u32 flags, .int .i64 exp, .int .u64 cas, .int .u64 by_, .bool wc, .bool wt, .bool dn, .bool q] 29)).drew.heap.size A n ks := (h.below (((Below.refl w.heap.size w).alloc (Nat.le_refl _) _).drew) (Nat.le_refl _)).more (by simp)
  go_enter Tryd.func29, Tryd.ntmps29
  go_wp2_with fail
  go_region_held3 (fun w' => w'.cell? ⟨w.heap.size, 0, none⟩ = some (.string ⟨#[100, 101, 108, 101, 116, 101]⟩) ∧ w'.cell? ⟨w.heap.size, 1, none⟩ = some (.string verb) ∧ w'.cell? ⟨w.heap.size, 2, none⟩ = some (.slice A n c) ∧ w'.cell? ⟨w.heap.size, 3, none⟩ = some (.string data) ∧ w'.cell? ⟨w.heap.size, 4, none⟩ = some (.int .u32 flags) ∧ w'.cell? ⟨w.heap.size, 5, none⟩ = some (.int .i64 exp) ∧ w'.cell? ⟨w.heap.size, 6, none⟩ = some (.int .u64 cas) ∧ w'.cell? ⟨w.heap.size, 7, none⟩ = some (.int .u64 by_) ∧ w'.cell? ⟨w.heap.size, 8, none⟩ = some (.bool wc) ∧ w'.cell? ⟨w.heap.size, 9, none⟩ = some (.bool wt) ∧ w'.cell? ⟨w.heap.size, 10, none⟩ = some (.bool dn) ∧ w'.cell? ⟨w.heap.size, 11, none⟩ = some (.bool q)) (go_keep) (first | (go_at_call 48; refine (ckey_any _ _ _ _ _ _ _ _ _ _ _ A n c ks _ hx).mono ?_; rintro e w1 ⟨rfl, hb1⟩; obtain ⟨hc1, hf1, hz1⟩ := bcell hb1))
  go_wp2
  go_ret
  exact ⟨rfl, (((Below.refl _ _).alloc (Nat.le_refl _) _).drew).trans (hb1.mono (by simp))⟩
set_option maxHeartbeats 1000000 in
theorem of_flush (verb data : ByteArray) (flags exp cas by_ : Int) (wc wt dn q : Bool) (A : Option Addr) (n c : Nat) (w : World) :
    Calls Tryd.prog 29 #[.agg #[.string ⟨#[102, 108, 117, 115, 104]⟩, .string verb, .slice A n c, .string data, .int .u32 flags, .int .i64 exp, .int .u64 cas, .int .u64 by_, .bool wc, .bool wt, .bool dn, .bool q]] w
      fun r w' => r = .returned (.iface 80 (.agg #[.bool q])) ∧ Below w.heap.size w w' := by
  go_enter Tryd.func29, Tryd.ntmps29
  go_wp2
  go_ret
  exact ⟨rfl, (Below.refl _ _).alloc (Nat.le_refl _) _⟩
set_option maxHeartbeats 1000000 in
theorem of_bad (verb data : ByteArray) (flags exp cas by_ : Int) (wc wt dn q : Bool) (A : Option Addr) (n c : Nat) (w : World) :
    Calls Tryd.prog 29 #[.agg #[.string ⟨#[98, 97, 100]⟩, .string verb, .slice A n c, .string data, .int .u32 flags, .int .i64 exp, .int .u64 cas, .int .u64 by_, .bool wc, .bool wt, .bool dn, .bool q]] w
      fun r w' => r = .returned (.iface 102 (.agg #[.string verb])) ∧ Below w.heap.size w w' := by
  go_enter Tryd.func29, Tryd.ntmps29
  go_wp2
  go_ret
  exact ⟨rfl, (Below.refl _ _).alloc (Nat.le_refl _) _⟩
set_option maxHeartbeats 1000000 in
theorem of_word (verb data : ByteArray) (flags exp cas by_ : Int) (wc wt dn q : Bool) (A : Option Addr) (n c : Nat) (w : World) :
    Calls Tryd.prog 29 #[.agg #[.string ⟨#[119, 111, 114, 100]⟩, .string verb, .slice A n c, .string data, .int .u32 flags, .int .i64 exp, .int .u64 cas, .int .u64 by_, .bool wc, .bool wt, .bool dn, .bool q]] w
      fun r w' => r = .returned (.iface 77 (.agg #[.string verb])) ∧ Below w.heap.size w w' := by
  go_enter Tryd.func29, Tryd.ntmps29
  go_wp2
  go_ret
  exact ⟨rfl, (Below.refl _ _).alloc (Nat.le_refl _) _⟩
set_option maxHeartbeats 1000000 in
theorem of_none (what : ByteArray) (verb data : ByteArray) (flags exp cas by_ : Int) (wc wt dn q : Bool) (A : Option Addr) (n c : Nat) (w : World) (h0 : (what.toList == [103, 101, 116]) = false) (h1 : (what.toList == [115, 116, 111, 114, 101]) = false) (h2 : (what.toList == [97, 114, 105, 116, 104]) = false) (h3 : (what.toList == [116, 111, 117, 99, 104]) = false) (h4 : (what.toList == [100, 101, 108, 101, 116, 101]) = false) (h5 : (what.toList == [102, 108, 117, 115, 104]) = false) (h6 : (what.toList == [98, 97, 100]) = false) (h7 : (what.toList == [119, 111, 114, 100]) = false) :
    Calls Tryd.prog 29 #[.agg #[.string what, .string verb, .slice A n c, .string data, .int .u32 flags, .int .i64 exp, .int .u64 cas, .int .u64 by_, .bool wc, .bool wt, .bool dn, .bool q]] w
      fun r w' => r = .returned .nilIface ∧ Below w.heap.size w w' := by
  go_enter Tryd.func29, Tryd.ntmps29
  go_wp2
  go_ret
  exact ⟨rfl, (Below.refl _ _).alloc (Nat.le_refl _) _⟩
end Go.Proofs.YtbhnmaghnnpboaaDoor

/- lossy: what every state of a run keeps (plain Lean). -/
import Derived.Test.YtbhnmaghnnpboaaDoorZu
import Derived.Test.YtbhnmaghnnpboaaDoorZj
namespace Go.Proofs.YtbhnmaghnnpboaaDoor
open Go.RowKit

structure StpOk (x : M.Stp) : Prop where
  cmd : CmdOk x.cmd
  now : I64 x.now
  ans : ∀ a ∈ x.answers, U64 a.cas
/-- The numbers of a state fit; k: how many steps were done. -/
structure Inv (s : RS) (k : Nat) : Prop where
  ver : VerOk s.l s.chs.length
  small : Small s.l
  key : ∀ p ∈ s.l, p.2.key = p.1
  told : ∀ c ∈ s.chs, U64 c.1 ∧ c.2.length ≤ k
  len : s.chs.length ≤ k
  loss : 0 ≤ s.losses ∧ s.losses ≤ k

theorem mset_mem {k : ByteArray} {x : M.Item} {p : ByteArray × M.Item} : ∀ (l : M.Mp), p ∈ M.mset l k x → p ∈ l ∨ p = (k, x)
  | [], h => .inr (by simpa [M.mset] using h)
  | q :: l, h => by
    unfold M.mset at h
    split at h
    · rcases List.mem_cons.1 h with h | h
      · exact .inr h
      · exact .inl (List.mem_cons_of_mem _ h)
    · rcases List.mem_cons.1 h with h | h
      · exact .inl (by rw [h]; exact List.mem_cons_self)
      · rcases mset_mem l h with h | h
        · exact .inl (List.mem_cons_of_mem _ h)
        · exact .inr h

theorem get_item {l : M.Mp} {k : ByteArray} {now : Int} {y : M.Item} (h : M.mget l k now = some y) : (k, y) ∈ l := by
  obtain ⟨p, hp, h1, h2⟩ := look_mem l k y (mget_look h)
  rw [← h1, ← h2]; exact hp

/-- Something new of a command: its answer says so. -/
def Told (x : M.Cmd) (r : Option ByteArray) : Prop := goodF x = true ∧ ∃ t, r = some t ∧ t.toList.isEmpty = false ∧ changesF x.of t = true

theorem ba_ne {s : ByteArray} (l : List UInt8) (h : s = ⟨l.toArray⟩) (hl : l ≠ []) : s.toList.isEmpty = false := by
  subst h
  rw [ByteArray.toList_eq]
  cases l with
  | nil => exact absurd rfl hl
  | cons a l => rfl

theorem store_new {l : M.Mp} {verb key data : ByteArray} {flags exp cas now ver : Int} (hd : data.size ≤ 1024) (p : ByteArray × M.Item) (hp : p ∈ (M.store l verb key data flags exp cas now ver).2) :
    p ∈ l ∨ (p.2.ver = ver ∧ p.2.val.size ≤ 1024 ∧ p.2.key = p.1 ∧ (M.store l verb key data flags exp cas now ver).1 = M.tSTORED) := by
  revert hp
  unfold M.store
  cases M.mget l key now with
  | none =>
    simp only
    split
    · exact fun h => .inl h
    · split
      · exact fun h => .inl h
      · intro h
        rcases mset_mem l h with h | h
        · exact .inl h
        · subst h; exact .inr ⟨rfl, hd, rfl, rfl⟩
  | some y =>
    simp only
    split
    · exact fun h => .inl h
    · split
      · split
        · exact fun h => .inl h
        · rename_i hsz
          intro h
          rcases mset_mem l h with h | h
          · exact .inl h
          · subst h; exact .inr ⟨rfl, by simp only [ba_app_size]; omega, rfl, rfl⟩
      · split
        · split
          · exact fun h => .inl h
          · rename_i hsz
            intro h
            rcases mset_mem l h with h | h
            · exact .inl h
            · subst h; exact .inr ⟨rfl, by simp only [ba_app_size]; omega, rfl, rfl⟩
        · split
          · exact fun h => .inl h
          · intro h
            rcases mset_mem l h with h | h
            · exact .inl h
            · subst h; exact .inr ⟨rfl, hd, rfl, rfl⟩

theorem digits_len (n : Nat) (h : n < 18446744073709551616) : (digits n).size ≤ 20 := by
  show (Lib.decDigits n).toArray.size ≤ 20
  rw [List.size_toArray]
  have : ∀ (k m : Nat), m < 10 ^ (k + 1) → (Lib.decDigits m).length ≤ k + 1 := by
    intro k
    induction k with
    | zero => intro m hm; rw [Lib.decDigits, dif_pos (by omega)]; simp
    | succ k ih =>
      intro m hm
      by_cases h10 : m < 10
      · rw [Lib.decDigits, dif_pos h10]; simp
      · rw [Lib.decDigits, dif_neg h10]
        have := ih (m / 10) (by rw [Nat.pow_succ] at hm; omega)
        simp only [List.length_append, List.length_cons, List.length_nil]
        omega
  exact this 19 n (by omega)
theorem digits_head (n : Nat) : ∃ c r, Lib.decDigits n = c :: r ∧ 48 ≤ c ∧ c ≤ 57 := by
  induction n using Nat.strongRecOn with
  | ind n ih =>
    by_cases h10 : n < 10
    · refine ⟨UInt8.ofNat (48 + n), [], by rw [Lib.decDigits, dif_pos h10], ?_, ?_⟩
      · rw [UInt8.le_iff_toNat_le]; simp; omega
      · rw [UInt8.le_iff_toNat_le]; simp; omega
    · obtain ⟨c, r, h, h1, h2⟩ := ih (n / 10) (by omega)
      exact ⟨c, _, by rw [Lib.decDigits, dif_neg h10, h]; rfl, h1, h2⟩

/-- What is new in the map behind a command. -/
theorem do_new {l : M.Mp} {x : M.Cmd} {now ver : Int} (hsm : Small l) (_hk : ∀ p ∈ l, p.2.key = p.1) (hok : CmdOk x) (p : ByteArray × M.Item) (hp : p ∈ (doF l x now ver).2) :
    p ∈ l ∨ (p.2.ver = ver ∧ p.2.val.size ≤ 1024 ∧ p.2.key = p.1 ∧ Told x (doF l x now ver).1) := by
  revert hp
  unfold doF
  rcases what_of x with ⟨_, e⟩ | ⟨_, e⟩ | ⟨_, e⟩ | ⟨_, e⟩ | ⟨_, e⟩ | ⟨_, e⟩ | ⟨_, e⟩ | ⟨_, e⟩ | ⟨_, e⟩ <;> rw [e] <;> simp only
  · exact fun h => .inl h
  · cases hg : goodF x with
    | false => simp only [Bool.false_eq_true, if_false]; exact fun h => .inl h
    | true =>
      simp only [if_true]
      have hd : x.data.size ≤ 1024 := by
        unfold goodF at hg
        rw [e] at hg
        simp only [Bool.and_eq_true, decide_eq_true_eq] at hg
        exact hg.1.2
      intro h
      rcases store_new hd p h with h | ⟨h1, h2, h3, h4⟩
      · exact .inl h
      · refine .inr ⟨h1, h2, h3, hg, _, rfl, ?_, ?_⟩
        · rw [h4]; exact ba_ne [83, 84, 79, 82, 69, 68] rfl (by decide)
        · rw [h4, e]; unfold changesF; simp only; rw [eqs_iff _ M.tSTORED _ (by rw [ByteArray.toList_eq]; rfl)]; simp
  · cases hg : goodF x with
    | false => simp only [Bool.false_eq_true, if_false]; exact fun h => .inl h
    | true =>
      simp only [if_true]
      unfold arithF
      cases hm : M.mget l (M.first x.keys) now with
      | none => exact fun h => .inl h
      | some y =>
        simp only
        cases hn : (numF y.val).2 with
        | false => simp only [Bool.false_eq_true, if_false]; exact fun h => .inl h
        | true =>
          simp only [if_true]
          intro h
          rcases mset_mem l h with h | h
          · exact .inl h
          · have hr := num_range y.val
            have hlt := arith_lt (numF y.val).1 x.by_ x.down hr.1 hr.2 hok.by_.1 hok.by_.2
            obtain ⟨c, r, hcr, hc1, hc2⟩ := digits_head (arithN (numF y.val).1 x.by_ x.down)
            have hdl : (digits (arithN (numF y.val).1 x.by_ x.down)).toList = c :: r := by rw [ByteArray.toList_eq]; exact hcr
            subst h
            refine .inr ⟨rfl, Nat.le_trans (digits_len _ hlt) (by decide), rfl, hg, _, rfl, by rw [hdl]; rfl, ?_⟩
            rw [e]
            unfold changesF
            simp only
            rw [show eqs (digits (arithN (numF y.val).1 x.by_ x.down)) bNone = false by
              unfold eqs bNone
              rw [hdl]
              simp only [beq_eq_false_iff_ne, ne_eq, List.cons.injEq, not_and]
              rintro rfl
              exact absurd hc2 (by decide)]
            rw [show (digits (arithN (numF y.val).1 x.by_ x.down)).data.toList = c :: r by rw [← ByteArray.toList_eq]; exact hdl]
            simp [hc1, hc2]
  · cases hg : goodF x with
    | false => simp only [Bool.false_eq_true, if_false]; exact fun h => .inl h
    | true =>
      simp only [if_true]
      cases hm : M.mget l (M.first x.keys) now with
      | none => exact fun h => .inl h
      | some y =>
        simp only
        intro h
        rcases mset_mem l h with h | h
        · exact .inl h
        · subst h
          refine .inr ⟨rfl, (show y.val.size ≤ 1024 from hsm _ (get_item hm)), rfl, hg, _, rfl, ba_ne [84, 79, 85, 67, 72, 69, 68] rfl (by decide), ?_⟩
          rw [e]; unfold changesF; simp only; rw [eqs_iff _ M.tTOUCHED _ (by rw [ByteArray.toList_eq]; rfl)]; simp
  · cases hg : goodF x with
    | false => simp only [Bool.false_eq_true, if_false]; exact fun h => .inl h
    | true =>
      simp only [if_true]
      cases hm : M.mget l (M.first x.keys) now with
      | none => exact fun h => .inl (mdel_mem l h)
      | some y => exact fun h => .inl (mdel_mem l h)
  · cases hg : goodF x with
    | false => simp only [Bool.false_eq_true, if_false]; exact fun h => .inl h
    | true => simp only [if_true]; intro h; cases h
  · exact fun h => .inl h
  · cases hg : goodF x with
    | false => simp only [Bool.false_eq_true, if_false]; exact fun h => .inl h
    | true =>
      simp only [if_true]
      split
      · exact fun h => .inl h
      · exact fun h => .inl h
  · exact fun h => .inl h

theorem told_le {chs : List (Int × List Int)} {k : Nat} (h : ∀ c ∈ chs, U64 c.1 ∧ c.2.length ≤ k) : ∀ c ∈ chs, U64 c.1 ∧ c.2.length ≤ k + 1 := fun c hc => ⟨(h c hc).1, Nat.le_succ_of_le (h c hc).2⟩
theorem told_push {chs : List (Int × List Int)} {k : Nat} (h : ∀ c ∈ chs, U64 c.1 ∧ c.2.length ≤ k) : ∀ c ∈ chs ++ [((0 : Int), ([] : List Int))], U64 c.1 ∧ c.2.length ≤ k := fun c hc => by
  rcases List.mem_append.1 hc with hc | hc
  · exact h c hc
  · simp only [List.mem_singleton] at hc; subst hc; exact ⟨⟨by decide, by decide⟩, by simp⟩
theorem told_getD {chs : List (Int × List Int)} {k : Nat} (h : ∀ c ∈ chs, U64 c.1 ∧ c.2.length ≤ k) (j : Nat) : U64 (chs.getD j (0, [])).1 ∧ (chs.getD j (0, [])).2.length ≤ k := by
  by_cases hj : j < chs.length
  · rw [show chs.getD j (0, []) = chs[j] by simp [List.getD, hj]]
    exact h _ (List.getElem_mem hj)
  · rw [show chs.getD j (0, []) = (0, []) by simp [List.getD, Nat.le_of_not_lt hj]]
    exact ⟨⟨by decide, by decide⟩, by simp⟩
theorem told_set {chs : List (Int × List Int)} {k : Nat} (h : ∀ c ∈ chs, U64 c.1 ∧ c.2.length ≤ k) (n v : Int) (hv : U64 v) : ∀ c ∈ setTold chs n v, U64 c.1 ∧ c.2.length ≤ k := fun c hc => by
  unfold setTold at hc
  rcases List.mem_or_eq_of_mem_set hc with hc | hc
  · exact h c hc
  · subst hc; exact ⟨hv, (told_getD h _).2⟩
theorem told_not {chs : List (Int × List Int)} {k : Nat} (h : ∀ c ∈ chs, U64 c.1 ∧ c.2.length ≤ k) (n v : Int) : ∀ c ∈ addNot chs n v, U64 c.1 ∧ c.2.length ≤ k + 1 := fun c hc => by
  unfold addNot at hc
  rcases List.mem_or_eq_of_mem_set hc with hc | hc
  · exact ⟨(h c hc).1, Nat.le_succ_of_le (h c hc).2⟩
  · subst hc; have := told_getD h (n - 1).toNat; exact ⟨this.1, by simp only [List.length_append, List.length_cons, List.length_nil]; omega⟩
theorem setTold_len (chs : List (Int × List Int)) (n v : Int) : (setTold chs n v).length = chs.length := by simp [setTold]
theorem addNot_len (chs : List (Int × List Int)) (n v : Int) : (addNot chs n v).length = chs.length := by simp [addNot]

theorem inv_lose {s : RS} {k : Nat} (h : Inv s k) (x : M.Cmd) (now : Int) (told : ByteArray) : VerOk (lostF s x now told).l s.chs.length ∧ Small (lostF s x now told).l ∧ (∀ p ∈ (lostF s x now told).l, p.2.key = p.1) := by
  rcases lost_l s x now told with e | ⟨j, e⟩ <;> rw [e]
  · exact ⟨h.ver, h.small, h.key⟩
  · exact ⟨fun p hp => h.ver p (mdel_mem _ hp), fun p hp => h.small p (mdel_mem _ hp), fun p hp => h.key p (mdel_mem _ hp)⟩

theorem inv_own {s : RS} {k : Nat} (h : Inv s k) {own : M.Ans} {cas : Bool} {a : M.Ans} (ha : U64 a.cas) (hr : (getOwn own s cas a).1 = true) : Inv (getOwn own s cas a).2 k := by
  revert hr
  unfold getOwn
  split
  · split
    · intro _
      exact ⟨by rw [setTold_len]; exact h.ver, h.small, h.key, told_set h.told _ _ ha, by rw [setTold_len]; exact h.len, h.loss⟩
    · intro hr; cases hr
  · intro _; exact h

theorem inv_get {s : RS} {k : Nat} (h : Inv s k) (cas touch : Bool) (exp : Int) (key : ByteArray) (ans : List M.Ans) (now : Int) (ha : ∀ a ∈ ans, U64 a.cas) (hr : (getF s cas touch exp key ans now).1 = true) : Inv (getF s cas touch exp key ans now).2 (k + 1) := by
  have hst : ∀ a ∈ stripF ans, a ∈ ans := fun a hm => by
    unfold stripF at hm
    split at hm
    · cases hm
    · split at hm
      · exact List.dropLast_subset _ hm
      · exact hm
  revert hr
  unfold getF
  split
  · intro _
    unfold loseF
    split
    · exact ⟨h.ver, h.small, h.key, told_le h.told, Nat.le_succ_of_le h.len, h.loss.1, by have := h.loss.2; show s.losses ≤ _; omega⟩
    · exact ⟨fun p hp => h.ver p (mdel_mem _ hp), fun p hp => h.small p (mdel_mem _ hp), fun p hp => h.key p (mdel_mem _ hp), told_le h.told, Nat.le_succ_of_le h.len, by have := h.loss.1; show 0 ≤ s.losses + 1; omega, by have := h.loss.2; show s.losses + 1 ≤ _; omega⟩
  · rename_i a hsa
    split
    · cases hm : M.mget s.l key now with
      | none => intro hr; cases hr
      | some y =>
        simp only
        have hy := get_item hm
        have hb : Inv ⟨if touch then M.mset s.l key (touchF touch exp now (s.chs.length + 1) y) else s.l, if touch then s.chs ++ [(0, [])] else s.chs, s.losses⟩ (k + 1) := by
          cases touch
          · exact ⟨h.ver, h.small, h.key, told_le h.told, Nat.le_succ_of_le h.len, h.loss.1, by have := h.loss.2; simp only; omega⟩
          · refine ⟨fun p hp => ?_, fun p hp => ?_, fun p hp => ?_, told_push (told_le h.told), by have := h.len; simp; omega, h.loss.1, by have := h.loss.2; simp only; omega⟩
            · rcases mset_mem _ hp with hp | hp
              · have := h.ver p hp; simp only [if_true, List.length_append, List.length_cons, List.length_nil]; omega
              · subst hp; simp only [touchF, if_true, List.length_append, List.length_cons, List.length_nil]; omega
            · rcases mset_mem _ hp with hp | hp
              · exact h.small p hp
              · subst hp; show y.val.size ≤ 1024; exact h.small _ hy
            · rcases mset_mem _ hp with hp | hp
              · exact h.key p hp
              · subst hp; show y.key = key; exact h.key _ hy
        exact fun hr => inv_own hb (ha a (hst a (by rw [hsa]; exact List.mem_cons_self))) hr
    · intro hr; cases hr
  · intro hr; cases hr

theorem inv_main {s : RS} {k : Nat} (h1 : VerOk s.l s.chs.length) (h2 : Small s.l) (h3 : ∀ p ∈ s.l, p.2.key = p.1) (h4 : ∀ c ∈ s.chs, U64 c.1 ∧ c.2.length ≤ k) (h5 : s.chs.length ≤ k) (h6 : 0 ≤ s.losses ∧ s.losses ≤ k + 1) {x : M.Cmd} (hok : CmdOk x) {now : Int} {told : ByteArray} (hr : (mainF s x now told).1 = true) : Inv (mainF s x now told).2 (k + 1) := by
  unfold mainF at hr ⊢
  simp only [decide_eq_true_eq] at hr
  have hnew := fun p hp => do_new (now := now) (ver := s.chs.length + 1) h2 h3 hok p hp
  by_cases hq : (goodF x && !told.toList.isEmpty && changesF x.of told) = true
  · simp only [hq, if_true]
    refine ⟨fun p hp => ?_, fun p hp => ?_, fun p hp => ?_, told_push (told_le h4), by simp; omega, h6.1, h6.2⟩
    · simp only [List.length_append, List.length_cons, List.length_nil]
      rcases hnew p hp with h | ⟨h, _⟩
      · have := h1 p h; omega
      · omega
    · rcases hnew p hp with h | ⟨_, h, _⟩
      · exact h2 p h
      · exact h
    · rcases hnew p hp with h | ⟨_, _, h, _⟩
      · exact h3 p h
      · exact h
  · simp only [hq, Bool.false_eq_true, if_false]
    have hno : ∀ p ∈ (doF s.l x now (s.chs.length + 1)).2, p ∈ s.l := fun p hp => by
      rcases hnew p hp with h | ⟨_, _, _, hg, t, ht, hte, htc⟩
      · exact h
      · rw [hr] at ht
        injection ht with ht
        subst ht
        exact absurd (by rw [hg, hte, htc]; rfl) hq
    exact ⟨fun p hp => h1 p (hno p hp), fun p hp => h2 p (hno p hp), fun p hp => h3 p (hno p hp), told_le h4, by show s.chs.length ≤ _; omega, h6.1, h6.2⟩

theorem inv_cas {s : RS} {k : Nat} (h1 : VerOk s.l s.chs.length) (h2 : Small s.l) (h3 : ∀ p ∈ s.l, p.2.key = p.1) (h4 : ∀ c ∈ s.chs, U64 c.1 ∧ c.2.length ≤ k) (h5 : s.chs.length ≤ k) (h6 : 0 ≤ s.losses ∧ s.losses ≤ k + 1) {key data : ByteArray} {flags exp cas now : Int} (hd : data.size ≤ 1024) (hc : U64 cas) {told : ByteArray} (hr : (casF s key data flags exp cas now told).1 = true) : Inv (casF s key data flags exp cas now told).2 (k + 1) := by
  revert hr
  unfold casF
  cases hm : M.mget s.l key now with
  | none => intro hr; cases hr
  | some y =>
    simp only
    split
    · intro _
      exact ⟨by rw [addNot_len]; exact h1, h2, h3, told_not h4 _ _, by rw [addNot_len]; omega, h6.1, h6.2⟩
    · split
      · intro hr; cases hr
      · split
        · intro _
          have hnew := fun p hp => store_new (l := s.l) (verb := M.vcas) (key := key) (flags := flags) (exp := exp) (cas := y.ver) (now := now) (ver := s.chs.length + 1) hd p hp
          refine ⟨fun p hp => ?_, fun p hp => ?_, fun p hp => ?_, told_push (told_le (told_set h4 _ _ hc)), by simp [setTold_len]; omega, h6.1, h6.2⟩
          · simp only [List.length_append, List.length_cons, List.length_nil, setTold_len]
            rcases hnew p hp with h | ⟨h, _⟩
            · have := h1 p h; omega
            · omega
          · rcases hnew p hp with h | ⟨_, h, _⟩
            · exact h2 p h
            · exact h
          · rcases hnew p hp with h | ⟨_, _, h, _⟩
            · exact h3 p h
            · exact h
        · intro hr; cases hr

theorem stepF_get {s : RS} {x : M.Stp} {ks : List ByteArray} {cas touch : Bool} {exp : Int} (h : x.cmd.of = .get ks cas touch exp) : stepF s x = getF s cas touch exp x.key x.answers x.now := by
  unfold stepF; rw [h]
theorem stepF_rest {s : RS} {x : M.Stp} (h : isGet x.cmd.of = false) : stepF s x = if x.answers = [] then ((doF s.l x.cmd x.now 0).1.isNone, s) else if (textF x.answers).2 then restF (lostF s x.cmd x.now (textF x.answers).1) x.cmd x.now (textF x.answers).1 else (false, s) := by
  unfold stepF restF
  cases hc : x.cmd.of with
  | get ks cas touch exp => rw [hc] at h; cases h
  | _ => rfl

theorem inv_step {s : RS} {k : Nat} (h : Inv s k) {x : M.Stp} (hx : StpOk x) (hr : (stepF s x).1 = true) : Inv (stepF s x).2 (k + 1) := by
  cases hg : isGet x.cmd.of with
  | true =>
    cases hc : x.cmd.of with
    | get ks cas touch exp => rw [stepF_get hc] at hr ⊢; exact inv_get h _ _ _ _ _ _ hx.ans hr
    | _ => rw [hc] at hg; cases hg
  | false =>
    rw [stepF_rest hg] at hr ⊢
    split at hr
    · rename_i he
      rw [if_pos he]
      exact ⟨h.ver, h.small, h.key, told_le h.told, Nat.le_succ_of_le h.len, h.loss.1, by have := h.loss.2; simp only; omega⟩
    · rename_i he
      rw [if_neg he]
      split at hr
      · rename_i ht
        rw [if_pos ht]
        obtain ⟨i1, i2, i3⟩ := inv_lose h x.cmd x.now (textF x.answers).1
        have hch := lostF_chs s x.cmd x.now (textF x.answers).1
        have hlo := losses_lost s x.cmd x.now (textF x.answers).1
        have hl1 := h.loss
        rw [← hch] at i1
        have i4 : ∀ c ∈ (lostF s x.cmd x.now (textF x.answers).1).chs, U64 c.1 ∧ c.2.length ≤ k := by rw [hch]; exact h.told
        have i5 : (lostF s x.cmd x.now (textF x.answers).1).chs.length ≤ k := by rw [hch]; exact h.len
        unfold restF at hr ⊢
        split at hr
        · rename_i hca
          rw [if_pos hca]
          have hp := isCas_parts hca
          have hd : (sfOf x.cmd.of).data.size ≤ 1024 := by
            have := hp.2.1 0 0 0 false
            unfold goodF at this
            rw [show M.Cmd.of ⟨M.sStore, (sfOf x.cmd.of).verb, [(sfOf x.cmd.of).key], (sfOf x.cmd.of).data, 0, 0, 0, 0, false, false, false, false⟩ = .store (sfOf x.cmd.of).verb (sfOf x.cmd.of).key (sfOf x.cmd.of).data 0 0 0 false from rfl] at this
            simp only [Bool.and_eq_true, decide_eq_true_eq] at this
            exact this.1.2
          have hc : U64 (sfOf x.cmd.of).cas := by
            rcases what_of x.cmd with ⟨_, e⟩ | ⟨_, e⟩ | ⟨_, e⟩ | ⟨_, e⟩ | ⟨_, e⟩ | ⟨_, e⟩ | ⟨_, e⟩ | ⟨_, e⟩ | ⟨_, e⟩ <;> rw [e] <;> first | exact hx.cmd.cas | exact ⟨by show (0 : Int) ≤ 0; omega, by show (0 : Int) < _; omega⟩
          exact inv_cas i1 i2 i3 i4 i5 ⟨by omega, by omega⟩ hd hc hr
        · rename_i hca
          rw [if_neg hca]
          exact inv_main i1 i2 i3 i4 i5 ⟨by omega, by omega⟩ hx.cmd hr
      · cases hr
end Go.Proofs.YtbhnmaghnnpboaaDoor
/- lossy: step, whole. -/
namespace Go.Proofs.YtbhnmaghnnpboaaDoor
open Go.RowKit
attribute [local go_sem ↓] Go.wp_at_zero Go.wp_at_succ

def stpCells (x : M.Stp) (A : Option Addr) (n c : Nat) (SA : Option Addr) (m sc : Nat) : Array Value :=
  #[.string x.cmd.what, .string x.cmd.verb, .slice A n c, .string x.cmd.data, .int .u32 x.cmd.flags, .int .i64 x.cmd.exp, .int .u64 x.cmd.cas, .int .u64 x.cmd.by_, .bool x.cmd.withCas, .bool x.cmd.withTouch, .bool x.cmd.down, .bool x.cmd.quiet, .string x.key, .slice SA m sc, .int .i64 x.now]
/-- What a step's slices read. -/
structure StpAt (w : World) (B : Nat) (x : M.Stp) (A : Option Addr) (n : Nat) (SA : Option Addr) (m sc : Nat) : Prop where
  keys : RdS w B A n x.cmd.keys
  ans : RdA w B SA m x.answers
  cap : m ≤ sc ∧ sc ≤ 9223372036854775807
theorem StpAt.below {w w' : World} {B B' : Nat} {x : M.Stp} {A : Option Addr} {n : Nat} {SA : Option Addr} {m sc : Nat} (h : StpAt w B x A n SA m sc) (hb : Below B' w w') (hB : B ≤ B') : StpAt w' B x A n SA m sc := ⟨h.keys.below hb hB, h.ans.below hb hB, h.cap⟩
/-- A step that does not ask for a key that no one names. -/
def NoPan (x : M.Stp) : Prop := isGet x.cmd.of = false → x.answers ≠ [] → (textF x.answers).2 = true → goneF x.cmd (textF x.answers).1 = true → 0 < x.cmd.of.keys.length

theorem step_any {B : Nat} {w : World} {rb mb g : Nat} {s : RS} {is : List Ch} {A0 : Option Addr} {cc : Nat} (h : RunSt B w rb mb g s.l is s.losses A0 cc) (hs : is.map Ch.sees = s.chs) (ht : Tabs w) (h7 : 7 ≤ B) (x : M.Stp) (A SA : Option Addr) (n c m sc : Nat)
    (hx : StpAt w B x A n SA m sc) (hok : StpOk x) (hnp : NoPan x) {k : Nat} (hi : Inv s k) (hk : k < 1000000) :
    Calls Tryd.prog 36 #[.pointer (some ⟨rb, 0, none⟩), .agg (stpCells x A n c SA m sc)] w (Stepped B w rb mb g (stepF s x)) := by
  obtain ⟨l, chs, losses⟩ := s
  simp only at hs h
  subst hs
  obtain ⟨⟨xw, xv, xk, xd, xf, xe, xc, xb, xwc, xwt, xdn, xq⟩, key, ans, now⟩ := x
  have hlen : (is.map Ch.sees).length = is.length := List.length_map _
  have i1 := hi.ver
  have i5 := hi.len
  simp only [hlen] at i1 i5
  have hl := hi.loss
  simp only at hl
  have hnots : ∀ y ∈ is, y.nots.length < 1000000 := fun y hy => by
    have := (hi.told (Ch.sees y) (List.mem_map_of_mem hy)).2
    simp only [Ch.sees] at this
    omega
  cases hg : isGet (M.Cmd.of ⟨xw, xv, xk, xd, xf, xe, xc, xb, xwc, xwt, xdn, xq⟩) with
  | true =>
    have h0 : xw = M.sGet ∧ M.Cmd.of ⟨xw, xv, xk, xd, xf, xe, xc, xb, xwc, xwt, xdn, xq⟩ = .get xk xwc xwt xe := by
      rcases what_of ⟨xw, xv, xk, xd, xf, xe, xc, xb, xwc, xwt, xdn, xq⟩ with h | ⟨_, e⟩ | ⟨_, e⟩ | ⟨_, e⟩ | ⟨_, e⟩ | ⟨_, e⟩ | ⟨_, e⟩ | ⟨_, e⟩ | ⟨_, e⟩
      · exact h
      all_goals rw [e] at hg; simp [isGet] at hg
    rw [stepF_get h0.2]
    exact step_get h ht h7 xw xv xk xd xf xe xc xb xwc xwt xdn xq A SA n c m sc key now ans hx.keys hx.ans hx.cap hok.cmd hok.now i1 hi.small ⟨hl.1, by omega⟩ (by omega) h0.1 h0.2
  | false =>
    have h0 : xw ≠ M.sGet := fun e => by
      have : M.Cmd.of ⟨xw, xv, xk, xd, xf, xe, xc, xb, xwc, xwt, xdn, xq⟩ = .get xk xwc xwt xe := by unfold M.Cmd.of; rw [if_pos e]
      rw [this] at hg; simp [isGet] at hg
    rw [stepF_rest hg]
    by_cases he : ans = []
    · rw [if_pos he]
      exact step_empty h ht h7 xw xv xk xd xf xe xc xb xwc xwt xdn xq A SA n c m sc key now ans hx.keys hx.ans hx.cap hok.cmd hok.now i1 hi.small ⟨hl.1, by omega⟩ (by omega) h0 hg he
    · rw [if_neg he]
      cases ht2 : (textF ans).2 with
      | false =>
        simp only [Bool.false_eq_true, if_false]
        exact step_notext h ht h7 xw xv xk xd xf xe xc xb xwc xwt xdn xq A SA n c m sc key now ans hx.keys hx.ans hx.cap hok.cmd hok.now i1 hi.small ⟨hl.1, by omega⟩ (by omega) h0 hg he ht2
      | true =>
        simp only [if_true]
        exact step_main h ht h7 xw xv xk xd xf xe xc xb xwc xwt xdn xq A SA n c m sc key now ans hx.keys hx.ans hx.cap hok.cmd hok.now i1 hi.small ⟨hl.1, by omega⟩ (by omega) h0 hg (textF ans).1 (by rw [← ht2]) he hnots (fun hgo => hnp hg he ht2 hgo) (by omega)

/-- What New hands out. -/
def Newed (w : World) (e : Ending) (w' : World) : Prop := e = .returned (.pointer (some ⟨w.heap.size + 1, 0, none⟩)) ∧ MapSt w' (w.heap.size + 1) w.heap.size [] ∧ Below w.heap.size w w' ∧ w'.heap.size = w.heap.size + 2
theorem new_any (w : World) : Calls Tryd.prog 20 #[] w (Newed w) := by
  have hmm := @run_makeMap Tryd.prog
  go_enter Tryd.func20, Tryd.ntmps20
  go_wp2_with fail
  go_ret
  exact ⟨rfl, ⟨heap_alloc_at _ _ _ (by simp), ⟨#[], 0, (heap_alloc_old _ _ (by simp)).trans (heap_alloc_new w _), rfl⟩⟩, bel_alloc (bel_alloc (bel_refl w) _) _, by simp⟩
end Go.Proofs.YtbhnmaghnnpboaaDoor
/- lossy: through, Run, Losses. -/
namespace Go.Proofs.YtbhnmaghnnpboaaDoor
open Go.RowKit
attribute [local go_sem ↓] Go.wp_at_zero Go.wp_at_succ

/-- A log, from a state on: where it ends, and how many steps it could do. -/
def goF : RS → List M.Stp → RS × Nat
  | s, [] => (s, 0)
  | s, x :: r => if (stepF s x).1 && fitF 0 (stepF s x).2.chs then ((goF (stepF s x).2 r).1, (goF (stepF s x).2 r).2 + 1) else ((stepF s x).2, 0)
def s0 : RS := ⟨[], [], 0⟩
/-- The steps that a slice reads. -/
def RdSt (w : World) (B : Nat) (A : Option Addr) (n : Nat) (l : List M.Stp) : Prop :=
  l.length = n ∧ (0 < n → ∃ b off, A = some ⟨b, off, none⟩ ∧ b < B ∧ ∀ j, j < n → ∃ KA kn kc SA m sc, (∀ k, k < 15 → w.cell? ⟨b, off + j * 15 + k, none⟩ = (stpCells (l.getD j default) KA kn kc SA m sc)[k]?) ∧ StpAt w B (l.getD j default) KA kn SA m sc)
/-- What through leaves. -/
def Through (w : World) (l : List M.Stp) (e : Ending) (w' : World) : Prop :=
  ∃ rb, e = .returned (.tuple #[.pointer (some ⟨rb, 0, none⟩), .int .i64 (goF s0 l).2]) ∧ Below w.heap.size w w' ∧ ((goF s0 l).2 = l.length → w'.cell? ⟨rb, 2, none⟩ = some (.int .i64 (goF s0 l).1.losses))

theorem inv0 : Inv s0 0 := ⟨(fun p hp => by cases hp), (fun p hp => by cases hp), (fun p hp => by cases hp), (fun p hp => by cases hp), Nat.le_refl _, ⟨by decide, by decide⟩⟩
theorem goF_le : ∀ (l : List M.Stp) (s : RS), (goF s l).2 ≤ l.length
  | [], _ => Nat.le_refl _
  | x :: r, s => by
    unfold goF
    split
    · have := goF_le r (stepF s x).2; simp only [List.length_cons]; omega
    · exact Nat.zero_le _

theorem isok_of {s : RS} {k : Nat} (h : Inv s k) {is : List Ch} (hs : is.map Ch.sees = s.chs) : IsOk is := ⟨fun x hx => by
  have := (h.told (Ch.sees x) (by rw [← hs]; exact List.mem_map_of_mem hx)).1
  exact this⟩

set_option maxRecDepth 100000 in
set_option maxHeartbeats 4000000 in
theorem through_any (A : Option Addr) (n c : Nat) (l : List M.Stp) (w : World) (ht : Tabs w) (hr : RdSt w w.heap.size A n l) (hl : ∀ x ∈ l, StpOk x ∧ NoPan x) (hn : n < 1000000) :
    Calls Tryd.prog 19 #[.slice A n c] w (Through w l) := by
  have HR := Lib.hid hr
  have HL := Lib.hid hl
  have HT := Lib.hid ht
  have h0 : 0 ≤ n := Nat.zero_le _
  have hn2 : n ≤ 9223372036854775807 := by omega
  clear hr hl ht
  go_enter Tryd.func19, Tryd.ntmps19
  go_wp2_with (go_at_call 20; refine (new_any _).mono ?_; rintro e w1 ⟨rfl, hm1, hb1, hz1⟩; have HM1 := Lib.hid hm1; have HB1 := Lib.hid hb1; have HZ1 := Lib.hid hz1; clear hm1 hb1 hz1)
  have hst0 : RunSt w.heap.size (w1.alloc (.cells #[.pointer (some ⟨w.heap.size + 1, 0, none⟩), .slice none 0 0, .int .i64 0] 59)) w1.heap.size (w.heap.size + 1) w.heap.size s0.l [] s0.losses none 0 :=
    ⟨heap_alloc_new w1 _, HM1.out.below (bel_alloc (bel_refl w1) _), World.ownsRow_nil _ _ _ _, (fun x hx => by cases hx), List.Pairwise.nil, ⟨by have := HZ1.out; omega, by omega, Nat.le_refl _⟩, by simp, (fun x hx => by cases hx)⟩
  have HS0 := Lib.hid hst0
  have HBL := Lib.hid (bel_alloc HB1.out (.cells #[.pointer (some ⟨w.heap.size + 1, 0, none⟩), .slice none 0 0, .int .i64 0] 59))
  clear hst0
  generalize w1.heap.size = rb at *
  go_loopw [5, 6, 12] (fun _ _ i wr => ∃ (k : Nat) (s : RS) (is : List Ch) (A1 : Option Addr) (c1 : Nat), k ≤ n ∧ i = .int .i64 k ∧ RunSt w.heap.size wr rb (w.heap.size + 1) w.heap.size s.l is s.losses A1 c1 ∧ is.map Ch.sees = s.chs ∧ Inv s k ∧ goF s0 l = ((goF s (l.drop k)).1, (goF s (l.drop k)).2 + k) ∧ Below w.heap.size w wr)
    (fun _ _ i _ => n - (intOf i).toNat)
  case atStart => exact ⟨0, s0, [], none, 0, h0, rfl, HS0.out, rfl, inv0, rfl, HBL.out⟩
  case round =>
    obtain ⟨k, s, is, A1, c1, hk, rfl, hrs, hse, hin, hgo, hb⟩ := hrel
    have hl := HR.out.1
    have HGO := Lib.hid hgo
    have HSE := Lib.hid hse
    have HIN := Lib.hid hin
    have HRS := Lib.hid hrs
    have HBB := Lib.hid hb
    clear hgo hse hin hrs hb
    by_cases hlt : k < n
    · obtain ⟨b, off, rfl, hbb, hc⟩ := HR.out.2 (by omega)
      obtain ⟨KA, kn, kc, SA, m, sc, hcc, hsa⟩ := hc k hlt
      have hd : l.drop k = l.getD k default :: l.drop (k + 1) := by
        rw [show l.getD k default = l[k]'(by omega) by simp [List.getD, show k < l.length by omega]]
        exact List.drop_eq_getElem_cons (by omega)
      have hmem : l.getD k default ∈ l := by
        rw [show l.getD k default = l[k]'(by omega) by simp [List.getD, show k < l.length by omega]]
        exact List.getElem_mem _
      have hxo := HL.out _ hmem
      have HD := Lib.hid hd
      clear hc hl hd hmem
      generalize l.getD k default = x at *
      have hcb : ∀ j, j < 15 → wr.cell? ⟨b, off + k * 15 + j, none⟩ = (stpCells x KA kn kc SA m sc)[j]? := fun j hj => (HBB.out.cell (p := ⟨b, off + k * 15 + j, none⟩) hbb).trans (hcc j hj)
      have d0 := hcb 0 (by decide)
      have d1 := hcb 1 (by decide)
      have d2 := hcb 2 (by decide)
      have d3 := hcb 3 (by decide)
      have d4 := hcb 4 (by decide)
      have d5 := hcb 5 (by decide)
      have d6 := hcb 6 (by decide)
      have d7 := hcb 7 (by decide)
      have d8 := hcb 8 (by decide)
      have d9 := hcb 9 (by decide)
      have d10 := hcb 10 (by decide)
      have d11 := hcb 11 (by decide)
      have d12 := hcb 12 (by decide)
      have d13 := hcb 13 (by decide)
      have d14 := hcb 14 (by decide)
      clear hcb hcc
      simp only [stpCells, Nat.add_zero] at d0 d1 d2 d3 d4 d5 d6 d7 d8 d9 d10 d11 d12 d13 d14
      have hbw : Below wr.heap.size wr (wr.alloc (.cells (stpCells x KA kn kc SA m sc) 32)) := bel_alloc (bel_refl wr) _
      have hsz := HBB.out.size
      have HSA := Lib.hid ((hsa.below HBB.out (Nat.le_refl _)).below hbw hsz)
      have HT2 := Lib.hid ((HT.out.below HBB.out HT.out.big).bel hbw)
      have h7 := HT.out.big
      have hst := step_any (HRS.out.below hbw) HSE.out HT2.out h7 x KA SA kn kc m sc HSA.out hxo.1 hxo.2 HIN.out (by omega)
      have HST := Lib.hid hst
      have HXO := Lib.hid hxo
      clear hst hxo hsa
      unfold stpCells at HST hbw
      cases hb1 : (stepF s x).1 with
      | false =>
        have hg0 : goF s (l.drop k) = ((stepF s x).2, 0) := by rw [HD.out]; unfold goF; rw [hb1]; rfl
        have HG0 := Lib.hid hg0
        have HB1 := Lib.hid hb1
        clear hb1 hg0
        go_wp2_with (go_at_call 36; refine HST.out.mono ?_; rintro e w3 ⟨he, hb3, -⟩; rw [HB1.out] at he; subst he; have HB3 := Lib.hid hb3; clear hb3)
        go_ret2
        have e0 : goF s0 l = ((stepF s x).2, k) := by rw [HGO.out, HG0.out]; simp
        have hl2 := HR.out.1
        exact ⟨rb, by rw [e0]; rfl, HBB.out.trans ((hbw.mono hsz).trans HB3.out), fun h => by rw [e0] at h; simp only at h; omega⟩
      | true =>
        cases hb2 : fitF 0 (stepF s x).2.chs with
        | false =>
          have hg0 : goF s (l.drop k) = ((stepF s x).2, 0) := by rw [HD.out]; unfold goF; rw [hb1, hb2]; rfl
          have HG0 := Lib.hid hg0
          have HB1 := Lib.hid hb1
          have HB2 := Lib.hid hb2
          have HI2 := Lib.hid (inv_step HIN.out HXO.out.1 hb1)
          clear hb1 hb2 hg0
          go_wp2_with (first | (go_at_call 36; refine HST.out.mono ?_; rintro e w3 ⟨he, hb3, hr3⟩; rw [HB1.out] at he; subst he; obtain ⟨is3, A3, c3, hrs3, hse3⟩ := hr3 HB1.out; have HB3 := Lib.hid hb3; have HRS3 := Lib.hid hrs3; have HSE3 := Lib.hid hse3; clear hb3 hr3 hrs3 hse3) | (go_at_call 37; refine (fit_any HRS3.out (isok_of HI2.out HSE3.out)).mono ?_; rw [HSE3.out, HB2.out]; rintro e w4 ⟨rfl, hb4⟩; have HB4 := Lib.hid hb4; clear hb4))
          go_ret2
          have e0 : goF s0 l = ((stepF s x).2, k) := by rw [HGO.out, HG0.out]; simp
          have hl2 := HR.out.1
          exact ⟨rb, by rw [e0]; rfl, (HBB.out.trans ((hbw.mono hsz).trans HB3.out)).trans (HB4.out.mono (by have := HRS3.out.lo; have := (Array.getElem?_eq_some_iff.1 HRS3.out.hd).1; omega)), fun h => by rw [e0] at h; simp only at h; omega⟩
        | true =>
          have hg0 : goF s (l.drop k) = ((goF (stepF s x).2 (l.drop (k + 1))).1, (goF (stepF s x).2 (l.drop (k + 1))).2 + 1) := by rw [HD.out]; rw [goF, hb1, hb2]; rfl
          have HG0 := Lib.hid hg0
          have HB1 := Lib.hid hb1
          have HB2 := Lib.hid hb2
          have HI2 := Lib.hid (inv_step HIN.out HXO.out.1 hb1)
          clear hb1 hb2 hg0
          go_wp2_with (first | (go_at_call 36; refine HST.out.mono ?_; rintro e w3 ⟨he, hb3, hr3⟩; rw [HB1.out] at he; subst he; obtain ⟨is3, A3, c3, hrs3, hse3⟩ := hr3 HB1.out; have HB3 := Lib.hid hb3; have HRS3 := Lib.hid hrs3; have HSE3 := Lib.hid hse3; clear hb3 hr3 hrs3 hse3) | (go_at_call 37; refine (fit_any HRS3.out (isok_of HI2.out HSE3.out)).mono ?_; rw [HSE3.out, HB2.out]; rintro e w4 ⟨rfl, hb4⟩; have HB4 := Lib.hid hb4; clear hb4))
          go_roundw
          case rel => exact ⟨k + 1, (stepF s x).2, is3, A3, c3, by omega, by go_num, HRS3.out.below HB4.out, HSE3.out, HI2.out, by rw [HGO.out, HG0.out]; simp only; rw [Nat.add_assoc, Nat.add_comm 1 k], (HBB.out.trans ((hbw.mono hsz).trans HB3.out)).trans (HB4.out.mono (by have := HRS3.out.lo; have := (Array.getElem?_eq_some_iff.1 HRS3.out.hd).1; omega))⟩
          case measure => simp [intOf]; omega
    · have hkn : k = n := by omega
      have hd : l.drop k = [] := List.drop_eq_nil_of_le (by omega)
      have e0 : goF s0 l = (s, k) := by rw [HGO.out, hd]; simp [goF]
      have HE0 := Lib.hid e0
      have HK := Lib.hid hkn
      clear e0 hd hkn
      go_wp2_with fail
      go_ret2
      refine ⟨rb, by rw [HE0.out, HK.out]; rfl, HBB.out, fun _ => ?_⟩
      rw [HE0.out]
      exact cells_at (j := 2) HRS.out.hd rfl

/-- A log that may be walked. -/
structure LogAt (w : World) (A : Option Addr) (n : Nat) (l : List M.Stp) : Prop where
  reads : RdSt w w.heap.size A n l
  ok : ∀ x ∈ l, StpOk x ∧ NoPan x
  few : n < 1000000

set_option maxHeartbeats 1000000 in
theorem run_any (A : Option Addr) (n c : Nat) (l : List M.Stp) (w : World) (ht : Tabs w) (h : LogAt w A n l) :
    Calls Tryd.prog 11 #[.slice A n c] w fun e w' => e = .returned (.tuple #[.int .i64 (goF s0 l).2, .bool (decide ((goF s0 l).2 = l.length))]) ∧ Below w.heap.size w w' := by
  have HC := Lib.hid (through_any A n c l w ht h.reads h.ok h.few)
  have hl := h.reads.1
  have hle := goF_le l s0
  have hf := h.few
  clear h ht
  subst hl
  generalize l.length = n at *
  have HP := Lib.hid (show (((goF s0 l).2 : Int) == (n : Int)) = decide ((goF s0 l).2 = n) by rw [Bool.eq_iff_iff]; simp; omega)
  go_enter Tryd.func11, Tryd.ntmps11
  go_wp2_with (go_at_call 19; refine HC.out.mono ?_; rintro e w1 ⟨rb, rfl, hb, -⟩; have HB := Lib.hid hb; clear hb)
  go_ret2
  rw [← HP.out]
  exact ⟨rfl, HB.out⟩
end Go.Proofs.YtbhnmaghnnpboaaDoor
/- lossy: Losses. -/
namespace Go.Proofs.YtbhnmaghnnpboaaDoor
open Go.RowKit
attribute [local go_sem ↓] Go.wp_at_zero Go.wp_at_succ

/-- What Losses tells. -/
def lossF (l : List M.Stp) : Int := if (goF s0 l).2 = l.length then (goF s0 l).1.losses else 0
def ThroughQ (w : World) (q n : Nat) (lo : Int) (e : Ending) (w' : World) : Prop :=
  ∃ rb, e = .returned (.tuple #[.pointer (some ⟨rb, 0, none⟩), .int .i64 q]) ∧ Below w.heap.size w w' ∧ (q = n → w'.cell? ⟨rb, 2, none⟩ = some (.int .i64 lo))
set_option maxHeartbeats 1000000 in
theorem losses_q (A : Option Addr) (n c : Nat) (q : Nat) (lo : Int) (w : World) (h : Calls Tryd.prog 19 #[.slice A n c] w (ThroughQ w q n lo)) (hq : q ≤ n) (hlo : q ≠ n → lo = 0) :
    Calls Tryd.prog 12 #[.slice A n c] w fun e w' => e = .returned (.tuple #[.int .i64 lo, .bool (decide (q = n))]) ∧ Below w.heap.size w w' := by
  have HC := Lib.hid h
  have HL := Lib.hid hlo
  clear h hlo
  by_cases he : q = n
  · subst he
    go_enter Tryd.func12, Tryd.ntmps12
    go_wp2_with (go_at_call 19; refine HC.out.mono ?_; rintro e w1 ⟨rb, rfl, hb, hc⟩; have h2 := hc rfl; have HB := Lib.hid hb; clear hb hc)
    go_ret2
    exact ⟨by simp, HB.out⟩
  · have t1 : decide (q < n) = true := by simp; omega
    have HE := Lib.hid he
    have hz := HL.out he
    clear he
    subst hz
    go_enter Tryd.func12, Tryd.ntmps12
    go_wp2_with (go_at_call 19; refine HC.out.mono ?_; rintro e w1 ⟨rb, rfl, hb, -⟩; have HB := Lib.hid hb; clear hb)
    go_ret2
    rw [decide_eq_false HE.out]
    exact ⟨rfl, HB.out⟩
theorem losses_any (A : Option Addr) (n c : Nat) (l : List M.Stp) (w : World) (ht : Tabs w) (h : LogAt w A n l) :
    Calls Tryd.prog 12 #[.slice A n c] w fun e w' => e = .returned (.tuple #[.int .i64 (lossF l), .bool (decide ((goF s0 l).2 = l.length))]) ∧ Below w.heap.size w w' := by
  have hl := h.reads.1
  have hle := goF_le l s0
  have hc : Calls Tryd.prog 19 #[.slice A n c] w (ThroughQ w (goF s0 l).2 n (lossF l)) := (through_any A n c l w ht h.reads h.ok h.few).mono fun e w' ⟨rb, he, hb, hq⟩ => ⟨rb, he, hb, fun hn => by rw [hq (by rw [hn, hl])]; unfold lossF; rw [if_pos (by rw [hn, hl])]⟩
  have := losses_q A n c _ _ w hc (by omega) (fun hne => by unfold lossF; rw [if_neg (by rw [hl]; exact hne)])
  rw [hl]
  exact this
end Go.Proofs.YtbhnmaghnnpboaaDoor

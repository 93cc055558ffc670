/- lossy: what a run keeps in memory, and what its stores do to it. -/
import Derived.Test.YtbhnmaghnnpboaaDoorZh
import Derived.Deep.CutRange
namespace Go.Proofs.YtbhnmaghnnpboaaDoor
open Go.RowKit

/-- What is told of a change's version; where its slice lies. -/
structure Ch where
  told : Int
  nots : List Int
  A : Option Addr
  c : Nat
def Ch.nv (x : Ch) : Value := .slice x.A x.nots.length x.c
def Ch.two (x : Ch) : List Value := [.int .u64 x.told, x.nv]
def chCells (l : List Ch) : List Value := l.flatMap Ch.two
def Ch.sees (x : Ch) : Int × List Int := (x.told, x.nots)

theorem chCells_len : ∀ (l : List Ch), (chCells l).length = l.length * 2
  | [] => rfl
  | x :: l => by
    have := chCells_len l
    simp only [chCells, List.flatMap_cons, List.length_append, List.length_cons] at this ⊢
    simp only [Ch.two, List.length_cons, List.length_nil]
    omega
theorem chCells_at : ∀ (l : List Ch) (j : Nat) (h : j < l.length), (chCells l)[2 * j]? = some (.int .u64 l[j].told) ∧ (chCells l)[2 * j + 1]? = some l[j].nv
  | x :: l, 0, _ => ⟨rfl, rfl⟩
  | x :: l, j + 1, h => by
    have := chCells_at l j (by simpa using h)
    have e : chCells (x :: l) = Value.int .u64 x.told :: x.nv :: chCells l := rfl
    rw [e, show 2 * (j + 1) = 2 * j + 2 by omega]
    exact this
theorem chCells_set : ∀ (l : List Ch) (j : Nat) (_h : j < l.length) (y : Ch), chCells (l.set j y) = ((chCells l).set (2 * j) (.int .u64 y.told)).set (2 * j + 1) y.nv
  | x :: l, 0, _, y => rfl
  | x :: l, j + 1, h, y => by
    have := chCells_set l j (by simpa using h) y
    have e : ∀ x l, chCells (x :: l) = Value.int .u64 x.told :: x.nv :: chCells l := fun _ _ => rfl
    rw [List.set_cons_succ, e, e, this, show 2 * (j + 1) = 2 * j + 1 + 1 by omega]
    rfl

structure RunSt (B : Nat) (w : World) (rb mb g : Nat) (l : M.Mp) (is : List Ch) (losses : Int) (A : Option Addr) (c : Nat) : Prop where
  hd : w.heap[rb]? = some (.cells #[.pointer (some ⟨mb, 0, none⟩), .slice A is.length c, .int .i64 losses] 59)
  map : MapSt w mb g l
  row : w.ownsRow B 134 2 (.slice A is.length c) is.length (chCells is)
  nots : ∀ x ∈ is, w.ownsRow B 27 1 x.nv x.nots.length (x.nots.map (Value.int .u64))
  dis : is.Pairwise (fun x y => ∀ k, x.nv.ownBlock = some k → y.nv.ownBlock ≠ some k)
  lo : B ≤ rb ∧ B ≤ mb ∧ B ≤ g
  small : is.length ≤ 1000000
  smalln : ∀ x ∈ is, x.nots.length ≤ 1000000

theorem owns_block {w : World} {B : Nat} {e : TypeId} {size : Nat} {v : Value} {n : Nat} {xs : List Value} (h : w.ownsRow B e size v n xs) {k : Nat} (hk : v.ownBlock = some k) : ∃ cur, w.heap[k]? = some (.cells cur e (0, 0)) := by
  rcases h.2 with ⟨rfl, _⟩ | ⟨g, cap, cur, rfl, _, hg, _⟩
  · simp [Value.ownBlock] at hk
  · simp [Value.ownBlock] at hk
    subst hk
    exact ⟨cur, hg⟩
theorem owns_ne {w : World} {B : Nat} {e _e' : TypeId} {size : Nat} {v : Value} {n : Nat} {xs : List Value} (h : w.ownsRow B e size v n xs) {k : Nat} {o : Obj} (ho : w.heap[k]? = some o) (hne : ∀ cur, o ≠ .cells cur e (0, 0)) : v.ownBlock = none ∨ v.ownBlock ≠ some k := by
  cases hv : v.ownBlock with
  | none => exact .inl rfl
  | some j =>
    right
    intro hj
    obtain ⟨cur, hc⟩ := owns_block h hv
    injection hj with hj
    subst hj
    rw [hc] at ho
    injection ho with ho
    exact hne cur ho.symm

theorem RunSt.below {B : Nat} {w w' : World} {rb mb g : Nat} {l : M.Mp} {is : List Ch} {losses : Int} {A : Option Addr} {c : Nat} (h : RunSt B w rb mb g l is losses A c) (hb : Below w.heap.size w w') : RunSt B w' rb mb g l is losses A c := by
  have hg : w.grownBy w' none := gr_of hb
  have hn : ∀ v : Value, v.ownBlock = none ∨ v.ownBlock ≠ none := fun v => by cases v.ownBlock <;> simp
  exact ⟨(hb.block rb (Array.getElem?_eq_some_iff.1 h.hd).1).trans h.hd, h.map.below hb, h.row.kept hg (hn _), fun x hx => (h.nots x hx).kept hg (hn _), h.dis, h.lo, h.small, h.smalln⟩

/-- The map's block alone may have turned. -/
theorem RunSt.mapped {B : Nat} {w w' : World} {rb mb g : Nat} {l l' : M.Mp} {is : List Ch} {losses : Int} {A : Option Addr} {c : Nat} (h : RunSt B w rb mb g l is losses A c) (hg : w.grownBy w' (some g)) (hm : MapSt w' mb g l') : RunSt B w' rb mb g l' is losses A c := by
  obtain ⟨es, clk, hh, _⟩ := h.map.at_
  have hne : rb ≠ g := fun e => by rw [← e, h.hd] at hh; cases hh
  exact ⟨(hg.block rb (Array.getElem?_eq_some_iff.1 h.hd).1 (fun e => hne (by injection e))).trans h.hd, hm, h.row.kept hg (owns_ne (_e' := 134) h.row hh (fun _ e => by cases e)), fun x hx => (h.nots x hx).kept hg (owns_ne (_e' := 27) (h.nots x hx) hh (fun _ e => by cases e)), h.dis, h.lo, h.small, h.smalln⟩

theorem heap_put {w : World} {b o : Nat} {cur : Array Value} {e : TypeId} {fz : Nat × Nat} (v : Value) (h : w.heap[b]? = some (.cells cur e fz)) : (w.setCell ⟨b, o, none⟩ v).heap[b]? = some (.cells (cur.setIfInBounds o v) e fz) := by
  simp [World.setCell, Array.getElem?_modify, h]
theorem gr_put (w : World) (a : Addr) (v : Value) : w.grownBy (w.setCell a v) (some a.block) :=
  ⟨rfl, rfl, rfl, by simp [World.setCell], fun k _ hk => Below.heap_setCell w a v k (fun e => hk (by rw [e]))⟩

/-- The count of losses is set. -/
theorem RunSt.loss {B : Nat} {w : World} {rb mb g : Nat} {l : M.Mp} {is : List Ch} {losses : Int} {A : Option Addr} {c : Nat} (h : RunSt B w rb mb g l is losses A c) (n : Int) : RunSt B (w.setCell ⟨rb, 2, none⟩ (.int .i64 n)) rb mb g l is n A c := by
  have hg := gr_put w ⟨rb, 2, none⟩ (.int .i64 n)
  obtain ⟨es, clk, hh, hs⟩ := h.map.at_
  have hne : g ≠ rb := fun e => by rw [e, h.hd] at hh; cases hh
  have hnm : mb ≠ rb := fun e => by have := h.map.hd; rw [e, h.hd] at this; cases this
  refine ⟨by rw [heap_put _ h.hd]; rfl, ⟨?_, ⟨es, clk, ?_, hs⟩⟩, h.row.kept hg (owns_ne (_e' := 134) h.row h.hd (fun _ e => by cases e)), fun x hx => (h.nots x hx).kept hg (owns_ne (_e' := 27) (h.nots x hx) h.hd (fun _ e => by cases e)), h.dis, h.lo, h.small, h.smalln⟩
  · rw [Below.heap_setCell _ _ _ _ (by exact hnm)]; exact h.map.hd
  · rw [Below.heap_setCell _ _ _ _ (by exact hne)]; exact hh
end Go.Proofs.YtbhnmaghnnpboaaDoor
/- lossy: the run's stores: told, not, a further change. -/
namespace Go.Proofs.YtbhnmaghnnpboaaDoor
open Go.RowKit

theorem cells_at {w : World} {b j : Nat} {cur : Array Value} {e : TypeId} {v : Value} (h : w.heap[b]? = some (.cells cur e (0, 0))) (hv : cur[j]? = some v) : w.cell? ⟨b, j, none⟩ = some v := by
  rw [cell_of_row w b j cur e (0, 0) h]; exact hv
theorem froz_at {w : World} {b j : Nat} {cur : Array Value} {e : TypeId} (h : w.heap[b]? = some (.cells cur e (0, 0))) : w.frozen? ⟨b, j, none⟩ = false := by
  simp [World.frozen?, h]
theorem take_at {cur : List Value} {n j : Nat} {xs : List Value} {v : Value} (h : cur.take n = xs) (hv : xs[j]? = some v) : cur[j]? = some v := by
  rw [← h, List.getElem?_take] at hv
  split at hv
  · exact hv
  · cases hv

theorem set_same {l : List Value} {i : Nat} {v : Value} (h : l[i]? = some v) : l.set i v = l := by
  obtain ⟨hi, rfl⟩ := List.getElem?_eq_some_iff.1 h
  exact List.set_getElem_self hi
/-- The row of changes, opened. -/
theorem RunSt.open {B : Nat} {w : World} {rb mb g : Nat} {l : M.Mp} {is : List Ch} {losses : Int} {A : Option Addr} {c : Nat} (h : RunSt B w rb mb g l is losses A c) (hn : 0 < is.length) :
    ∃ cb cur, A = some ⟨cb, 0, none⟩ ∧ B ≤ cb ∧ w.heap[cb]? = some (.cells cur 134 (0, 0)) ∧ is.length ≤ c ∧ c ≤ maxLen ∧ cur.size = c * 2 ∧ cur.toList.take (is.length * 2) = chCells is := by
  rcases h.row.2 with ⟨he, hz⟩ | ⟨cb, cap, cur, he, hb, hg, r⟩
  · omega
  · injection he with h1 h2 h3
    subst h3
    exact ⟨cb, cur, h1, hb, hg, r⟩

theorem RunSt.told_ {B : Nat} {w : World} {rb mb g : Nat} {l : M.Mp} {is : List Ch} {losses : Int} {A : Option Addr} {c : Nat} (h : RunSt B w rb mb g l is losses A c) (j : Nat) (hj : j < is.length) :
    ∃ cb, A = some ⟨cb, 0, none⟩ ∧ B ≤ cb ∧ w.cell? ⟨cb, j * 2, none⟩ = some (.int .u64 is[j].told) ∧ w.cell? ⟨cb, j * 2 + 1, none⟩ = some is[j].nv ∧ (∀ o, w.frozen? ⟨cb, o, none⟩ = false) ∧
      ∀ v, RunSt B (w.setCell ⟨cb, j * 2, none⟩ (.int .u64 v)) rb mb g l (is.set j { is[j] with told := v }) losses A c := by
  obtain ⟨cb, cur, rfl, hB, hg, h1, h2, h3, h4⟩ := h.open (by omega)
  obtain ⟨g1, g2⟩ := chCells_at is j hj
  rw [Nat.mul_comm 2 j] at g1 g2
  have c1 : cur[j * 2]? = some (.int .u64 is[j].told) := by rw [← Array.getElem?_toList]; exact take_at h4 g1
  have c2 : cur[j * 2 + 1]? = some is[j].nv := by rw [← Array.getElem?_toList]; exact take_at h4 g2
  refine ⟨cb, rfl, hB, cells_at hg c1, cells_at hg c2, fun o => froz_at hg, fun v => ?_⟩
  have hgr := gr_put w ⟨cb, j * 2, none⟩ (.int .u64 v)
  obtain ⟨es, clk, hh, hs⟩ := h.map.at_
  have n1 : rb ≠ cb := fun e => by have := h.hd; rw [e, hg] at this; cases this
  have n2 : mb ≠ cb := fun e => by have := h.map.hd; rw [e, hg] at this; cases this
  have n3 : g ≠ cb := fun e => by rw [e, hg] at hh; cases hh
  have hmem : ∀ x ∈ is.set j { is[j] with told := v }, ∃ y ∈ is, x.nots = y.nots ∧ x.nv = y.nv := fun x hx => by
    rcases List.mem_or_eq_of_mem_set hx with hx | hx
    · exact ⟨x, hx, rfl, rfl⟩
    · subst hx; exact ⟨is[j], List.getElem_mem hj, rfl, rfl⟩
  refine ⟨?_, ⟨?_, ⟨es, clk, ?_, hs⟩⟩, ⟨?_, .inr ⟨cb, c, cur.setIfInBounds (j * 2) (.int .u64 v), ?_, hB, heap_put _ hg, by rw [List.length_set]; exact h1, h2, by simpa using h3, ?_⟩⟩, ?_, ?_, h.lo, by rw [List.length_set]; exact h.small, ?_⟩
  · rw [Below.heap_setCell _ _ _ _ (by exact n1), List.length_set]; exact h.hd
  · rw [Below.heap_setCell _ _ _ _ (by exact n2)]; exact h.map.hd
  · rw [Below.heap_setCell _ _ _ _ (by exact n3)]; exact hh
  · rw [chCells_len]
  · rw [List.length_set]
  · rw [List.length_set, Array.toList_setIfInBounds, List.take_set, h4, chCells_set is j hj, Nat.mul_comm 2 j]
    show _ = ((chCells is).set (j * 2) (.int .u64 v)).set (j * 2 + 1) is[j].nv
    rw [List.set_comm _ _ (by omega)]
    congr 1
    exact (set_same g2).symm
  · intro x hx
    obtain ⟨y, hy, e1, e2⟩ := hmem x hx
    rw [e1, e2]
    exact (h.nots y hy).kept hgr (owns_ne (_e' := 27) (h.nots y hy) hg (fun _ e => by cases e))
  · refine List.pairwise_iff_getElem.2 fun a b ha hb hab => ?_
    have key : ∀ i (hi : i < (is.set j { is[j] with told := v }).length), (is.set j { is[j] with told := v })[i].nv = (is[i]'(by simpa using hi)).nv := fun i hi => by
      rw [List.getElem_set]; split
      · rename_i e; subst e; rfl
      · rfl
    rw [key a ha, key b hb]
    exact (List.pairwise_iff_getElem.1 h.dis) a b (by simpa using ha) (by simpa using hb) hab
  · intro x hx
    obtain ⟨y, hy, e1, e2⟩ := hmem x hx
    rw [e1]; exact h.smalln y hy

/-- A further change. -/
theorem RunSt.push_ {B : Nat} {w w2 : World} {rb mb g : Nat} {l : M.Mp} {is : List Ch} {losses : Int} {A : Option Addr} {c : Nat} (h : RunSt B w rb mb g l is losses A c) {A' : Option Addr} {c' : Nat} (hg : w.grownBy w2 (Value.slice A is.length c).ownBlock)
    (ho : w2.ownsRow B 134 2 (.slice A' (is.length + 1) c') (is.length + 1) (chCells is ++ [.int .u64 0, .slice none 0 0])) (hs : is.length < 1000000) :
    w2.cell? ⟨rb, 1, none⟩ = some (.slice A is.length c) ∧ w2.frozen? ⟨rb, 1, none⟩ = false ∧ RunSt B (w2.setCell ⟨rb, 1, none⟩ (.slice A' (is.length + 1) c')) rb mb g l (is ++ [⟨0, [], none, 0⟩]) losses A' c' := by
  have e1 : ∀ k o, w.heap[k]? = some o → (∀ cur : Array Value, o ≠ Obj.cells cur 134 (0, 0)) → w2.heap[k]? = some o := fun k o hk hne => by
    rw [hg.block k (Array.getElem?_eq_some_iff.1 hk).1 (fun e => by
      rcases owns_ne (_e' := 134) h.row hk hne with hz | hz
      · rw [hz] at e; cases e
      · exact hz e.symm)]
    exact hk
  have d1 := e1 rb _ h.hd (fun _ e => by cases e)
  obtain ⟨es, clk, hh, hsh⟩ := h.map.at_
  have d2 := e1 g _ hh (fun _ e => by cases e)
  have d3 := e1 mb _ h.map.hd (fun _ e => by cases e)
  have hgr := gr_put w2 ⟨rb, 1, none⟩ (.slice A' (is.length + 1) c')
  have n2 : mb ≠ rb := fun e => by rw [e, d1] at d3; cases d3
  have n3 : g ≠ rb := fun e => by rw [e, d1] at d2; cases d2
  refine ⟨cells_at d1 rfl, froz_at d1, ?_, ⟨?_, ⟨es, clk, ?_, hsh⟩⟩, ?_, ?_, ?_, h.lo, by simp; omega, ?_⟩
  · rw [heap_put _ d1, List.length_append]; rfl
  · rw [Below.heap_setCell _ _ _ _ (by exact n2)]; exact d3
  · rw [Below.heap_setCell _ _ _ _ (by exact n3)]; exact d2
  · have := ho.kept hgr (owns_ne (_e' := 134) ho d1 (fun _ e => by cases e))
    rw [List.length_append]
    rw [show chCells (is ++ [⟨0, [], none, 0⟩]) = chCells is ++ [.int .u64 0, .slice none 0 0] by simp [chCells, Ch.two, Ch.nv]]
    exact this
  · intro x hx
    rcases List.mem_append.1 hx with hx | hx
    · have k1 : w2.ownsRow B 27 1 x.nv x.nots.length (x.nots.map (Value.int .u64)) := (h.nots x hx).kept hg (by
        cases hv : (Value.slice A is.length c).ownBlock with
        | none => cases x.nv.ownBlock <;> simp
        | some k =>
          obtain ⟨cur, hc⟩ := owns_block h.row hv
          exact owns_ne (_e' := 27) (h.nots x hx) hc (fun _ e => by cases e))
      exact k1.kept hgr (owns_ne (_e' := 27) k1 d1 (fun _ e => by cases e))
    · simp only [List.mem_singleton] at hx
      subst hx
      exact World.ownsRow_nil _ _ _ _
  · refine List.pairwise_append.2 ⟨h.dis, List.pairwise_singleton _ _, fun a _ b hb k _ => ?_⟩
    simp only [List.mem_singleton] at hb
    subst hb
    simp [Ch.nv, Value.ownBlock]
  · intro x hx
    rcases List.mem_append.1 hx with hx | hx
    · exact h.smalln x hx
    · simp only [List.mem_singleton] at hx
      subst hx
      simp

/-- A version that a change's is not. -/
theorem RunSt.not_ {B : Nat} {w w2 : World} {rb mb g : Nat} {l : M.Mp} {is : List Ch} {losses : Int} {A : Option Addr} {c : Nat} (h : RunSt B w rb mb g l is losses A c) (j : Nat) (hj : j < is.length) {A' : Option Addr} {c' : Nat} {v : Int} (hg : w.grownBy w2 is[j].nv.ownBlock)
    (ho : w2.ownsRow B 27 1 (.slice A' (is[j].nots.length + 1) c') (is[j].nots.length + 1) (is[j].nots.map (Value.int .u64) ++ [.int .u64 v]))
    (hf : ∀ k, (Value.slice A' (is[j].nots.length + 1) c').ownBlock = some k → is[j].nv.ownBlock = some k ∨ w.heap.size ≤ k) (hs : is[j].nots.length < 1000000) :
    ∃ cb, A = some ⟨cb, 0, none⟩ ∧ B ≤ cb ∧ w2.cell? ⟨cb, j * 2 + 1, none⟩ = some is[j].nv ∧ (∀ o, w2.frozen? ⟨cb, o, none⟩ = false) ∧
      RunSt B (w2.setCell ⟨cb, j * 2 + 1, none⟩ (.slice A' (is[j].nots.length + 1) c')) rb mb g l (is.set j ⟨is[j].told, is[j].nots ++ [v], A', c'⟩) losses A c := by
  obtain ⟨cb, cur, rfl, hB, hcb, h1, h2, h3, h4⟩ := h.open (by omega)
  have hmj : is[j] ∈ is := List.getElem_mem hj
  have e1 : ∀ k o, w.heap[k]? = some o → (∀ cur : Array Value, o ≠ Obj.cells cur 27 (0, 0)) → w2.heap[k]? = some o := fun k o hk hne => by
    rw [hg.block k (Array.getElem?_eq_some_iff.1 hk).1 (fun e => by
      rcases owns_ne (_e' := 27) (h.nots _ hmj) hk hne with hz | hz
      · rw [hz] at e; cases e
      · exact hz e.symm)]
    exact hk
  obtain ⟨es, clk, hh, hsh⟩ := h.map.at_
  have d1 := e1 rb _ h.hd (fun _ e => by cases e)
  have d2 := e1 g _ hh (fun _ e => by cases e)
  have d3 := e1 mb _ h.map.hd (fun _ e => by cases e)
  have d4 := e1 cb _ hcb (fun _ e => by cases e)
  obtain ⟨g1, g2⟩ := chCells_at is j hj
  rw [Nat.mul_comm 2 j] at g1 g2
  have c2 : cur[j * 2 + 1]? = some is[j].nv := by rw [← Array.getElem?_toList]; exact take_at h4 g2
  have hgr := gr_put w2 ⟨cb, j * 2 + 1, none⟩ (.slice A' (is[j].nots.length + 1) c')
  have n1 : rb ≠ cb := fun e => by rw [e, d4] at d1; cases d1
  have n2 : mb ≠ cb := fun e => by rw [e, d4] at d3; cases d3
  have n3 : g ≠ cb := fun e => by rw [e, d4] at d2; cases d2
  have hlt : ∀ x ∈ is, ∀ k, x.nv.ownBlock = some k → k < w.heap.size := fun x hx k hk => ((h.nots x hx).lt k hk).2
  refine ⟨cb, rfl, hB, cells_at d4 c2, fun o => froz_at d4, ?_, ⟨?_, ⟨es, clk, ?_, hsh⟩⟩, ⟨?_, .inr ⟨cb, c, cur.setIfInBounds (j * 2 + 1) (.slice A' (is[j].nots.length + 1) c'), ?_, hB, heap_put _ d4, by rw [List.length_set]; exact h1, h2, by simpa using h3, ?_⟩⟩, ?_, ?_, h.lo, by rw [List.length_set]; exact h.small, ?_⟩
  · rw [Below.heap_setCell _ _ _ _ (by exact n1), List.length_set]; exact d1
  · rw [Below.heap_setCell _ _ _ _ (by exact n2)]; exact d3
  · rw [Below.heap_setCell _ _ _ _ (by exact n3)]; exact d2
  · rw [chCells_len]
  · rw [List.length_set]
  · rw [List.length_set, Array.toList_setIfInBounds, List.take_set, h4, chCells_set is j hj, Nat.mul_comm 2 j]
    show _ = ((chCells is).set (j * 2) (.int .u64 is[j].told)).set (j * 2 + 1) (.slice A' (is[j].nots ++ [v]).length c')
    rw [set_same g1, List.length_append]
    rfl
  · intro x hx
    have key : w2.ownsRow B 27 1 x.nv x.nots.length (x.nots.map (Value.int .u64)) := by
      obtain ⟨i, hi, he⟩ := List.getElem_of_mem hx
      rw [List.getElem_set] at he
      split at he
      · subst he
        show w2.ownsRow B 27 1 (.slice A' (is[j].nots ++ [v]).length c') (is[j].nots ++ [v]).length ((is[j].nots ++ [v]).map (Value.int .u64))
        rw [List.length_append, List.map_append]
        exact ho
      · rename_i hne
        have hi' : i < is.length := by simpa using hi
        subst he
        refine (h.nots _ (List.getElem_mem hi')).kept hg ?_
        cases hv : is[i].nv.ownBlock with
        | none => exact .inl rfl
        | some k =>
          refine .inr (fun e => ?_)
          rcases Nat.lt_or_gt_of_ne hne with hlt' | hlt'
          · exact (List.pairwise_iff_getElem.1 h.dis) j i hj hi' hlt' k e.symm hv
          · exact (List.pairwise_iff_getElem.1 h.dis) i j hi' hj hlt' k hv e.symm
    exact key.kept hgr (owns_ne (_e' := 27) key d4 (fun _ e => by cases e))
  · refine List.pairwise_iff_getElem.2 fun a b ha hb hab k hk hk2 => ?_
    have ha' : a < is.length := by simpa using ha
    have hb' : b < is.length := by simpa using hb
    rw [List.getElem_set] at hk hk2
    split at hk
    · rename_i e; subst e
      rw [if_neg (by omega)] at hk2
      have hk3 : (Value.slice A' (is[j].nots.length + 1) c').ownBlock = some k := by
        rw [← hk]; show _ = (Value.slice A' (is[j].nots ++ [v]).length c').ownBlock; rw [List.length_append]; rfl
      rcases hf k hk3 with h5 | h5
      · exact (List.pairwise_iff_getElem.1 h.dis) j b ha' hb' hab k h5 hk2
      · have := hlt _ (List.getElem_mem hb') k hk2; omega
    · split at hk2
      · rename_i e; subst e
        have hk3 : (Value.slice A' (is[j].nots.length + 1) c').ownBlock = some k := by
          rw [← hk2]; show _ = (Value.slice A' (is[j].nots ++ [v]).length c').ownBlock; rw [List.length_append]; rfl
        rcases hf k hk3 with h5 | h5
        · exact (List.pairwise_iff_getElem.1 h.dis) a j ha' hb' hab k hk h5
        · have := hlt _ (List.getElem_mem ha') k hk; omega
      · exact (List.pairwise_iff_getElem.1 h.dis) a b ha' hb' hab k hk hk2
  · intro x hx
    rcases List.mem_or_eq_of_mem_set hx with hx | hx
    · exact h.smalln x hx
    · subst hx; simp; omega
end Go.Proofs.YtbhnmaghnnpboaaDoor
/- lossy: changes, next, lose, tell. -/
namespace Go.Proofs.YtbhnmaghnnpboaaDoor
open Go.RowKit
attribute [local go_sem ↓] Go.wp_at_zero Go.wp_at_succ

set_option maxHeartbeats 1000000 in
theorem next_any {B : Nat} {w : World} {rb mb g : Nat} {l : M.Mp} {is : List Ch} {losses : Int} {A : Option Addr} {c : Nat} (h : RunSt B w rb mb g l is losses A c) :
    Calls Tryd.prog 58 #[.pointer (some ⟨rb, 0, none⟩)] w fun e w' => e = .returned (.int .u64 (is.length + 1)) ∧ w = w' := by
  have h1 := cells_at (j := 1) h.hd rfl
  have hz := h.small
  have e1 : IntKind.u64.wrap (is.length : Int) = (is.length : Int) := by rw [IntKind.wrap_u64]; omega
  have e2 : IntKind.u64.wrap ((is.length : Int) + 1) = (is.length : Int) + 1 := by rw [IntKind.wrap_u64]; omega
  clear h
  go_enter Tryd.func58, Tryd.ntmps58
  go_wp2_with fail
  go_ret
  simp

set_option maxRecDepth 100000 in
set_option maxHeartbeats 2000000 in
theorem lose_none {B : Nat} {w : World} {rb mb g : Nat} {l : M.Mp} {is : List Ch} {losses : Int} {A : Option Addr} {c : Nat} (h : RunSt B w rb mb g l is losses A c) (key : ByteArray) (now : Int) (hx : M.mget l key now = none) :
    Calls Tryd.prog 56 #[.pointer (some ⟨rb, 0, none⟩), .string key, .int .i64 now] w fun e w' => e = .returned (.tuple #[]) ∧ Below w.heap.size w w' := by
  have h0 := cells_at (j := 0) h.hd rfl
  have HC := Lib.hid (mget_none mb g l key now w h.map hx)
  clear h hx
  go_enter Tryd.func56, Tryd.ntmps56
  go_wp2_with (go_at_call 24; refine HC.out.mono ?_; rintro e w1 ⟨rfl, hb1⟩)
  go_end0
  exact ⟨rfl, bel_alloc hb1 _⟩

set_option maxRecDepth 100000 in
set_option maxHeartbeats 2000000 in
theorem lose_some {B : Nat} {w : World} {rb mb g : Nat} {l : M.Mp} {is : List Ch} {losses : Int} {A : Option Addr} {c : Nat} (h : RunSt B w rb mb g l is losses A c) (key : ByteArray) (now : Int) (y : M.Item) (hx : M.mget l key now = some y) (hl : 0 ≤ losses ∧ losses < 9223372036854775807) :
    Calls Tryd.prog 56 #[.pointer (some ⟨rb, 0, none⟩), .string key, .int .i64 now] w fun e w' => e = .returned (.tuple #[]) ∧ RunSt B w' rb mb g (M.mdel l key) is (losses + 1) A c ∧ Below B w w' := by
  have h0 := cells_at (j := 0) h.hd rfl
  have hlo := h.lo
  have HC := Lib.hid (mget_some mb g l key now y w h.map hx)
  have H := Lib.hid h
  have e2 : IntKind.i64.wrap (losses + 1) = losses + 1 := by rw [IntKind.wrap_i64]; omega
  have E2 := Lib.hid e2
  clear h hx e2
  go_enter Tryd.func56, Tryd.ntmps56
  go_wp2_with fail
  refine HC.out.mono ?_
  rintro e w1 ⟨rfl, hb1⟩
  have hw1 := bel_alloc hb1 (.cells #[.string y.key, .string y.val, .int .u32 y.flags, .int .i64 y.exp, .int .u64 y.ver] 65)
  have h1 := H.out.below hw1
  have k0 := cells_at (j := 0) h1.hd rfl
  have HL := Lib.hid (mlose_any mb g l key _ h1.map)
  have H1 := Lib.hid h1
  clear h1
  go_wp2_with fail
  refine HL.out.mono ?_
  rintro e w2 ⟨rfl, hm, hg⟩
  have h2 := H1.out.mapped hg hm
  have k2 := cells_at (j := 2) h2.hd rfl
  have f2 := froz_at (j := 2) h2.hd
  have h3 := h2.loss (losses + 1)
  have hb2 : Below B w w2 := ⟨hg.os.trans hw1.os, hg.tape.trans hw1.tape, hg.output.trans hw1.output, Nat.le_trans hw1.size hg.size, fun i hi => (hg.block i (by have := H.out.map.at_.lt; have := hw1.size; omega) (fun e => by injection e with e; omega)).trans (hw1.block i (by have := H.out.map.at_.lt; omega))⟩
  have H3 := Lib.hid h3
  have HB := Lib.hid hb2
  clear h2 h3 hb2 hm hg
  go_wp2_with fail
  go_end0
  refine ⟨rfl, ?_, Below.setCell HB.out (by exact hlo.1) _⟩

  exact H3.out

/-- Does an answer say that something changed? -/
def changesF (c : M.C) (told : ByteArray) : Bool :=
  match c with
  | .store _ _ _ _ _ _ _ => eqs told bStored
  | .touch _ _ _ => eqs told bTouched
  | .arith _ _ _ _ => !eqs told bNone && decide (48 ≤ told.data.toList.headD 0) && decide (told.data.toList.headD 0 ≤ 57)
  | _ => false

set_option maxHeartbeats 2000000 in
theorem changes_other (K : Value) (c : M.C) (told : ByteArray) (w : World) (h : ∀ key by_ down q, c ≠ .arith key by_ down q) :
    Calls Tryd.prog 59 #[cV K c, .string told] w fun e w' => e = .returned (.bool (changesF c told)) ∧ Below w.heap.size w w' := by
  cases c with
  | arith key by_ down q => exact absurd rfl (h key by_ down q)
  | _ =>
    simp only [cV, changesF]
    clear h
    cases h2 : told.toList == [83, 84, 79, 82, 69, 68] <;> cases h4 : told.toList == [84, 79, 85, 67, 72, 69, 68]
    all_goals
      try simp only [eqs, bStored, bTouched, h2, h4]
      go_enter Tryd.func59, Tryd.ntmps59
      go_wp2_with fail
      go_ret
      refine ⟨rfl, ?_⟩
      repeat (first | with_reducible exact bel_refl _ | with_reducible apply bel_alloc)

set_option maxHeartbeats 2000000 in
theorem changes_arith (key : ByteArray) (by_ : Int) (down q : Bool) (told : ByteArray) (w : World) (h : 0 < told.size) :
    Calls Tryd.prog 59 #[.iface 108 (.agg #[.string key, .int .u64 by_, .bool down, .bool q]), .string told] w fun e w' => e = .returned (.bool (changesF (.arith key by_ down q) told)) ∧ Below w.heap.size w w' := by
  have hd : told.data.toList.headD 0 = told[0]'h := by
    show _ = told.data[0]'h
    rw [← Array.getElem_toList]
    have hlen : 0 < told.data.toList.length := by rw [Array.length_toList]; exact h
    rw [List.headD_eq_head?_getD, List.head?_eq_getElem?, List.getElem?_eq_getElem hlen]
    rfl
  have k1 : decide (48 ≤ told.data.toList.headD 0) = decide ((48 : Int) ≤ ((told[0]'h).toNat : Int)) := by
    rw [hd]; apply decide_eq_decide.2; rw [UInt8.le_iff_toNat_le]; simp; omega
  have k2 : decide (told.data.toList.headD 0 ≤ 57) = decide (((told[0]'h).toNat : Int) ≤ 57) := by
    rw [hd]; apply decide_eq_decide.2; rw [UInt8.le_iff_toNat_le]; simp; omega
  simp only [changesF]
  rw [k1, k2]
  clear k1 k2 hd
  cases h4 : told.toList == [78, 79, 84, 95, 70, 79, 85, 78, 68]
  · simp only [eqs, bNone, h4]
    go_enter Tryd.func59, Tryd.ntmps59
    go_wp2_with fail
    all_goals go_ret
    all_goals
      refine ⟨?_, ?_⟩
      · congr 2
        simp
        try omega
      · repeat (first | with_reducible exact bel_refl _ | with_reducible apply bel_alloc)
  · simp only [eqs, bNone, h4]
    go_enter Tryd.func59, Tryd.ntmps59
    go_wp2_with fail
    go_ret
    refine ⟨rfl, ?_⟩
    repeat (first | with_reducible exact bel_refl _ | with_reducible apply bel_alloc)
end Go.Proofs.YtbhnmaghnnpboaaDoor
/- lossy: tell. -/
namespace Go.Proofs.YtbhnmaghnnpboaaDoor
open Go.RowKit
attribute [local go_sem ↓] Go.wp_at_zero Go.wp_at_succ

def U64 (n : Int) : Prop := 0 ≤ n ∧ n < 18446744073709551616
/-- May a version be told, where told was told? -/
def tellOk (told v : Int) : Bool := !(v == 0 || (told != 0 && told != v))

set_option maxRecDepth 100000 in
set_option maxHeartbeats 2000000 in
theorem tell_no {B : Nat} {w : World} {rb mb g : Nat} {l : M.Mp} {is : List Ch} {losses : Int} {A : Option Addr} {c : Nat} (h : RunSt B w rb mb g l is losses A c) (j : Nat) (hj : j < is.length) (v : Int) (hk : tellOk is[j].told v = false) :
    Calls Tryd.prog 65 #[.pointer (some ⟨rb, 0, none⟩), .int .u64 ((j : Int) + 1), .int .u64 v] w fun e w' => e = .returned (.bool false) ∧ w = w' := by
  obtain ⟨cb, rfl, hB, c1, c2, hf, hs⟩ := h.told_ j hj
  have k1 := cells_at (j := 1) h.hd rfl
  have hz := h.small
  have e1 : IntKind.u64.wrap ((j : Int) + 1 - 1) = (j : Int) := by rw [IntKind.wrap_u64]; omega
  clear hs h c2
  generalize is[j].told = t at c1 hk
  generalize is.length = n at hj k1 hz
  cases hv : v == 0
  · cases ht : t != 0
    · simp [tellOk, hv, ht] at hk
    · cases hu : t != v
      · simp [tellOk, hv, ht, hu] at hk
      · clear hk
        go_enter Tryd.func65, Tryd.ntmps65
        go_wp2_with fail
        go_ret
        exact ⟨rfl, rfl⟩
  · clear hk
    go_enter Tryd.func65, Tryd.ntmps65
    go_wp2_with fail
    go_ret
    exact ⟨rfl, rfl⟩

set_option maxRecDepth 100000 in
set_option maxHeartbeats 2000000 in
theorem tell_yes {B : Nat} {w : World} {rb mb g : Nat} {l : M.Mp} {is : List Ch} {losses : Int} {A : Option Addr} {c : Nat} (h : RunSt B w rb mb g l is losses A c) (j : Nat) (hj : j < is.length) (v : Int) (hk : tellOk is[j].told v = true) :
    Calls Tryd.prog 65 #[.pointer (some ⟨rb, 0, none⟩), .int .u64 ((j : Int) + 1), .int .u64 v] w fun e w' => e = .returned (.bool true) ∧ RunSt B w' rb mb g l (is.set j { is[j] with told := v }) losses A c ∧ Below B w w' := by
  obtain ⟨cb, rfl, hB, c1, c2, hf, hs⟩ := h.told_ j hj
  have k1 := cells_at (j := 1) h.hd rfl
  have hz := h.small
  have e1 : IntKind.u64.wrap ((j : Int) + 1 - 1) = (j : Int) := by rw [IntKind.wrap_u64]; omega
  have HS := Lib.hid (hs v)
  clear hs h c2
  generalize is.set j { is[j] with told := v } = is' at HS ⊢
  generalize is[j].told = t at c1 hk
  generalize is.length = n at hj k1 hz
  cases hv : v == 0
  · cases ht : t != 0
    · clear hk
      go_enter Tryd.func65, Tryd.ntmps65
      go_wp2_with fail
      go_ret
      exact ⟨rfl, HS.out, Below.setCell (Below.refl _ _) (by exact hB) _⟩
    · cases hu : t != v
      · clear hk
        go_enter Tryd.func65, Tryd.ntmps65
        go_wp2_with fail
        go_ret
        exact ⟨rfl, HS.out, Below.setCell (Below.refl _ _) (by exact hB) _⟩
      · simp [tellOk, hv, ht, hu] at hk
  · simp [tellOk, hv] at hk
end Go.Proofs.YtbhnmaghnnpboaaDoor
/- lossy: fit. -/
namespace Go.Proofs.YtbhnmaghnnpboaaDoor
open Go.RowKit
attribute [local go_sem ↓] Go.wp_at_zero Go.wp_at_succ

/-- The first version from v on that is not told not to be. -/
def skipF (v : Int) (nots : List Int) : Option Int :=
  if nots.contains v then (if v < 18446744073709551615 then skipF (v + 1) nots else none) else some v
termination_by (18446744073709551615 - v).toNat

/-- Do some versions fit? -/
def fitF : Int → List (Int × List Int) → Bool
  | _, [] => true
  | last, c :: r =>
    if last = 18446744073709551615 then false
    else if c.1 ≠ 0 then (if c.1 < last + 1 then false else if c.2.contains c.1 then false else fitF c.1 r)
    else match skipF (last + 1) c.2 with
      | none => false
      | some v => fitF v r

theorem fit_cons (last t : Int) (ns : List Int) (r : List (Int × List Int)) : fitF last ((t, ns) :: r) =
    if last = 18446744073709551615 then false
    else if t ≠ 0 then (if t < last + 1 then false else if ns.contains t then false else fitF t r)
    else match skipF (last + 1) ns with
      | none => false
      | some v => fitF v r := by rw [fitF]
theorem skip_range {v u : Int} {nots : List Int} (h : skipF v nots = some u) (hv : v < 18446744073709551616) : v ≤ u ∧ u < 18446744073709551616 := by
  induction v using skipF.induct (nots := nots) with
  | case1 v hc hlt ih =>
    unfold skipF at h
    rw [if_pos hc, if_pos hlt] at h
    have := ih h (by omega)
    omega
  | case2 v hc hlt => unfold skipF at h; rw [if_pos hc, if_neg hlt] at h; cases h
  | case3 v hc => unfold skipF at h; rw [if_neg hc] at h; injection h with h; omega

theorem rdu_of_owns {w : World} {B : Nat} {A : Option Addr} {c : Nat} {zs : List Int} (h : w.ownsRow B 27 1 (.slice A zs.length c) zs.length (zs.map (Value.int .u64))) (hs : zs.length ≤ 1000000) : RdU w w.heap.size A zs.length zs := by
  refine ⟨rfl, by omega, fun hn => ?_⟩
  rcases h.2 with ⟨_, hz⟩ | ⟨g, cap, cur, he, _, hg, _, _, _, ht⟩
  · omega
  · injection he with h1 h2 h3
    refine ⟨g, 0, h1, (Array.getElem?_eq_some_iff.1 hg).1, fun j hj => ?_⟩
    rw [Nat.zero_add]
    refine cells_at hg ?_
    rw [← Array.getElem?_toList]
    refine take_at ht ?_
    simp [List.getD, List.getElem?_eq_getElem hj]

structure IsOk (is : List Ch) : Prop where
  told : ∀ x ∈ is, U64 x.told

set_option maxRecDepth 100000 in
set_option maxHeartbeats 4000000 in
theorem fit_any {B : Nat} {w : World} {rb mb g : Nat} {l : M.Mp} {is : List Ch} {losses : Int} {A : Option Addr} {c : Nat} (h : RunSt B w rb mb g l is losses A c) (hok : IsOk is) :
    Calls Tryd.prog 37 #[.pointer (some ⟨rb, 0, none⟩)] w fun e w' => e = .returned (.bool (fitF 0 (is.map Ch.sees))) ∧ Below w.heap.size w w' := by
  have k1 := cells_at (j := 1) h.hd rfl
  have hz := h.small
  have H := Lib.hid h
  have HO := Lib.hid hok.told
  generalize hr : fitF 0 (is.map Ch.sees) = r
  have HR := Lib.hid hr
  have h0 : 0 ≤ is.length := Nat.zero_le _
  generalize hn : is.length = n at k1 hz h0
  have HNN := Lib.hid hn
  clear h hok hr hn
  go_enter Tryd.func37, Tryd.ntmps37
  go_wp2_with fail
  go_loopw [3, 5, 6, 12] (fun a _ _ i wr => ∃ k : Nat, ∃ last : Int, k ≤ n ∧ a = .int .u64 last ∧ i = .int .i64 k ∧ U64 last ∧ fitF last ((is.drop k).map Ch.sees) = r ∧ Below w.heap.size w wr)
    (fun _ _ _ i _ => n - (intOf i).toNat)
  case atStart => exact ⟨0, 0, Nat.zero_le _, rfl, rfl, ⟨by decide, by decide⟩, HR.out, bel_refl _⟩
  case round =>
    obtain ⟨k, last, hk, rfl, rfl, hu, hf, hb⟩ := hrel
    by_cases hlt : k < n
    · have h1 := H.out.below hb
      have hk' : k < is.length := by have := HNN.out; omega
      obtain ⟨cb, hA, hB, c1, c2, hf1, hjunk⟩ := h1.told_ k hk'
      clear hjunk
      subst hA
      have hd : is.drop k = is[k] :: is.drop (k + 1) := List.drop_eq_getElem_cons hk'
      rw [hd] at hf
      rw [List.map_cons, show Ch.sees is[k] = (is[k].told, is[k].nots) from rfl, fit_cons] at hf
      obtain ⟨hx1, hx2⟩ := HO.out is[k] (List.getElem_mem hk')
      have hru : ∀ W, Below wr.heap.size wr W → RdU W W.heap.size is[k].A is[k].nots.length is[k].nots := fun W hW => rdu_of_owns ((h1.below hW).nots _ (List.getElem_mem hk')) (h1.smalln _ (List.getElem_mem hk'))
      have HRU := Lib.hid hru
      clear hru
      have c3 : wr.cell? ⟨rb, 1, none⟩ = some (.slice (some ⟨cb, 0, none⟩) n c) := by rw [← HNN.out]; exact cells_at h1.hd rfl
      obtain ⟨hu1, hu2⟩ := hu
      clear hd h1 k1
      simp only [Ch.nv] at c2
      generalize is[k] = x at *
      generalize hz1 : (is.drop (k + 1)).map Ch.sees = rest at hf
      have HZ := Lib.hid hz1
      clear hz1
      by_cases hm : last = 18446744073709551615
      · rw [if_pos hm] at hf
        have t1 : (last == 18446744073709551615) = true := by simp [hm]
        have HF := Lib.hid hf
        clear hf
        go_wp2_with fail
        go_ret
        exact ⟨by rw [← HF.out]; rfl, bel_alloc hb _⟩
      · rw [if_neg hm] at hf
        have t1 : (last == 18446744073709551615) = false := by simp [hm]
        by_cases ht : x.told = 0
        · rw [if_neg (by simp [ht])] at hf
          rw [ht] at c1
          clear ht hx1 hx2
          have HF := Lib.hid hf
          clear hf
          have hW0 : Below wr.heap.size wr (wr.alloc (.cells #[.int .u64 0, .slice x.A x.nots.length x.c] 134)) := bel_alloc (bel_refl _) _
          go_wp2_with fail
          go_loopw [6] (fun v wr2 => ∃ u : Int, v = .int .u64 u ∧ wr2 = wr.alloc (.cells #[.int .u64 0, .slice x.A x.nots.length x.c] 134) ∧ U64 u ∧ skipF (last + 1) x.nots = skipF u x.nots) (fun v _ => (18446744073709551616 - intOf v).toNat)
          case atStart => exact ⟨last + 1, rfl, rfl, ⟨by omega, by omega⟩, rfl⟩
          case round =>
            obtain ⟨u, rfl, rfl, ⟨hv1, hv2⟩, hs⟩ := hrel
            have hcc := containsu_any x.A x.nots.length x.c x.nots u _ (HRU.out _ hW0)
            cases hc : x.nots.contains u
            · rw [hc] at hcc
              have HC := Lib.hid hcc
              have e1 : skipF (last + 1) x.nots = some u := by rw [hs]; unfold skipF; rw [hc]; rfl
              have HF2 := HF.out
              rw [e1] at HF2
              have HF3 := Lib.hid HF2
              clear hcc hs HF2 e1
              go_wp2_with (go_at_call 60; refine HC.out.mono ?_; rintro e w2 ⟨rfl, rfl⟩)
              go_roundw
              case rel => exact ⟨k + 1, u, by omega, rfl, by go_num, ⟨hv1, hv2⟩, by rw [← HF3.out, ← HZ.out], hb.trans (hW0.mono hb.size)⟩
              case measure => simp [intOf]; omega
            · rw [hc] at hcc
              have HC := Lib.hid hcc
              by_cases hm2 : u = 18446744073709551615
              · have t5 : (u == 18446744073709551615) = true := by simp [hm2]
                have e1 : skipF (last + 1) x.nots = none := by rw [hs]; unfold skipF; rw [hc, if_pos rfl, if_neg (by omega)]
                have HF2 := HF.out
                rw [e1] at HF2
                have HF3 := Lib.hid HF2
                clear hcc hs HF2 e1 hm2
                go_wp2_with (go_at_call 60; refine HC.out.mono ?_; rintro e w2 ⟨rfl, rfl⟩)
                go_ret
                exact ⟨by rw [← HF3.out]; rfl, hb.trans (hW0.mono hb.size)⟩
              · have t5 : (u == 18446744073709551615) = false := by simp [hm2]
                have e1 : skipF u x.nots = skipF (u + 1) x.nots := by rw [skipF, hc, if_pos rfl, if_pos (by omega)]
                have HS := Lib.hid (hs.trans e1)
                clear hcc hs e1
                go_wp2_with (go_at_call 60; refine HC.out.mono ?_; rintro e w2 ⟨rfl, rfl⟩)
                go_roundw
                case rel => exact ⟨u + 1, by go_num, by first | rfl | trivial, ⟨by omega, by omega⟩, HS.out⟩
                case measure => simp [intOf]; omega
        · have t2 : (x.told == 0) = false := by simp [ht]
          have t3 : (x.told != 0) = true := by simp [ht]
          rw [if_pos ht] at hf
          have HF := Lib.hid hf
          clear hf
          have hW0 : Below wr.heap.size wr (wr.alloc (.cells #[.int .u64 x.told, .slice x.A x.nots.length x.c] 134)) := bel_alloc (bel_refl _) _
          have hcc := containsu_any x.A x.nots.length x.c x.nots x.told _ (HRU.out _ hW0)
          by_cases hl : x.told < last + 1
          · have t4 : decide (x.told < last + 1) = true := decide_eq_true hl
            have HF2 := HF.out
            rw [if_pos hl] at HF2
            have HF3 := Lib.hid HF2
            clear hcc HF2
            go_wp2_with fail
            go_ret
            exact ⟨by rw [← HF3.out]; rfl, hb.trans (hW0.mono hb.size)⟩
          · have t4 : decide (x.told < last + 1) = false := decide_eq_false hl
            have HF2 := HF.out
            rw [if_neg hl] at HF2
            cases hc : x.nots.contains x.told
            · rw [hc] at hcc HF2
              have HC := Lib.hid hcc
              have HF3 := Lib.hid HF2
              clear hcc HF2
              go_wp2_with (go_at_call 60; refine HC.out.mono ?_; rintro e w2 ⟨rfl, rfl⟩)
              go_loopw [6] (fun v wr2 => v = .int .u64 x.told ∧ wr2 = wr.alloc (.cells #[.int .u64 x.told, .slice x.A x.nots.length x.c] 134)) (fun v _ => 0)
              case atStart => exact ⟨rfl, rfl⟩
              case round =>
                obtain ⟨rfl, rfl⟩ := hrel
                go_wp2_with fail
                go_roundw
                case rel => exact ⟨k + 1, x.told, by omega, rfl, by go_num, ⟨hx1, hx2⟩, by rw [← HF3.out, ← HZ.out]; rfl, hb.trans (hW0.mono hb.size)⟩
                case measure => simp [intOf]; omega
            · rw [hc] at hcc HF2
              have HC := Lib.hid hcc
              have HF3 := Lib.hid HF2
              clear hcc HF2
              go_wp2_with (go_at_call 60; refine HC.out.mono ?_; rintro e w2 ⟨rfl, rfl⟩)
              go_ret
              exact ⟨by rw [← HF3.out]; rfl, hb.trans (hW0.mono hb.size)⟩
    · have hd : is.drop k = [] := List.drop_eq_nil_of_le (by have := HNN.out; omega)
      rw [hd] at hf
      have HF := Lib.hid hf
      clear hf hd
      go_wp2_with fail
      go_ret
      exact ⟨by rw [← HF.out]; rfl, hb⟩
end Go.Proofs.YtbhnmaghnnpboaaDoor
/- lossy: two answers compared. -/
namespace Go.Proofs.YtbhnmaghnnpboaaDoor
open Go.RowKit
theorem tl_inj (a b : ByteArray) : (a.toList = b.toList) = (a = b) := by
  apply propext
  constructor
  · intro he
    have h1 : a.data.toList = b.data.toList := by rw [← ByteArray.toList_eq, ← ByteArray.toList_eq]; exact he
    cases a; cases b; congr 1; exact Array.toList_inj.1 h1
  · intro h; rw [h]
def eqA (a1 : Bool) (a2 a3 a4 : ByteArray) (a5 a6 : Int) (a7 b1 : Bool) (b2 b3 b4 : ByteArray) (b5 b6 : Int) (b7 : Bool) : Bool :=
  decide ((⟨a1, a2, a3, a4, a5, a6, a7⟩ : M.Ans) = ⟨b1, b2, b3, b4, b5, b6, b7⟩)
theorem run_eq46 (a1 : Bool) (a2 a3 a4 : ByteArray) (a5 a6 : Int) (a7 b1 : Bool) (b2 b3 b4 : ByteArray) (b5 b6 : Int) (b7 : Bool) (w : World) : (binOp .eql 46 (.agg #[.bool a1, .string a2, .string a3, .string a4, .int .u32 a5, .int .u64 a6, .bool a7]) (.agg #[.bool b1, .string b2, .string b3, .string b4, .int .u32 b5, .int .u64 b6, .bool b7])).run Tryd.prog w = .ok (.bool (eqA a1 a2 a3 a4 a5 a6 a7 b1 b2 b3 b4 b5 b6 b7)) w := by
  simp [go_sem, tl_inj]
  unfold eqA
  by_cases h1 : a1 = b1 <;> by_cases h2 : a2 = b2 <;> by_cases h3 : a3 = b3 <;> by_cases h4 : a4 = b4 <;> by_cases h5 : a5 = b5 <;> by_cases h6 : a6 = b6 <;> by_cases h7 : a7 = b7 <;> simp [h1, h2, h3, h4, h5, h6, h7]
end Go.Proofs.YtbhnmaghnnpboaaDoor
/- lossy: a further change, as append runs it; a version that is not, too. -/
namespace Go.Proofs.YtbhnmaghnnpboaaDoor
open Go.RowKit

theorem info134 : (Tryd.prog.info? 134).map (fun i => (i.zero, i.size, i.bytes)) = some (some (.agg #[.int .u64 0, .slice none 0 0]), 2, 32) := by kernel_rfl
theorem info27 : (Tryd.prog.info? 27).map (fun i => (i.zero, i.size, i.bytes)) = some (some (.int .u64 0), 1, 8) := by kernel_rfl

theorem RunSt.push_run {B : Nat} {w : World} {rb mb g : Nat} {l : M.Mp} {is : List Ch} {losses : Int} {A : Option Addr} {c : Nat} (h : RunSt B w rb mb g l is losses A c) (hs : is.length < 1000000) :
    ∃ A' c' w2, (Builtin.append_ #[57, 57] 57 #[.slice A is.length c, .slice (some ⟨w.heap.size, 0, none⟩) 1 1]).run Tryd.prog (w.alloc (.cells #[.int .u64 0, .slice none 0 0] 134)) = .ok (.slice A' (is.length + 1) c') w2 ∧
      (w.alloc (.cells #[.int .u64 0, .slice none 0 0] 134)).grownBy w2 (Value.slice A is.length c).ownBlock ∧ w2.cell? ⟨rb, 1, none⟩ = some (.slice A is.length c) ∧ w2.frozen? ⟨rb, 1, none⟩ = false ∧
      RunSt B (w2.setCell ⟨rb, 1, none⟩ (.slice A' (is.length + 1) c')) rb mb g l (is ++ [⟨0, [], none, 0⟩]) losses A' c' := by
  obtain ⟨i, hi, hh⟩ := Option.map_eq_some_iff.1 info134
  simp only [Prod.mk.injEq] at hh
  obtain ⟨hz, hsz, hby⟩ := hh
  have h1 := h.below (bel_alloc (bel_refl w) (.cells #[.int .u64 0, .slice none 0 0] 134))
  obtain ⟨v', w2, hr, ho, hg, hnil⟩ := run_append_own (P := Tryd.prog) (w.alloc (.cells #[.int .u64 0, .slice none 0 0] 134)) B 57 57 134 i _ 2 32 Tryd.underlying57 hi hz hsz hby rfl (by decide) _ is.length (chCells is) h1.row ⟨w.heap.size, 0, none⟩ 1 1 [.int .u64 0, .slice none 0 0] rfl
    (fun j u hj => by
      have : (⟨w.heap.size, 0, none⟩ : Addr).add j = ⟨w.heap.size, j, none⟩ := by unfold Addr.add; split <;> simp_all
      rw [this, World.cell?_alloc_new]
      match j, hj with
      | 0, hj => exact hj
      | 1, hj => exact hj
      | n + 2, hj => simp at hj)
    (fun u hu => by
      simp only [List.mem_cons, List.not_mem_nil, or_false] at hu
      rcases hu with rfl | rfl <;> rfl)
    (by simp only [maxLen]; omega) (by omega) (by have := h.lo.1; have := (Array.getElem?_eq_some_iff.1 h1.hd).1; omega)
  obtain ⟨A', c', rfl⟩ : ∃ A' c', v' = .slice A' (is.length + 1) c' := by
    rcases ho.2 with ⟨_, hz⟩ | ⟨g', cap, cur, he, _⟩
    · omega
    · exact ⟨_, _, he⟩
  obtain ⟨k1, k2, k3⟩ := h1.push_ hg ho hs
  exact ⟨A', c', w2, hr, hg, k1, k2, k3⟩

theorem add_off (b j : Nat) : (⟨b, 0, none⟩ : Addr).add j = ⟨b, j, none⟩ := by unfold Addr.add; split <;> simp_all

/-- append at a row that the call owns: where the new row lies. -/
theorem append_fresh {w : World} {B : Nat} {A : Option Addr} {n c : Nat} {xs : List Value} (ho : w.ownsRow B 27 1 (.slice A n c) n xs) (a : Nat) (u : Value) (hu : w.cell? ⟨a, 0, none⟩ = some u) (h1 : u.oneCell' = true) (hn : n < 1000000) {v' : Value} {w2 : World}
    (hr : (Builtin.append_ #[132, 132] 132 #[.slice A n c, .slice (some ⟨a, 0, none⟩) 1 1]).run Tryd.prog w = .ok v' w2) : ∀ k, v'.ownBlock = some k → (Value.slice A n c).ownBlock = some k ∨ w.heap.size ≤ k := by
  obtain ⟨i, hi, hh⟩ := Option.map_eq_some_iff.1 info27
  simp only [Prod.mk.injEq] at hh
  obtain ⟨hz, hsz, hby⟩ := hh
  have hnew : ∀ j z, [u][j]? = some z → w.cell? ((⟨a, 0, none⟩ : Addr).add j) = some z := fun j z hj => by
    rw [add_off]
    match j, hj with
    | 0, hj => rw [hu]; exact hj
    | m + 1, hj => simp at hj
  rcases ho.2 with ⟨he, hz0⟩ | ⟨g, cap, cur, he, hB, hg, hnc, hcm, hcs, ht⟩
  · rw [he] at hr ⊢
    have hrun := run_append_nil (P := Tryd.prog) w 132 132 27 i _ Tryd.underlying132 hi hz ⟨a, 0, none⟩ 1 1 [u] (by rw [hsz]; rfl) hnew (by decide) (by decide) (by rw [hby]; decide)
    rw [hrun] at hr
    injection hr with hr
    subst hr
    intro k hk
    simp only [Value.ownBlock, Option.some.injEq] at hk
    exact .inr (by omega)
  · rw [he] at hr ⊢
    by_cases hroom : n + 1 ≤ cap
    · have hrun := run_append_room (P := Tryd.prog) w 132 132 27 i Tryd.underlying132 hi g n cap cur hg ⟨a, 0, none⟩ 1 1 [u] (by rw [hsz]; rfl) hnew (by simpa using h1) hroom (by rw [hsz, hcs]; simp; omega)
      rw [hrun] at hr
      injection hr with hr
      subst hr
      exact fun k hk => .inl hk
    · have hold : ∀ j z, xs[j]? = some z → w.cell? ((⟨g, 0, none⟩ : Addr).add j) = some z := by rw [he] at ho; exact ho.cells (g := g) rfl
      have hrun := run_append_grow (P := Tryd.prog) w 132 132 27 i _ Tryd.underlying132 hi hz ⟨g, 0, none⟩ n cap xs (by rw [hsz]; exact ho.1) hold ⟨a, 0, none⟩ 1 1 [u] (by rw [hsz]; rfl) hnew (by omega) (by omega) (growslice_fits (by omega) (by rw [hby]; omega))
      rw [hrun] at hr
      injection hr with hr
      subst hr
      intro k hk
      simp only [Value.ownBlock, Option.some.injEq] at hk
      exact .inr (by omega)

theorem RunSt.not_run {B : Nat} {w : World} {rb mb g : Nat} {l : M.Mp} {is : List Ch} {losses : Int} {A : Option Addr} {c : Nat} (h : RunSt B w rb mb g l is losses A c) (j : Nat) (hj : j < is.length) (v : Int) (hs : is[j].nots.length < 1000000) :
    ∃ A' c' w2 cb, (Builtin.append_ #[132, 132] 132 #[is[j].nv, .slice (some ⟨w.heap.size, 0, none⟩) 1 1]).run Tryd.prog (w.alloc (.cells #[.int .u64 v] 27)) = .ok (.slice A' (is[j].nots.length + 1) c') w2 ∧
      (w.alloc (.cells #[.int .u64 v] 27)).grownBy w2 is[j].nv.ownBlock ∧ A = some ⟨cb, 0, none⟩ ∧ w2.cell? ⟨cb, j * 2 + 1, none⟩ = some is[j].nv ∧ (∀ o, w2.frozen? ⟨cb, o, none⟩ = false) ∧
      RunSt B (w2.setCell ⟨cb, j * 2 + 1, none⟩ (.slice A' (is[j].nots.length + 1) c')) rb mb g l (is.set j ⟨is[j].told, is[j].nots ++ [v], A', c'⟩) losses A c ∧ B ≤ cb := by
  obtain ⟨i, hi, hh⟩ := Option.map_eq_some_iff.1 info27
  simp only [Prod.mk.injEq] at hh
  obtain ⟨hz, hsz, hby⟩ := hh
  have h1 := h.below (bel_alloc (bel_refl w) (.cells #[.int .u64 v] 27))
  have ho1 := h1.nots _ (List.getElem_mem hj)
  have hu : (w.alloc (.cells #[.int .u64 v] 27)).cell? ⟨w.heap.size, 0, none⟩ = some (.int .u64 v) := World.cell?_alloc_new _ _ _ _
  obtain ⟨v', w2, hr, ho, hg, hnil⟩ := run_append_own (P := Tryd.prog) (w.alloc (.cells #[.int .u64 v] 27)) B 132 132 27 i _ 1 8 Tryd.underlying132 hi hz hsz hby rfl (by decide) _ is[j].nots.length _ ho1 ⟨w.heap.size, 0, none⟩ 1 1 [.int .u64 v] rfl
    (fun k u hk => by
      rw [add_off]
      match k, hk with
      | 0, hk => rw [hu]; exact hk
      | n + 1, hk => simp at hk)
    (fun u hu => by
      simp only [List.mem_cons, List.not_mem_nil, or_false] at hu
      rcases hu with rfl; rfl)
    (by simp only [maxLen]; omega) (by omega) (by have := h.lo.1; have := (Array.getElem?_eq_some_iff.1 h1.hd).1; omega)
  have hf := append_fresh ho1 w.heap.size _ hu rfl hs hr
  obtain ⟨A', c', rfl⟩ : ∃ A' c', v' = .slice A' (is[j].nots.length + 1) c' := by
    rcases ho.2 with ⟨_, hz⟩ | ⟨g', cap, cur, he, _⟩
    · omega
    · exact ⟨_, _, he⟩
  obtain ⟨cb, k1, k2, k3, k4, k5⟩ := h1.not_ j hj hg ho hf hs
  exact ⟨A', c', w2, cb, hr, hg, k1, k3, k4, k5, k2⟩

/-- What else stands behind a further change. -/
theorem RunSt.push_keep {B : Nat} {w w2 : World} {rb mb g : Nat} {l : M.Mp} {is : List Ch} {losses : Int} {A : Option Addr} {c : Nat} {o : Obj} (h : RunSt B w rb mb g l is losses A c) (hg : (w.alloc o).grownBy w2 (Value.slice A is.length c).ownBlock) (v : Value) :
    (∀ k ob, w.heap[k]? = some ob → (∀ cur : Array Value, ob ≠ Obj.cells cur 134 (0, 0)) → k ≠ rb → (w2.setCell ⟨rb, 1, none⟩ v).heap[k]? = some ob) ∧ Below B w (w2.setCell ⟨rb, 1, none⟩ v) ∧ w.heap.size ≤ (w2.setCell ⟨rb, 1, none⟩ v).heap.size := by
  have hsz : w.heap.size ≤ w2.heap.size := by have := hg.size; simp at this; omega
  have hsz2 : (w2.setCell ⟨rb, 1, none⟩ v).heap.size = w2.heap.size := by simp [World.setCell]
  have hrb : rb < w.heap.size := (Array.getElem?_eq_some_iff.1 h.hd).1
  refine ⟨fun k ob hk hne hkr => ?_, ?_, by omega⟩
  · have hlt : k < w.heap.size := (Array.getElem?_eq_some_iff.1 hk).1
    rw [Below.heap_setCell _ _ _ _ (by exact hkr), hg.block k (by simp; omega) (fun e => by
      rcases owns_ne (_e' := 134) h.row hk hne with hz | hz
      · rw [hz] at e; cases e
      · exact hz e.symm), heap_alloc_old w o hlt]
    exact hk
  · refine Below.setCell ?_ (by exact h.lo.1) _
    refine ⟨hg.os, hg.tape, hg.output, hsz, fun k hk => ?_⟩
    have := h.lo.1
    rw [hg.block k (by simp; omega) (fun e => by
      have := h.row.lt k e.symm
      omega)]
    exact heap_alloc_old w o (by omega)

/-- append by an equation. -/
theorem wpList_append_eq {P : Program} {w : World} {ops : Array Oper} {rest : List Oper} {o : Oper} {a : Act} {Q : Exit → Act → World → Prop} (hgd : o.guard = none) (s x : Operand) (t : TypeId)
    (ho : o.op = .call { callee := .builtin .append, args := #[s, x], argTypes := #[t, t] }) (v u : Value) (hs : a.eval s = v) (hx : a.eval x = u) (ty : TypeId) (hty : o.type = ty) (v' : Value) (w' : World) (hr : (Builtin.append_ #[t, t] ty #[v, u]).run P w = .ok v' w')
    (h : wpList P ops Q rest (a.put o.dst v') w') : wpList P ops Q (o :: rest) a w :=
  wpList_plain hgd fun _ hK => by
    subst hty
    unfold Oper.wp execOp
    simp only [ho, resolve, invoke, builtin, Sem.run_bind, Sem.run_pure, Result.andThen_ok, List.map_toArray, List.map_cons, List.map_nil, hs, hx, hr]
    exact hK _ _ h
end Go.Proofs.YtbhnmaghnnpboaaDoor
/- lossy: get's plain function; tell with what it keeps. -/
namespace Go.Proofs.YtbhnmaghnnpboaaDoor
open Go.RowKit
attribute [local go_sem ↓] Go.wp_at_zero Go.wp_at_succ

def isEnd (a : M.Ans) : Bool := decide (M.plain a = M.line M.tEND)
/-- The answers without an END behind them. -/
def stripF (ans : List M.Ans) : List M.Ans := match ans.getLast? with | none => [] | some a => if isEnd a then ans.dropLast else ans

theorem plain_lit (a : M.Ans) (w : World) :
    Calls Tryd.prog 64 #[.agg #[.bool a.v, .string a.key, .string a.data, .string a.text, .int .u32 a.flags, .int .u64 a.cas, .bool a.withCas]] w
      fun r w' => r = .returned (.agg #[.bool (M.plain a).v, .string (M.plain a).key, .string (M.plain a).data, .string (M.plain a).text, .int .u32 (M.plain a).flags, .int .u64 (M.plain a).cas, .bool (M.plain a).withCas]) ∧ Below w.heap.size w w' := plain_any a w

theorem strip_nil : stripF [] = [] := rfl
theorem strip_end (ini : List M.Ans) (a : M.Ans) (h : isEnd a = true) : stripF (ini ++ [a]) = ini := by
  unfold stripF; rw [List.getLast?_concat]; simp [h]
theorem strip_not (ini : List M.Ans) (a : M.Ans) (h : isEnd a = false) : stripF (ini ++ [a]) = ini ++ [a] := by
  unfold stripF; rw [List.getLast?_concat]; simp [h]
theorem RdA.take {w : World} {B : Nat} {A : Option Addr} {n : Nat} {ini : List M.Ans} {a : M.Ans} (h : RdA w B A (n + 1) (ini ++ [a])) : RdA w B A n ini := by
  have hl : ini.length = n := by have := h.1; simp at this; exact this
  refine ⟨hl, fun hn => ?_⟩
  obtain ⟨b, off, hA, hlt, hc⟩ := h.2 (by omega)
  refine ⟨b, off, hA, hlt, fun j hj k hk => ?_⟩
  rw [hc j (by omega) k hk]
  congr 2
  simp only [List.getD]
  rw [List.getElem?_append_left (by omega)]

/-- A run, plainly: the map, what is told of each change, the losses. -/
structure RS where
  l : M.Mp
  chs : List (Int × List Int)
  losses : Int
def loseF (s : RS) (key : ByteArray) (now : Int) : RS := match M.mget s.l key now with
  | none => s
  | some _ => { s with l := M.mdel s.l key, losses := s.losses + 1 }
/-- What a step leaves. -/
def Stepped (B : Nat) (w : World) (rb mb g : Nat) (r : Bool × RS) (e : Ending) (w' : World) : Prop :=
  e = .returned (.bool r.1) ∧ Below B w w' ∧ (r.1 = true → ∃ is A c, RunSt B w' rb mb g r.2.l is r.2.losses A c ∧ is.map Ch.sees = r.2.chs)

def lastEnd (l : List M.Ans) : Bool := match l.getLast? with | none => false | some a => isEnd a
theorem lastEnd_app (ini : List M.Ans) (a : M.Ans) : lastEnd (ini ++ [a]) = isEnd a := by unfold lastEnd; rw [List.getLast?_concat]
/-- May a change's version be told? -/
def tellAt (chs : List (Int × List Int)) (n v : Int) : Bool := tellOk ((chs.getD (n - 1).toNat (0, [])).1) v
def setTold (chs : List (Int × List Int)) (n v : Int) : List (Int × List Int) := chs.set (n - 1).toNat (v, (chs.getD (n - 1).toNat (0, [])).2)
/-- The end of a get's step, where the key is there. -/
def getOwn (own : M.Ans) (s1 : RS) (cas : Bool) (a : M.Ans) : Bool × RS :=
  if cas then
    if tellAt s1.chs own.cas a.cas then (decide ({ own with cas := a.cas } = M.plain a), { s1 with chs := setTold s1.chs own.cas a.cas })
    else (false, s1)
  else (decide (own = M.plain a), s1)
def getF (s : RS) (cas touch : Bool) (exp : Int) (key : ByteArray) (ans : List M.Ans) (now : Int) : Bool × RS :=
  match stripF ans with
  | [] => (true, loseF s key now)
  | [a] =>
    if a.v then
      match M.mget s.l key now with
      | none => (false, s)
      | some y => getOwn (oneAns key cas (touchF touch exp now (s.chs.length + 1) y)) ⟨if touch then M.mset s.l key (touchF touch exp now (s.chs.length + 1) y) else s.l, if touch then s.chs ++ [(0, [])] else s.chs, s.losses⟩ cas a
    else (false, s)
  | _ => (false, s)
/-- Versions are numbers of changes. -/
def VerOk (l : M.Mp) (n : Nat) : Prop := ∀ p ∈ l, 1 ≤ p.2.ver ∧ p.2.ver ≤ n

theorem VerOk.at_ {l : M.Mp} {n : Nat} (h : VerOk l n) {k : ByteArray} {now : Int} {y : M.Item} (hx : M.mget l k now = some y) : ∃ j : Nat, y.ver = (j : Int) + 1 ∧ j < n := by
  obtain ⟨p, hp, _, he⟩ := look_mem l k y (mget_look hx)
  have := h p hp
  rw [he] at this
  exact ⟨(y.ver - 1).toNat, by omega, by omega⟩

theorem tellAt_sees (is : List Ch) (j : Nat) (hj : j < is.length) (v : Int) : tellAt (is.map Ch.sees) ((j : Int) + 1) v = tellOk is[j].told v := by
  unfold tellAt
  rw [show ((j : Int) + 1 - 1).toNat = j by omega]
  simp [List.getD, hj, Ch.sees]
theorem setTold_sees (is : List Ch) (j : Nat) (hj : j < is.length) (v : Int) : (is.set j { is[j] with told := v }).map Ch.sees = setTold (is.map Ch.sees) ((j : Int) + 1) v := by
  unfold setTold
  rw [show ((j : Int) + 1 - 1).toNat = j by omega, List.map_set]
  simp [List.getD, hj, Ch.sees]

theorem getF_some {l : M.Mp} {is is2 : List Ch} {losses : Int} {cas touch : Bool} {exp : Int} {key : ByteArray} {ans : List M.Ans} {now : Int} {a : M.Ans} {y : M.Item} {own : M.Ans} {l1 : M.Mp} {r : Bool × RS}
    (hr : getF ⟨l, is.map Ch.sees, losses⟩ cas touch exp key ans now = r) (hst : stripF ans = [a]) (hav : a.v = true) (hx : M.mget l key now = some y)
    (hown : oneAns key cas (touchF touch exp now ((is.length : Int) + 1) y) = own) (hl1 : (if touch = true then M.mset l key (touchF touch exp now ((is.length : Int) + 1) y) else l) = l1)
    (hs : is2.map Ch.sees = if touch then is.map Ch.sees ++ [(0, [])] else is.map Ch.sees) : getOwn own ⟨l1, is2.map Ch.sees, losses⟩ cas a = r := by
  rw [← hr]
  unfold getF
  rw [hst]
  simp only [hav, hx, if_true, List.length_map]
  rw [hown, hs, hl1]

theorem getOwn_no {own : M.Ans} {l1 : M.Mp} {is2 : List Ch} {losses : Int} {a : M.Ans} {r : Bool × RS} (h : getOwn own ⟨l1, is2.map Ch.sees, losses⟩ false a = r) : r = (decide (own = M.plain a), ⟨l1, is2.map Ch.sees, losses⟩) := h.symm
theorem getOwn_bad {own : M.Ans} {l1 : M.Mp} {is2 : List Ch} {losses : Int} {a : M.Ans} {r : Bool × RS} (h : getOwn own ⟨l1, is2.map Ch.sees, losses⟩ true a = r) (j : Nat) (hj : j < is2.length) (hc : own.cas = (j : Int) + 1) (hk : tellOk is2[j].told a.cas = false) : r = (false, ⟨l1, is2.map Ch.sees, losses⟩) := by
  rw [← h]; unfold getOwn; simp only [if_true]; rw [hc, tellAt_sees is2 j hj, hk]; rfl
theorem getOwn_ok {own : M.Ans} {l1 : M.Mp} {is2 : List Ch} {losses : Int} {a : M.Ans} {r : Bool × RS} (h : getOwn own ⟨l1, is2.map Ch.sees, losses⟩ true a = r) (j : Nat) (hj : j < is2.length) (hc : own.cas = (j : Int) + 1) (hk : tellOk is2[j].told a.cas = true) :
    r = (decide ({ own with cas := a.cas } = M.plain a), ⟨l1, (is2.set j { is2[j] with told := a.cas }).map Ch.sees, losses⟩) := by
  rw [← h]; unfold getOwn; simp only [if_true]; rw [hc, tellAt_sees is2 j hj, hk, setTold_sees is2 j hj]; rfl

/-- A told version's store keeps all that is no change. -/
theorem told_keep {w : World} {cb j : Nat} {cur : Array Value} (h : w.heap[cb]? = some (.cells cur 134 (0, 0))) (v : Value) {k : Nat} {ob : Obj} (hk : w.heap[k]? = some ob) (hne : ∀ cur : Array Value, ob ≠ Obj.cells cur 134 (0, 0)) :
    (w.setCell ⟨cb, j, none⟩ v).heap[k]? = some ob := by
  rw [Below.heap_setCell _ _ _ _ (by
    show k ≠ cb
    rintro rfl
    rw [h] at hk
    injection hk with hk
    exact hne _ hk.symm)]
  exact hk

theorem eqA_plain (ov : Bool) (okey odata otext : ByteArray) (oflags : Int) (owc : Bool) (a : M.Ans) (h : (M.plain a).cas = a.cas) :
    eqA ov okey odata otext oflags a.cas owc (M.plain a).v (M.plain a).key (M.plain a).data (M.plain a).text (M.plain a).flags a.cas (M.plain a).withCas = decide ((⟨ov, okey, odata, otext, oflags, a.cas, owc⟩ : M.Ans) = M.plain a) := by
  unfold eqA
  congr 2
  have e : M.plain a = ⟨(M.plain a).v, (M.plain a).key, (M.plain a).data, (M.plain a).text, (M.plain a).flags, (M.plain a).cas, (M.plain a).withCas⟩ := rfl
  rw [e, h]
/-- A store into a block that is none of the run's. -/
theorem RunSt.other {B : Nat} {w : World} {rb mb g : Nat} {l : M.Mp} {is : List Ch} {losses : Int} {A : Option Addr} {c : Nat} (h : RunSt B w rb mb g l is losses A c) {k : Nat} {cur : Array Value} {e : TypeId} (hk : w.heap[k]? = some (.cells cur e (0, 0))) (h1 : e ≠ 59) (h2 : e ≠ 93) (h3 : e ≠ 134) (h4 : e ≠ 27) (j : Nat) (v : Value) :
    RunSt B (w.setCell ⟨k, j, none⟩ v) rb mb g l is losses A c := by
  have hg := gr_put w ⟨k, j, none⟩ v
  obtain ⟨es, clk, hh, hs⟩ := h.map.at_
  have n1 : rb ≠ k := fun e' => by have hd := h.hd; rw [e', hk] at hd; injection hd with hd; injection hd with _ hd; exact h1 hd
  have n2 : mb ≠ k := fun e' => by have hd := h.map.hd; rw [e', hk] at hd; injection hd with hd; injection hd with _ hd; exact h2 hd
  have n3 : g ≠ k := fun e' => by rw [e', hk] at hh; cases hh
  refine ⟨?_, ⟨?_, ⟨es, clk, ?_, hs⟩⟩, h.row.kept hg (owns_ne (_e' := 134) h.row hk (fun _ e' => by injection e' with _ e'; exact h3 e')), fun x hx => (h.nots x hx).kept hg (owns_ne (_e' := 27) (h.nots x hx) hk (fun _ e' => by injection e' with _ e'; exact h4 e')), h.dis, h.lo, h.small, h.smalln⟩
  · rw [Below.heap_setCell _ _ _ _ (by exact n1)]; exact h.hd
  · rw [Below.heap_setCell _ _ _ _ (by exact n2)]; exact h.map.hd
  · rw [Below.heap_setCell _ _ _ _ (by exact n3)]; exact hh

/-- What tell leaves where the version may be told. -/
def ToldTo (B : Nat) (w : World) (rb mb g : Nat) (l : M.Mp) (is : List Ch) (losses : Int) (A : Option Addr) (c : Nat) (e : Ending) (w' : World) : Prop :=
  e = .returned (.bool true) ∧ RunSt B w' rb mb g l is losses A c ∧ Below B w w' ∧ ∀ (k : Nat) (ob : Obj), w.heap[k]? = some ob → (∀ cur : Array Value, ob ≠ Obj.cells cur 134 (0, 0)) → w'.heap[k]? = some ob

set_option maxRecDepth 100000 in
set_option maxHeartbeats 2000000 in
theorem tell_ok {B : Nat} {w : World} {rb mb g : Nat} {l : M.Mp} {is : List Ch} {losses : Int} {A : Option Addr} {c : Nat} (h : RunSt B w rb mb g l is losses A c) (j : Nat) (hj : j < is.length) (v : Int) (hk : tellOk is[j].told v = true) :
    Calls Tryd.prog 65 #[.pointer (some ⟨rb, 0, none⟩), .int .u64 ((j : Int) + 1), .int .u64 v] w (ToldTo B w rb mb g l (is.set j { is[j] with told := v }) losses A c) := by
  obtain ⟨cb, rfl, hB, c1, c2, hf, hs⟩ := h.told_ j hj
  obtain ⟨cb', cur, hA, _, hcb, _⟩ := h.open (by omega)
  obtain rfl : cb = cb' := by injection hA with hA; injection hA
  have k1 := cells_at (j := 1) h.hd rfl
  have hz := h.small
  have e1 : IntKind.u64.wrap ((j : Int) + 1 - 1) = (j : Int) := by rw [IntKind.wrap_u64]; omega
  have HS := Lib.hid (hs v)
  have HCB := Lib.hid hcb
  clear hs h c2 hcb hA
  generalize is.set j { is[j] with told := v } = is' at HS ⊢
  generalize is[j].told = t at c1 hk
  generalize is.length = n at hj k1 hz
  cases hv : v == 0
  · cases ht : t != 0
    · clear hk
      go_enter Tryd.func65, Tryd.ntmps65
      go_wp2_with fail
      go_ret
      exact ⟨rfl, HS.out, Below.setCell (Below.refl _ _) (by exact hB) _, fun k ob => told_keep HCB.out _⟩
    · cases hu : t != v
      · clear hk
        go_enter Tryd.func65, Tryd.ntmps65
        go_wp2_with fail
        go_ret
        exact ⟨rfl, HS.out, Below.setCell (Below.refl _ _) (by exact hB) _, fun k ob => told_keep HCB.out _⟩
      · simp [tellOk, hv, ht, hu] at hk
  · simp [tellOk, hv] at hk
end Go.Proofs.YtbhnmaghnnpboaaDoor

/- The pure side: commands, answers, items, maps and the run of chapter 24, as plain Lean data and functions (no program in sight). -/
import Derived.WalkKit
import Derived.WalkSpells
import Derived.WalkLawsBesides
import Derived.BigQuiet
import Derived.Lib.Hide
namespace Go.Proofs.YtbhnmaghnnpboaaDoor.M

abbrev Str := ByteArray

structure Item where
  key : Str
  val : Str
  flags : Int
  exp : Int
  ver : Int
  deriving Inhabited, DecidableEq

structure Ans where
  v : Bool
  key : Str
  data : Str
  text : Str
  flags : Int
  cas : Int
  withCas : Bool
  deriving Inhabited, DecidableEq

structure Cmd where
  what : Str
  verb : Str
  keys : List Str
  data : Str
  flags : Int
  exp : Int
  cas : Int
  by_ : Int
  withCas : Bool
  withTouch : Bool
  down : Bool
  quiet : Bool
  deriving Inhabited, DecidableEq

structure Stp where
  cmd : Cmd
  key : Str
  answers : List Ans
  now : Int
  deriving Inhabited, DecidableEq

def sGet : Str := ⟨#[103, 101, 116]⟩
def sStore : Str := ⟨#[115, 116, 111, 114, 101]⟩
def sArith : Str := ⟨#[97, 114, 105, 116, 104]⟩
def sTouch : Str := ⟨#[116, 111, 117, 99, 104]⟩
def sDelete : Str := ⟨#[100, 101, 108, 101, 116, 101]⟩
def sFlush : Str := ⟨#[102, 108, 117, 115, 104]⟩
def sBad : Str := ⟨#[98, 97, 100]⟩
def sWord : Str := ⟨#[119, 111, 114, 100]⟩

/-- The first key, or nothing. -/
def first (ks : List Str) : Str := ks.headD ⟨#[]⟩

def line (t : Str) : Ans := ⟨false, ⟨#[]⟩, ⟨#[]⟩, t, 0, 0, false⟩
def plain (a : Ans) : Ans := if a.v then { a with text := ⟨#[]⟩ } else line a.text

def time (e n : Int) : Int :=
  if e < 0 then 1 else if e = 0 ∨ 2592000 < e then e else if 9223372036854775807 - e < n then 9223372036854775807 else max (n + e) 1

/-- What event.Of tells. -/
inductive C where
  | get (keys : List Str) (cas touch : Bool) (exp : Int)
  | store (verb key data : Str) (flags exp cas : Int) (quiet : Bool)
  | arith (key : Str) (by_ : Int) (down quiet : Bool)
  | touch (key : Str) (exp : Int) (quiet : Bool)
  | delete (key : Str) (quiet : Bool)
  | flush (quiet : Bool)
  | bad (text : Str)
  | word (name : Str)
  | none
  deriving Inhabited, DecidableEq

def Cmd.of (c : Cmd) : C :=
  if c.what = sGet then .get c.keys c.withCas c.withTouch c.exp
  else if c.what = sStore then .store c.verb (first c.keys) c.data c.flags c.exp c.cas c.quiet
  else if c.what = sArith then .arith (first c.keys) c.by_ c.down c.quiet
  else if c.what = sTouch then .touch (first c.keys) c.exp c.quiet
  else if c.what = sDelete then .delete (first c.keys) c.quiet
  else if c.what = sFlush then .flush c.quiet
  else if c.what = sBad then .bad c.verb
  else if c.what = sWord then .word c.verb
  else .none

def C.keys : C → List Str
  | .get ks _ _ _ => ks
  | .store _ k _ _ _ _ _ => [k]
  | .arith k _ _ _ => [k]
  | .touch k _ _ => [k]
  | .delete k _ => [k]
  | _ => []

end Go.Proofs.YtbhnmaghnnpboaaDoor.M
/- The pure map: entries in their order, the first of a key counts. -/
namespace Go.Proofs.YtbhnmaghnnpboaaDoor.M

abbrev Mp := List (Str × Item)
def look : Mp → Str → Option Item
  | [], _ => none
  | p :: l, k => if p.1 = k then some p.2 else look l k
def mset : Mp → Str → Item → Mp
  | [], k, x => [(k, x)]
  | p :: l, k, x => if p.1 = k then (k, x) :: l else p :: mset l k x
def mdel : Mp → Str → Mp
  | [], _ => []
  | p :: l, k => if p.1 = k then l else p :: mdel l k
/-- An item that is not dead. -/
def mget (l : Mp) (k : Str) (now : Int) : Option Item :=
  match look l k with
  | none => none
  | some x => if x.exp ≠ 0 ∧ x.exp ≤ now then none else some x
end Go.Proofs.YtbhnmaghnnpboaaDoor.M
/- The pure map's commands. -/
namespace Go.Proofs.YtbhnmaghnnpboaaDoor.M

def tSTORED : Str := ⟨#[83, 84, 79, 82, 69, 68]⟩
def tNS : Str := ⟨#[78, 79, 84, 95, 83, 84, 79, 82, 69, 68]⟩
def tNF : Str := ⟨#[78, 79, 84, 95, 70, 79, 85, 78, 68]⟩
def tEX : Str := ⟨#[69, 88, 73, 83, 84, 83]⟩
def tBIG : Str := ⟨#[83, 69, 82, 86, 69, 82, 95, 69, 82, 82, 79, 82, 32, 111, 98, 106, 101, 99, 116, 32, 116, 111, 111, 32, 108, 97, 114, 103, 101, 32, 102, 111, 114, 32, 99, 97, 99, 104, 101]⟩
def tNN : Str := ⟨#[67, 76, 73, 69, 78, 84, 95, 69, 82, 82, 79, 82, 32, 99, 97, 110, 110, 111, 116, 32, 105, 110, 99, 114, 101, 109, 101, 110, 116, 32, 111, 114, 32, 100, 101, 99, 114, 101, 109, 101, 110, 116, 32, 110, 111, 110, 45, 110, 117, 109, 101, 114, 105, 99, 32, 118, 97, 108, 117, 101]⟩
def tTOUCHED : Str := ⟨#[84, 79, 85, 67, 72, 69, 68]⟩
def tDELETED : Str := ⟨#[68, 69, 76, 69, 84, 69, 68]⟩
def tOK : Str := ⟨#[79, 75]⟩
def tERR : Str := ⟨#[69, 82, 82, 79, 82]⟩
def tVER : Str := ⟨#[86, 69, 82, 83, 73, 79, 78, 32, 99, 101, 108, 108, 97, 114, 101, 116]⟩
def tEND : Str := ⟨#[69, 78, 68]⟩
def vadd : Str := ⟨#[97, 100, 100]⟩
def vappend : Str := ⟨#[97, 112, 112, 101, 110, 100]⟩
def vcas : Str := ⟨#[99, 97, 115]⟩
def vprepend : Str := ⟨#[112, 114, 101, 112, 101, 110, 100]⟩
def vreplace : Str := ⟨#[114, 101, 112, 108, 97, 99, 101]⟩
def vset : Str := ⟨#[115, 101, 116]⟩

/-- A Store of a verb that may be. -/
def store (l : Mp) (verb key data : Str) (flags exp cas now ver : Int) : Str × Mp :=
  match mget l key now with
  | none =>
    if verb = vreplace ∨ verb = vappend ∨ verb = vprepend then (tNS, l)
    else if verb = vcas then (tNF, l)
    else (tSTORED, mset l key ⟨key, data, flags, time exp now, ver⟩)
  | some y =>
    if verb = vadd then (tNS, l)
    else if verb = vappend then (if 1024 < y.val.size + data.size then (tBIG, l) else (tSTORED, mset l key ⟨key, y.val ++ data, y.flags, y.exp, ver⟩))
    else if verb = vprepend then (if 1024 < data.size + y.val.size then (tBIG, l) else (tSTORED, mset l key ⟨key, data ++ y.val, y.flags, y.exp, ver⟩))
    else if verb = vcas ∧ y.ver ≠ cas then (tEX, l)
    else (tSTORED, mset l key ⟨key, data, flags, time exp now, ver⟩)
end Go.Proofs.YtbhnmaghnnpboaaDoor.M
/- Words on memory for the walks: a slice of strings that reads as a list; what keeps it. -/
namespace Go.Proofs.YtbhnmaghnnpboaaDoor
open Go.RowKit

/-- The slice value '.slice A n c' reads as the strings ks; it lies below block B. -/
def RdS (w : World) (B : Nat) (A : Option Addr) (n : Nat) (ks : List ByteArray) : Prop :=
  ks.length = n ∧ n * 16 ≤ 140737488355328 ∧ (0 < n → ∃ b off, A = some ⟨b, off, none⟩ ∧ b < B ∧ ∀ j, j < n → w.cell? ⟨b, off + j, none⟩ = some (.string (ks.getD j ⟨#[]⟩)))

theorem RdS.below {w w' : World} {B B' : Nat} {A : Option Addr} {n : Nat} {ks : List ByteArray} (h : RdS w B A n ks) (hb : Below B' w w') (hB : B ≤ B') : RdS w' B A n ks := by
  refine ⟨h.1, h.2.1, fun hn => ?_⟩
  obtain ⟨b, off, hA, hlt, hc⟩ := h.2.2 hn
  exact ⟨b, off, hA, hlt, fun j hj => (hb.cell (p := ⟨b, off + j, none⟩) (by show b < B'; omega)).trans (hc j hj)⟩
theorem RdS.more {w : World} {B B' : Nat} {A : Option Addr} {n : Nat} {ks : List ByteArray} (h : RdS w B A n ks) (hB : B ≤ B') : RdS w B' A n ks := by
  refine ⟨h.1, h.2.1, fun hn => ?_⟩
  obtain ⟨b, off, hA, hlt, hc⟩ := h.2.2 hn
  exact ⟨b, off, hA, by omega, hc⟩
theorem RdS.own {w : World} {base : Nat} {e : TypeId} {A : Option Addr} {n c : Nat} {ks : List ByteArray} (h : w.ownsRow base e 1 (.slice A n c) n (ks.map Value.string)) (hs : n * 16 ≤ 140737488355328) : RdS w w.heap.size A n ks := by
  have hl : ks.length = n := by have := h.1; simpa using this
  refine ⟨hl, hs, fun hn => ?_⟩
  rcases h.2 with ⟨h0, h1⟩ | ⟨g, cap, cur, hv, hb, hg, hnc, hcm, hcs, htake⟩
  · omega
  · injection hv with hA
    subst hA
    have hlt : g < w.heap.size := (Array.getElem?_eq_some_iff.1 hg).1
    refine ⟨g, 0, rfl, hlt, fun j hj => ?_⟩
    have := h.cells (g := g) rfl j (.string (ks.getD j ⟨#[]⟩)) (by simp [List.getD, List.getElem?_eq_getElem (show j < ks.length by omega)])
    rw [Addr.add_lit] at this
    exact this
theorem RdS.nil (w : World) (B : Nat) (A : Option Addr) : RdS w B A 0 [] := ⟨rfl, by omega, fun h => absurd h (by omega)⟩
/-- An owned row of n elements shows itself as a slice of n. -/
theorem owns_shape {w : World} {base : Nat} {e : TypeId} {size : Nat} {v : Value} {n : Nat} {xs : List Value} (h : w.ownsRow base e size v n xs) : ∃ A c, v = .slice A n c := by
  rcases h.2 with ⟨rfl, rfl⟩ | ⟨g, cap, cur, rfl, _⟩
  · exact ⟨_, _, rfl⟩
  · exact ⟨_, _, rfl⟩

/-- Worlds that only grew: what Below w.heap.size w w' says, chained. -/
theorem bel_trans {a b c : World} (h : Below a.heap.size a b) (k : Below b.heap.size b c) : Below a.heap.size a c := h.trans (k.mono h.size)

theorem bel_of {w w1 : World} {o : Obj} (hb : Below (w.alloc o).heap.size (w.alloc o) w1) : Below w.heap.size w w1 := ((Below.refl _ _).alloc (Nat.le_refl _) _).trans (hb.mono (by simp))
theorem bel_of2 {w w1 : World} {o o' : Obj} (hb : Below ((w.alloc o).alloc o').heap.size ((w.alloc o).alloc o') w1) : Below w.heap.size w w1 := bel_of (bel_of hb)
theorem bel_alloc {w w1 : World} (hb : Below w.heap.size w w1) (o : Obj) : Below w.heap.size w (w1.alloc o) := hb.alloc hb.size o
theorem bel_drew {w w1 : World} (hb : Below w.heap.size w w1) : Below w.heap.size w w1.drew := hb.drew
theorem bel_refl (w : World) : Below w.heap.size w w := Below.refl _ _

/-- The values of the plain structures. -/
def ansCells (a : M.Ans) : List Value := [.bool a.v, .string a.key, .string a.data, .string a.text, .int .u32 a.flags, .int .u64 a.cas, .bool a.withCas]
def ansV (a : M.Ans) : Value := .agg (ansCells a).toArray
def itemV (x : M.Item) : Value := .agg #[.string x.key, .string x.val, .int .u32 x.flags, .int .i64 x.exp, .int .u64 x.ver]

/-- What event.Of hands out; K: the keys' slice of a Get. -/
def cV (K : Value) : M.C → Value
  | .get _ cas touch exp => .iface 98 (.agg #[K, .bool cas, .bool touch, .int .i64 exp])
  | .store verb key data flags exp cas quiet => .iface 83 (.agg #[.string verb, .string key, .string data, .int .u32 flags, .int .i64 exp, .int .u64 cas, .bool quiet])
  | .arith key by_ down quiet => .iface 108 (.agg #[.string key, .int .u64 by_, .bool down, .bool quiet])
  | .touch key exp quiet => .iface 111 (.agg #[.string key, .int .i64 exp, .bool quiet])
  | .delete key quiet => .iface 115 (.agg #[.string key, .bool quiet])
  | .flush quiet => .iface 80 (.agg #[.bool quiet])
  | .bad text => .iface 102 (.agg #[.string text])
  | .word name => .iface 77 (.agg #[.string name])
  | .none => .nilIface

/-- Behind a callee that only made memory: what was there reads as it did, in the walk's form. -/
theorem bcell {W w1 : World} (hb : Below W.heap.size W w1) : (∀ b o, b < W.heap.size → w1.cell? ⟨b, o, none⟩ = W.cell? ⟨b, o, none⟩) ∧ (∀ b o, b < W.heap.size → w1.frozen? ⟨b, o, none⟩ = W.frozen? ⟨b, o, none⟩) ∧ W.heap.size ≤ w1.heap.size :=
  ⟨fun b o h => hb.cell (p := ⟨b, o, none⟩) h, fun b o h => hb.frozen (p := ⟨b, o, none⟩) h, hb.size⟩

end Go.Proofs.YtbhnmaghnnpboaaDoor

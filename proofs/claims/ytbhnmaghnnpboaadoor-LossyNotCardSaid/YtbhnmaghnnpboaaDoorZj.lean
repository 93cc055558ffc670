/- lossy: the plain step; what a command's value asserts to; Copy; lose with what it keeps. -/
import Derived.Deep.CutRange
import Derived.Laws.Externs
import Derived.Shelf.SlMaps.Clone
import Derived.Test.YtbhnmaghnnpboaaDoorZr
import Derived.Test.YtbhnmaghnnpboaaDoorZs
import Derived.Test.YtbhnmaghnnpboaaDoorZx
namespace Go.Proofs.YtbhnmaghnnpboaaDoor
open Go.RowKit
attribute [local go_sem ↓] Go.wp_at_zero Go.wp_at_succ

/-- A store's fields; nothing of what is none. -/
structure SF where
  verb : ByteArray
  key : ByteArray
  data : ByteArray
  flags : Int
  exp : Int
  cas : Int
  quiet : Bool
def sfOf : M.C → SF
  | .store verb key data flags exp cas quiet => ⟨verb, key, data, flags, exp, cas, quiet⟩
  | _ => ⟨⟨#[]⟩, ⟨#[]⟩, ⟨#[]⟩, 0, 0, 0, false⟩
def isSt : M.C → Bool
  | .store _ _ _ _ _ _ _ => true
  | _ => false
def isGet : M.C → Bool
  | .get _ _ _ _ => true
  | _ => false
theorem ta98 (K : Value) (c : M.C) (h : isGet c = false) (w : World) : (Instr.typeAssert (cV K c) 20 98 true).run Tryd.prog w = .ok (.tuple #[.agg #[.slice none 0 0, .bool false, .bool false, .int .i64 0], .bool false]) w := by
  cases c with
  | get keys cas touch exp => simp [isGet] at h
  | _ => kernel_rfl
theorem ta83 (K : Value) (c : M.C) (w : World) : (Instr.typeAssert (cV K c) 20 83 true).run Tryd.prog w = .ok (.tuple #[.agg #[.string (sfOf c).verb, .string (sfOf c).key, .string (sfOf c).data, .int .u32 (sfOf c).flags, .int .i64 (sfOf c).exp, .int .u64 (sfOf c).cas, .bool (sfOf c).quiet], .bool (isSt c)]) w := by
  cases c <;> kernel_rfl

def addNot (chs : List (Int × List Int)) (n v : Int) : List (Int × List Int) := chs.set (n - 1).toNat ((chs.getD (n - 1).toNat (0, [])).1, (chs.getD (n - 1).toNat (0, [])).2 ++ [v])
/-- A step of a cas that found its key. -/
def casF (s : RS) (key data : ByteArray) (flags exp cas now : Int) (told : ByteArray) : Bool × RS :=
  match M.mget s.l key now with
  | none => (false, s)
  | some y =>
    if told = M.tEX then (true, { s with chs := addNot s.chs y.ver cas })
    else if told ≠ M.tSTORED then (false, s)
    else if tellAt s.chs y.ver cas then (true, ⟨(M.store s.l M.vcas key data flags exp y.ver now (s.chs.length + 1)).2, setTold s.chs y.ver cas ++ [(0, [])], s.losses⟩)
    else (false, s)
/-- The rest of a step, the key's loss behind it. -/
def mainF (s : RS) (x : M.Cmd) (now : Int) (told : ByteArray) : Bool × RS :=
  (decide ((doF s.l x now (s.chs.length + 1)).1 = some told), ⟨(doF s.l x now (s.chs.length + 1)).2, if goodF x && !told.toList.isEmpty && changesF x.of told then s.chs ++ [(0, [])] else s.chs, s.losses⟩)
/-- May the key be lost? -/
def goneF (x : M.Cmd) (told : ByteArray) : Bool := goodF x && absentF x.of told
def lostF (s : RS) (x : M.Cmd) (now : Int) (told : ByteArray) : RS := if goneF x told then loseF s (M.first x.of.keys) now else s
/-- Is it a cas that found its key? -/
def isCas (x : M.Cmd) (told : ByteArray) : Bool := isSt x.of && goodF x && eqs (sfOf x.of).verb [99, 97, 115] && !eqs told bNone
def stepF (s : RS) (x : M.Stp) : Bool × RS :=
  match x.cmd.of with
  | .get _ cas touch exp => getF s cas touch exp x.key x.answers x.now
  | c =>
    if x.answers = [] then ((doF s.l x.cmd x.now 0).1.isNone, s)
    else if (textF x.answers).2 then
      let told := (textF x.answers).1
      let s1 := lostF s x.cmd x.now told
      if isCas x.cmd told then casF s1 (sfOf c).key (sfOf c).data (sfOf c).flags (sfOf c).exp (sfOf c).cas x.now told
      else mainF s1 x.cmd x.now told
    else (false, s)

theorem clone_map (g : Nat) (l : M.Mp) (w : World) (h : MapAt w g l) :
    Calls Tryd.prog 66 #[.map (some g)] w fun e w' => e = .returned (.map (some w.heap.size)) ∧ MapAt w' w.heap.size l ∧ Below w.heap.size w w' := by
  obtain ⟨es, clk, hh, hs⟩ := h
  have hq := fun w => run_eql_map_nil_sl (P := Tryd.prog) w 91 _ _ (some g) Tryd.underlying91
  have hrun : (callFunc 72 #[.iface 91 (.map (some g))]).run Tryd.prog w = .ok (.value (.iface 91 (.map (some w.heap.size)))) (w.alloc (.map es clk)) := by
    rw [run_callFunc_extern Tryd.func72 (by kernel_rfl) (by kernel_rfl) (by kernel_rfl) (e := Extern.MapsClone.clone) (by kernel_rfl), run_maps_clone_sl w 91 hh]
    rfl
  have hta := run_typeAssert_map_sl (P := Tryd.prog) (w.alloc (.map es clk)) 91 20 _ _ (.map (some w.heap.size)) Tryd.underlying91
  have HS := Lib.hid hs
  have HH := Lib.hid hh
  clear hs hh
  go_enter Tryd.func66, Tryd.ntmps66
  go_wp2_with fail
  go_ret
  exact ⟨rfl, ⟨es, clk, heap_alloc_new w _, HS.out⟩, bel_alloc (bel_refl w) _⟩

theorem copy_any (mb g : Nat) (l : M.Mp) (w : World) (h : MapSt w mb g l) :
    Calls Tryd.prog 53 #[.pointer (some ⟨mb, 0, none⟩)] w fun e w' => ∃ mb' g', e = .returned (.pointer (some ⟨mb', 0, none⟩)) ∧ MapSt w' mb' g' l ∧ w.heap.size ≤ g' ∧ Below w.heap.size w w' := by
  have hc := h.cell
  have HC := Lib.hid (clone_map g l w h.at_)
  clear h
  go_enter Tryd.func53, Tryd.ntmps53
  go_wp2_with (go_at_call 66; refine HC.out.mono ?_; rintro e w1 ⟨rfl, hm, hb⟩; have HM := Lib.hid hm; clear hm)
  go_ret
  exact ⟨w1.heap.size, w.heap.size, rfl, ⟨heap_alloc_new w1 _, HM.out.alloc _⟩, Nat.le_refl _, bel_alloc hb _⟩

/-- What the run's own stores keep. -/
def KeptBut (w w' : World) (rb g : Nat) : Prop := w.heap.size ≤ w'.heap.size ∧ ∀ (k : Nat) (ob : Obj), w.heap[k]? = some ob → k ≠ rb → k ≠ g → w'.heap[k]? = some ob
theorem KeptBut.of {w w' : World} {rb g : Nat} (hb : Below w.heap.size w w') : KeptBut w w' rb g := ⟨hb.size, fun k _ob hk _ _ => (hb.block k (Array.getElem?_eq_some_iff.1 hk).1).trans hk⟩
theorem KeptBut.trans {w w1 w2 : World} {rb g : Nat} (h : KeptBut w w1 rb g) (k : KeptBut w1 w2 rb g) : KeptBut w w2 rb g := ⟨Nat.le_trans h.1 k.1, fun j ob hj h1 h2 => k.2 j ob (h.2 j ob hj h1 h2) h1 h2⟩
theorem KeptBut.refl {w : World} {rb g : Nat} : KeptBut w w rb g := ⟨Nat.le_refl _, fun _ _ h _ _ => h⟩

/-- What lose leaves. -/
def Lost (B : Nat) (w : World) (rb mb g : Nat) (s : RS) (is : List Ch) (A : Option Addr) (c : Nat) (e : Ending) (w' : World) : Prop :=
  e = .returned (.tuple #[]) ∧ RunSt B w' rb mb g s.l is s.losses A c ∧ Below B w w' ∧ KeptBut w w' rb g

set_option maxRecDepth 100000 in
set_option maxHeartbeats 2000000 in
theorem lose_any {B : Nat} {w : World} {rb mb g : Nat} {l : M.Mp} {is : List Ch} {losses : Int} {A : Option Addr} {c : Nat} (h : RunSt B w rb mb g l is losses A c) (key : ByteArray) (now : Int) (hl : 0 ≤ losses ∧ losses < 9223372036854775807) :
    Calls Tryd.prog 56 #[.pointer (some ⟨rb, 0, none⟩), .string key, .int .i64 now] w (Lost B w rb mb g (loseF ⟨l, is.map Ch.sees, losses⟩ key now) is A c) := by
  cases hx : M.mget l key now with
  | none =>
    refine (lose_none h key now hx).mono ?_
    rintro e w' ⟨he, hb⟩
    have hB : B ≤ w.heap.size := by have := h.lo.1; have := (Array.getElem?_eq_some_iff.1 h.hd).1; omega
    simp only [loseF, hx]
    exact ⟨he, h.below hb, hb.mono hB, KeptBut.of hb⟩
  | some y =>
    have h0 := cells_at (j := 0) h.hd rfl
    have hlo := h.lo
    have HC := Lib.hid (mget_some mb g l key now y w h.map hx)
    have H := Lib.hid h
    have e2 : IntKind.i64.wrap (losses + 1) = losses + 1 := by rw [IntKind.wrap_i64]; omega
    have E2 := Lib.hid e2
    have HX := Lib.hid hx
    clear h hx e2
    go_enter Tryd.func56, Tryd.ntmps56
    go_wp2_with fail
    refine HC.out.mono ?_
    rintro e w1 ⟨rfl, hb1⟩
    have hw1 := bel_alloc hb1 (.cells #[.string y.key, .string y.val, .int .u32 y.flags, .int .i64 y.exp, .int .u64 y.ver] 65)
    have h1 := H.out.below hw1
    have k0 := cells_at (j := 0) h1.hd rfl
    have HL := Lib.hid (mlose_any mb g l key _ h1.map)
    have H1 := Lib.hid h1
    clear h1
    go_wp2_with fail
    refine HL.out.mono ?_
    rintro e w2 ⟨rfl, hm, hg⟩
    have h2 := H1.out.mapped hg hm
    have k2 := cells_at (j := 2) h2.hd rfl
    have f2 := froz_at (j := 2) h2.hd
    have h3 := h2.loss (losses + 1)
    have hb2 : Below B w w2 := ⟨hg.os.trans hw1.os, hg.tape.trans hw1.tape, hg.output.trans hw1.output, Nat.le_trans hw1.size hg.size, fun i hi => (hg.block i (by have := H.out.map.at_.lt; have := hw1.size; omega) (fun e => by injection e with e; omega)).trans (hw1.block i (by have := H.out.map.at_.lt; omega))⟩
    have hk2 : KeptBut w (w2.setCell ⟨rb, 2, none⟩ (.int .i64 (losses + 1))) rb g := by
      have hsz : (w2.setCell ⟨rb, 2, none⟩ (.int .i64 (losses + 1))).heap.size = w2.heap.size := by simp [World.setCell]
      refine ⟨by rw [hsz]; exact Nat.le_trans hw1.size hg.size, fun k ob hk e1 e2 => ?_⟩
      rw [Below.heap_setCell _ _ _ _ (by exact e1)]
      have hlt := (Array.getElem?_eq_some_iff.1 hk).1
      exact (hg.block k (by have := hw1.size; omega) (fun e => by injection e with e; exact e2 e)).trans ((hw1.block k hlt).trans hk)
    have H3 := Lib.hid h3
    have HB := Lib.hid hb2
    have HK := Lib.hid hk2
    clear h2 h3 hb2 hm hg hk2
    go_wp2_with fail
    go_end0
    simp only [loseF, HX.out]
    exact ⟨rfl, H3.out, Below.setCell HB.out (by exact hlo.1) _, HK.out⟩
end Go.Proofs.YtbhnmaghnnpboaaDoor
/- lossy: step, a get. -/
namespace Go.Proofs.YtbhnmaghnnpboaaDoor
open Go.RowKit
attribute [local go_sem ↓] Go.wp_at_zero Go.wp_at_succ

set_option maxRecDepth 100000 in
set_option maxHeartbeats 2000000 in
theorem step_get {B : Nat} {w : World} {rb mb g : Nat} {l : M.Mp} {is : List Ch} {losses : Int} {A0 : Option Addr} {cc : Nat} (h : RunSt B w rb mb g l is losses A0 cc) (_ht : Tabs w) (_h7 : 7 ≤ B) (xw xv : ByteArray) (xk : List ByteArray) (xd : ByteArray) (xf xe xc xb : Int) (xwc xwt xdn xq : Bool) (A SA : Option Addr) (n c m sc : Nat) (key : ByteArray) (now : Int) (ans : List M.Ans)
    (hk : RdS w B A n xk) (ha : RdA w B SA m ans) (hm : m ≤ sc ∧ sc ≤ 9223372036854775807) (hok : CmdOk (⟨xw, xv, xk, xd, xf, xe, xc, xb, xwc, xwt, xdn, xq⟩ : M.Cmd)) (hn : I64 now) (hv : VerOk l is.length) (_hsm : Small l) (hl : 0 ≤ losses ∧ losses < 9223372036854775807) (hs : is.length < 1000000) (h0 : xw = M.sGet) (h1 : M.Cmd.of (⟨xw, xv, xk, xd, xf, xe, xc, xb, xwc, xwt, xdn, xq⟩ : M.Cmd) = .get xk xwc xwt xe) :
    Calls Tryd.prog 36 #[.pointer (some ⟨rb, 0, none⟩), .agg (#[Value.string xw, Value.string xv, Value.slice A n c, Value.string xd, Value.int .u32 xf, Value.int .i64 xe, Value.int .u64 xc, Value.int .u64 xb, Value.bool xwc, Value.bool xwt, Value.bool xdn, Value.bool xq, Value.string key, Value.slice SA m sc, Value.int .i64 now] : Array Value)] w (Stepped B w rb mb g (getF ⟨l, is.map Ch.sees, losses⟩ xwc xwt xe key ans now)) := by
  have hB : B ≤ w.heap.size := by have := h.lo.1; have := (Array.getElem?_eq_some_iff.1 h.hd).1; omega
  have hW : Below w.heap.size w (w.alloc (.cells (#[Value.string xw, Value.string xv, Value.slice A n c, Value.string xd, Value.int .u32 xf, Value.int .i64 xe, Value.int .u64 xc, Value.int .u64 xb, Value.bool xwc, Value.bool xwt, Value.bool xdn, Value.bool xq, Value.string key, Value.slice SA m sc, Value.int .i64 now] : Array Value) 32)) := bel_alloc (bel_refl w) _
  have hof := of_any (⟨xw, xv, xk, xd, xf, xe, xc, xb, xwc, xwt, xdn, xq⟩ : M.Cmd) A n c _ ((hk.below hW hB).more (by simp; omega))
  rw [h1] at hof
  simp only [cV] at hof
  have HOF := Lib.hid hof
  have H := Lib.hid (h.below hW)
  have HA := Lib.hid (ha.below hW hB)
  have HK := Lib.hid (hk.below hW hB)
  have H0 := Lib.hid h0
  have H1 := Lib.hid h1
  have HE := Lib.hid hok.exp
  have HN := Lib.hid hn
  have HV := Lib.hid hv
  clear h hk ha hok hn hv _hsm h0 h1 hof _ht
  cases xwt
  all_goals
    go_enter Tryd.func36, Tryd.ntmps36
    go_wp2_with fail
    refine HOF.out.mono ?_
    rintro e w1 ⟨KA, kc, rfl, hr1, hb1⟩
    have HR1 := Lib.hid hr1
    have hq := own_cell hb1
    have hW1 : Below w.heap.size w w1 := bel_of hb1
    have hsz : w.heap.size < w1.heap.size := size_of hb1
    clear hr1
    go_wp2_with fail
  · refine (get_false (H.out.below (bel_alloc hb1 _)) xw xv xk xd xf xe xc xb xwc xdn xq A KA SA n c kc m sc key now ans (HK.out.below (bel_alloc hb1 _) (by simp; omega)) (HA.out.below (bel_alloc hb1 _) (by simp; omega)) hm H1.out HE.out HN.out HV.out hl hs).mono ?_
    rintro e w2 ⟨rfl, hb2, hr2⟩
    have HR2 := Lib.hid hr2
    have HB2 := Lib.hid (((bel_alloc hW1 _).mono hB).trans hb2)
    clear hr2 hb2
    go_wp2_with fail
    go_ret
    exact ⟨rfl, HB2.out, HR2.out⟩
  · refine (get_true (H.out.below (bel_alloc hb1 _)) xw xv xk xd xf xe xc xb xwc xdn xq A KA SA n c kc m sc key now ans (HK.out.below (bel_alloc hb1 _) (by simp; omega)) (HA.out.below (bel_alloc hb1 _) (by simp; omega)) hm H1.out HE.out HN.out HV.out hl hs).mono ?_
    rintro e w2 ⟨rfl, hb2, hr2⟩
    have HR2 := Lib.hid hr2
    have HB2 := Lib.hid (((bel_alloc hW1 _).mono hB).trans hb2)
    clear hr2 hb2
    go_wp2_with fail
    go_ret
    exact ⟨rfl, HB2.out, HR2.out⟩
end Go.Proofs.YtbhnmaghnnpboaaDoor

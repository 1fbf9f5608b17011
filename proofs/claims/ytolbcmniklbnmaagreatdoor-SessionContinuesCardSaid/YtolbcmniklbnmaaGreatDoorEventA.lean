/- Events as data; the walks of event.between, equal, forms and its three functions. -/
import Derived.Test.YtolbcmniklbnmaaGreatDoorClockE
import Derived.Carry
namespace Go.Proofs.YtolbcmniklbnmaaGreatDoor
open Go Go.RowKit Go.Deep

/-- api.Event; give is (kind, index, element, amount). -/
structure Ev where
  replica : Int
  number : Int
  time : Int
  past : List Int
  kind : Int
  action : Int
  gkind : Int
  gindex : Int
  gelement : Int
  gamount : Int
  to : Int
  place : Int
  serial : Int
  deriving DecidableEq

/-- The cells of an event whose Past is the slice (A, n, c). -/
def Ev.cells (e : Ev) (A : Option Addr) (n c : Nat) : Array Value :=
  #[.int .i64 e.replica, .int .i64 e.number, .int .i64 e.time, .slice A n c, .int .i64 e.kind, .int .i64 e.action, .int .i64 e.gkind, .int .i64 e.gindex, .int .i64 e.gelement, .int .i64 e.gamount, .int .i64 e.to, .int .i64 e.place, .int .i64 e.serial]

def btw (n lo hi : Int) : Bool := decide (lo ≤ n) && decide (n ≤ hi)
theorem between_any (n lo hi : Int) (w : World) : Calls Tryz.prog 59 #[.int .i64 n, .int .i64 lo, .int .i64 hi] w fun e w' => e = .returned (.bool (btw n lo hi)) ∧ w = w' := by
  by_cases h1 : lo ≤ n
  · by_cases h2 : n ≤ hi
    all_goals
      go_enter Tryz.func59, Tryz.ntmps59
      go_wp2
      go_ret
      exact ⟨ret_bool (by simp [btw, h1, h2]), rfl⟩
  · go_enter Tryz.func59, Tryz.ntmps59
    go_wp2
    go_ret
    exact ⟨ret_bool (by simp [btw]; omega), rfl⟩

theorem push_set (h : Array Obj) (o o' : Obj) : (h.push o).setIfInBounds h.size o' = h.push o' := by
  apply Array.ext_getElem?
  intro i
  rw [Array.getElem?_setIfInBounds]
  by_cases hi : h.size = i
  · subst hi; simp
  · rw [if_neg hi, Array.getElem?_push, Array.getElem?_push, if_neg (fun e => hi e.symm), if_neg (fun e => hi e.symm)]

/-- A key that is not there yet, put into the map that is the heap's last block. -/
theorem run_insert_new {P : Program} (t k el : TypeId) (kd : IntKind) (W : World) (r : Nat) (hr : W.heap.size = r) (es : Array MapEntry) (clk : Nat) (m : Int) (v : Value)
    (ht : P.underlying t = some (.map k el)) (hk : P.underlying k = some (.int kd)) (hn : Instr.findNow (.int kd) (.int kd m) es.toList 0 = some none) :
    (Instr.mapUpdate t (.map (some r)) (.int kd m) v).run P (W.alloc (.map es clk)) = .ok () (W.alloc (.map (es.push ⟨.int kd m, v, clk⟩) (clk + 1))) := by
  subst hr
  have h := heap_alloc_new W (.map es clk)
  have hset : ({ W.alloc (.map es clk) with heap := (W.alloc (.map es clk)).heap.setIfInBounds W.heap.size (.map (es.push ⟨.int kd m, v, clk⟩) (clk + 1)) } : World) = W.alloc (.map (es.push ⟨.int kd m, v, clk⟩) (clk + 1)) := by
    show World.mk _ _ _ _ _ = World.mk _ _ _ _ _
    congr 1
    exact push_set _ _ _
  simp [Instr.mapUpdate, run_underlying ht, MapKept.run_getObj_map h, MapKept.run_checkKey hk (show MapKept.IsKey (.int kd) (.int kd m) from rfl) false 9999, Instr.findKey, run_underlying hk, hn, MapKept.run_setObj_map _ h, Result.andThen]
  exact hset

/-- A look-up with ok, of a key that is a number, in a map that is known whole. -/
theorem run_look_ok {P : Program} (t k el : TypeId) (kd : IntKind) (W : World) (r : Nat) (es : Array MapEntry) (clk : Nat) (m : Int) (v : Value) (b : Bool)
    (hb : W.heap[r]? = some (.map es clk)) (ht : P.underlying t = some (.map k el)) (hk : P.underlying k = some (.int kd)) (hz : ∀ W, (zeroValue el).run P W = .ok v W ∨ b = true)
    (hn : Instr.findNow (.int kd) (.int kd m) es.toList 0 = some (if b then some (m.toNat, v) else none)) :
    (Instr.lookup t (.map (some r)) (.int kd m) true).run P W = .ok (.tuple #[v, .bool b]) W := by
  cases b with
  | true => simp [Instr.lookup, run_underlying ht, MapKept.run_getObj_map hb, MapKept.run_checkKey hk (show MapKept.IsKey (.int kd) (.int kd m) from rfl) _ 9999, Instr.findKey, run_underlying hk, hn, Result.andThen]
  | false =>
    rcases hz W with h | h
    · simp [Instr.lookup, run_underlying ht, MapKept.run_getObj_map hb, MapKept.run_checkKey hk (show MapKept.IsKey (.int kd) (.int kd m) from rfl) _ 9999, Instr.findKey, run_underlying hk, hn, Result.andThen, h]
    · cases h

/-- The map that event.forms makes, of an event in block b. -/
def formsMap (b : Nat) : Array MapEntry := #[⟨.int .i64 0, .func (.func 78) #[] #[.pointer (some ⟨b, 0, none⟩)], 0⟩, ⟨.int .i64 1, .func (.func 79) #[] #[.pointer (some ⟨b, 0, none⟩)], 1⟩, ⟨.int .i64 2, .func (.func 80) #[] #[.pointer (some ⟨b, 0, none⟩)], 2⟩]

set_option maxRecDepth 100000 in
theorem forms_any (e : Ev) (A : Option Addr) (n c : Nat) (w : World) :
    Calls Tryz.prog 60 #[.agg (e.cells A n c)] w fun en w' => en = .returned (.map (some (w.heap.size + 1))) ∧ (w.alloc (.cells (e.cells A n c) 35)).alloc (.map (formsMap w.heap.size) 3) = w' := by
  have hmm := @run_makeMap Tryz.prog
  have i0 := run_insert_new (P := Tryz.prog) 104 _ _ .i64 (w.alloc (.cells (e.cells A n c) 35)) (w.heap.size + 1) (by simp) #[] 0 0 (.func (.func 78) #[] #[.pointer (some ⟨w.heap.size, 0, none⟩)]) Tryz.underlying104 Tryz.underlying3 rfl
  have i1 := run_insert_new (P := Tryz.prog) 104 _ _ .i64 (w.alloc (.cells (e.cells A n c) 35)) (w.heap.size + 1) (by simp) #[⟨.int .i64 0, .func (.func 78) #[] #[.pointer (some ⟨w.heap.size, 0, none⟩)], 0⟩] 1 1 (.func (.func 79) #[] #[.pointer (some ⟨w.heap.size, 0, none⟩)]) Tryz.underlying104 Tryz.underlying3 rfl
  have i2 := run_insert_new (P := Tryz.prog) 104 _ _ .i64 (w.alloc (.cells (e.cells A n c) 35)) (w.heap.size + 1) (by simp) #[⟨.int .i64 0, .func (.func 78) #[] #[.pointer (some ⟨w.heap.size, 0, none⟩)], 0⟩, ⟨.int .i64 1, .func (.func 79) #[] #[.pointer (some ⟨w.heap.size, 0, none⟩)], 1⟩] 2 2 (.func (.func 80) #[] #[.pointer (some ⟨w.heap.size, 0, none⟩)]) Tryz.underlying104 Tryz.underlying3 rfl
  simp only [List.push_toArray, List.cons_append, List.nil_append, Nat.zero_add, Nat.reduceAdd] at i0 i1 i2
  go_enter Tryz.func60, Tryz.ntmps60
  go_wp2
  go_ret
  exact ⟨rfl, rfl⟩
end Go.Proofs.YtolbcmniklbnmaaGreatDoor

/- The walks of session.guarantees, and of the function that session.Check hands to ContainsFunc. -/
import Derived.Test.YtolbcmniklbnmaaGreatDoorSesF
import Derived.Laws.EntriesVeiled
namespace Go.Proofs.YtolbcmniklbnmaaGreatDoor
open Go Go.RowKit Go.Deep

def gact (j : Nat) : Bool := match j with | 2 => true | 3 => true | _ => false
def gbefore (j : Nat) : Bool := match j with | 1 => true | 2 => true | _ => false
def gfn (j : Nat) : Fn := match j with | 0 => .func 44 | 1 => .func 45 | 2 => .func 47 | _ => .func 48
def gcap (nb : Nat) (j : Nat) : Array Value := match j with | 1 => #[.pointer (some ⟨nb, 0, none⟩)] | 2 => #[.pointer (some ⟨nb, 0, none⟩)] | _ => #[]
/-- The cells of a guarantee. -/
def gcell (nb : Nat) (j : Nat) : List Value := [.int .i64 ((j : Int) + 1), .bool (gact j), .bool (gbefore j), .func (gfn j) #[] (gcap nb j)]
/-- The cells of the list of guarantees. -/
def gcells (nb : Nat) : Array Value := #[.int .i64 1, .bool false, .bool false, .func (.func 44) #[] #[],
  .int .i64 2, .bool false, .bool true, .func (.func 45) #[] #[.pointer (some ⟨nb, 0, none⟩)],
  .int .i64 3, .bool true, .bool true, .func (.func 47) #[] #[.pointer (some ⟨nb, 0, none⟩)],
  .int .i64 4, .bool true, .bool false, .func (.func 48) #[] #[]]
theorem gcells_at (nb j : Nat) (hj : j < 4) : (gcells nb)[j * 4]? = some (.int .i64 ((j : Int) + 1)) ∧ (gcells nb)[j * 4 + 1]? = some (.bool (gact j)) ∧ (gcells nb)[j * 4 + 2]? = some (.bool (gbefore j)) ∧ (gcells nb)[j * 4 + 3]? = some (.func (gfn j) #[] (gcap nb j)) := by
  match j, hj with
  | 0, _ => exact ⟨rfl, rfl, rfl, rfl⟩
  | 1, _ => exact ⟨rfl, rfl, rfl, rfl⟩
  | 2, _ => exact ⟨rfl, rfl, rfl, rfl⟩
  | 3, _ => exact ⟨rfl, rfl, rfl, rfl⟩

/-- Is the guarantee with index j kept? -/
def keptC (j : Nat) (a b : SAct) : Bool := match j with
  | 0 => containsC a.clock b.clock
  | 1 => hasC a.clock b.event.replica b.event.number
  | 2 => hasC a.event.past b.event.replica b.event.number
  | _ => containsC a.event.past b.clock
def brkC (j : Nat) (a b : SAct) : Bool := (gbefore j == b.write) && !keptC j a b

set_option maxRecDepth 100000 in
theorem guarantees_any (w : World) :
    Calls Tryz.prog 26 #[] w fun en w' => en = .returned (.slice (some ⟨w.heap.size + 1, 0, none⟩) 4 4) ∧
      (w.alloc (.cells #[.func (.func 43) #[] #[]] 91)).alloc (.cells (gcells w.heap.size) 67) = w' := by
  go_enter Tryz.func26, Tryz.ntmps26
  go_wp2
  go_ret
  exact ⟨rfl, rfl⟩

set_option maxRecDepth 100000 in
set_option maxHeartbeats 2000000 in
theorem check1_any (j : Nat) (a b : SAct) (s t : Sls) (gb ab nb : Nat) (w : World) (ha : a.In w s) (hb : b.In w t)
    (g2 : w.cell? ⟨gb, 2, none⟩ = some (.bool (gbefore j))) (g3 : w.cell? ⟨gb, 3, none⟩ = some (.func (gfn j) #[] (gcap nb j)))
    (hn : w.cell? ⟨nb, 0, none⟩ = some (.func (.func 43) #[] #[]))
    (hab : ∀ i v, (a.cells s)[i]? = some v → w.cell? ⟨ab, i, none⟩ = some v) :
    Calls Tryz.prog 28 #[.agg (b.cells t), .pointer (some ⟨gb, 0, none⟩), .pointer (some ⟨ab, 0, none⟩)] w fun en w' => en = .returned (.bool (brkC j a b)) ∧ Ext w w' := by
  have hx0 : ∀ o, Ext w (w.alloc o) := fun o => (Ext.refl w).alloc o
  have hbc : ∀ i v, (b.cells t)[i]? = some v → (w.alloc (.cells (b.cells t) 37)).cell? ⟨w.heap.size, i, none⟩ = some v := fun i v h => (cell_new w _ _ i).trans h
  have b0 := hbc 0 (.bool b.write) rfl
  have b1 := hbc 1 (.slice t.A t.n t.c) rfl
  have b2 := hbc 2 (.int .i64 b.event.replica) rfl
  have b3 := hbc 3 (.int .i64 b.event.number) rfl
  have b4 := hbc 4 (.int .i64 b.event.time) rfl
  have b5 := hbc 5 (.slice t.B t.m t.d) rfl
  have b6 := hbc 6 (.int .i64 b.event.kind) rfl
  have b7 := hbc 7 (.int .i64 b.event.action) rfl
  have b8 := hbc 8 (.int .i64 b.event.gkind) rfl
  have b9 := hbc 9 (.int .i64 b.event.gindex) rfl
  have b10 := hbc 10 (.int .i64 b.event.gelement) rfl
  have b11 := hbc 11 (.int .i64 b.event.gamount) rfl
  have b12 := hbc 12 (.int .i64 b.event.to) rfl
  have b13 := hbc 13 (.int .i64 b.event.place) rfl
  have b14 := hbc 14 (.int .i64 b.event.serial) rfl
  have a0 := (hx0 (.cells (b.cells t) 37)).cell (hab 0 (.bool a.write) rfl)
  have a1 := (hx0 (.cells (b.cells t) 37)).cell (hab 1 (.slice s.A s.n s.c) rfl)
  have a2 := (hx0 (.cells (b.cells t) 37)).cell (hab 2 (.int .i64 a.event.replica) rfl)
  have a3 := (hx0 (.cells (b.cells t) 37)).cell (hab 3 (.int .i64 a.event.number) rfl)
  have a4 := (hx0 (.cells (b.cells t) 37)).cell (hab 4 (.int .i64 a.event.time) rfl)
  have a5 := (hx0 (.cells (b.cells t) 37)).cell (hab 5 (.slice s.B s.m s.d) rfl)
  have a6 := (hx0 (.cells (b.cells t) 37)).cell (hab 6 (.int .i64 a.event.kind) rfl)
  have a7 := (hx0 (.cells (b.cells t) 37)).cell (hab 7 (.int .i64 a.event.action) rfl)
  have a8 := (hx0 (.cells (b.cells t) 37)).cell (hab 8 (.int .i64 a.event.gkind) rfl)
  have a9 := (hx0 (.cells (b.cells t) 37)).cell (hab 9 (.int .i64 a.event.gindex) rfl)
  have a10 := (hx0 (.cells (b.cells t) 37)).cell (hab 10 (.int .i64 a.event.gelement) rfl)
  have a11 := (hx0 (.cells (b.cells t) 37)).cell (hab 11 (.int .i64 a.event.gamount) rfl)
  have a12 := (hx0 (.cells (b.cells t) 37)).cell (hab 12 (.int .i64 a.event.to) rfl)
  have a13 := (hx0 (.cells (b.cells t) 37)).cell (hab 13 (.int .i64 a.event.place) rfl)
  have a14 := (hx0 (.cells (b.cells t) 37)).cell (hab 14 (.int .i64 a.event.serial) rfl)
  have g2 := (hx0 (.cells (b.cells t) 37)).cell g2
  have g3 := (hx0 (.cells (b.cells t) 37)).cell g3
  have hn := (hx0 (.cells (b.cells t) 37)).cell hn
  have HA : a.In (w.alloc (.cells (b.cells t) 37)) s := ha.ext (hx0 _)
  have HB : b.In (w.alloc (.cells (b.cells t) 37)) t := hb.ext (hx0 _)
  clear hab hbc ha hb
  by_cases hw : gbefore j = b.write
  · have hw' : (gbefore j == b.write) = true := by simpa using hw
    clear hw
    match j with
    | 0 =>
      simp only [gfn, gcap] at g3
      have F := Lib.hid (show brkC (0) a b = !(containsC a.clock b.clock) by simp [brkC, hw', keptC])
      go_enter Tryz.func28, Tryz.ntmps28
      go_wp2_with fail
      refine (kept1_any a b s t _ HA HB).mono ?_
      rintro en w1 ⟨rfl, hx⟩
      go_wp2
      go_ret
      exact ⟨ret_bool F.out.symm, ((Ext.refl w).alloc _).trans hx⟩
    | 1 =>
      simp only [gfn, gcap] at g3
      have F := Lib.hid (show brkC (1) a b = !(hasC a.clock b.event.replica b.event.number) by simp [brkC, hw', keptC])
      go_enter Tryz.func28, Tryz.ntmps28
      go_wp2_with fail
      refine (kept2_any a b s t nb _ HA HB hn).mono ?_
      rintro en w1 ⟨rfl, hx⟩
      go_wp2
      go_ret
      exact ⟨ret_bool F.out.symm, ((Ext.refl w).alloc _).trans hx⟩
    | 2 =>
      simp only [gfn, gcap] at g3
      have F := Lib.hid (show brkC (2) a b = !(hasC a.event.past b.event.replica b.event.number) by simp [brkC, hw', keptC])
      go_enter Tryz.func28, Tryz.ntmps28
      go_wp2_with fail
      refine (kept3_any a b s t nb _ HA HB hn).mono ?_
      rintro en w1 ⟨rfl, hx⟩
      go_wp2
      go_ret
      exact ⟨ret_bool F.out.symm, ((Ext.refl w).alloc _).trans hx⟩
    | j' + 3 =>
      simp only [gfn, gcap] at g3
      have F := Lib.hid (show brkC (j' + 3) a b = !(containsC a.event.past b.clock) by simp [brkC, hw', keptC])
      go_enter Tryz.func28, Tryz.ntmps28
      go_wp2_with fail
      refine (kept4_any a b s t _ HA HB).mono ?_
      rintro en w1 ⟨rfl, hx⟩
      go_wp2
      go_ret
      exact ⟨ret_bool F.out.symm, ((Ext.refl w).alloc _).trans hx⟩
  · have hw' : (gbefore j == b.write) = false := by simpa using hw
    have F := Lib.hid (show brkC j a b = false by simp [brkC, hw'])
    clear hw
    go_enter Tryz.func28, Tryz.ntmps28
    go_wp2
    go_ret
    exact ⟨ret_bool F.out.symm, (by repeat (first | exact Ext.refl _ | with_reducible assumption | refine Ext.drewN ?_ _ | refine Ext.drew ?_ | refine Ext.alloc ?_ _ | (refine Ext.trans ?_ (by with_reducible assumption))))⟩
end Go.Proofs.YtolbcmniklbnmaaGreatDoor

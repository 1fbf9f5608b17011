/- Words for memory that all walks use: lists of numbers, lists of lists, and the relations between worlds. No program is named here but through the walk's own imports. -/
import Derived.WalkKit
import Derived.BigQuiet
import Derived.Deep.QuietTactic
import Derived.Deep.RegionHeld3
import Derived.Deep.Draws
import Derived.Deep.OwnRows
import Derived.Deep.RegionLaw
import Derived.Deep.DeepFit
import Derived.Deep.LoopGhost
import Derived.Outline
import Derived.WalkLawsBesides
import Derived.WalkSpells
import Derived.Lib.Hide
namespace Go.Proofs.YtolbcmniklbnmaaGreatDoor
open Go Go.RowKit

theorem ret_bool {a b : Bool} (h : a = b) : Ending.returned (.bool a) = .returned (.bool b) := by rw [h]
theorem ret_int {k : IntKind} {a b : Int} (h : a = b) : Ending.returned (.int k a) = .returned (.int k b) := by rw [h]

/-- What could be read in w reads the same in w'. -/
def Sub (w w' : World) : Prop := ∀ p v, w.cell? p = some v → w'.cell? p = some v
theorem Sub.refl (w : World) : Sub w w := fun _ _ h => h
theorem Sub.trans {a b c : World} (h : Sub a b) (k : Sub b c) : Sub a c := fun p v e => k p v (h p v e)

/-- All that there was in w stands in w'; there may be more. -/
def Ext (w w' : World) : Prop := Below w.heap.size w w'
theorem Ext.refl (w : World) : Ext w w := Below.refl _ _
theorem Ext.size {a b : World} (h : Ext a b) : a.heap.size ≤ b.heap.size := Below.size h
theorem Ext.trans {a b c : World} (h : Ext a b) (k : Ext b c) : Ext a c := Below.trans h (Below.mono k (Below.size h))
theorem Ext.alloc {a b : World} (h : Ext a b) (o : Obj) : Ext a (b.alloc o) := Below.alloc h (Below.size h) o
theorem Ext.drew {a b : World} (h : Ext a b) : Ext a b.drew := Below.drew h
theorem Ext.drewN {a b : World} (h : Ext a b) (n : Nat) : Ext a (b.drewN n) := below_drewN h n
theorem Ext.set {a b : World} (h : Ext a b) {p : Addr} (hp : a.heap.size ≤ p.block) (u : Value) : Ext a (b.setCell p u) := Below.setCell h hp u
theorem Ext.grown {a b c : World} {row : Option Nat} (h : Ext a b) (hg : b.grownBy c row) (hr : ∀ k, row = some k → a.heap.size ≤ k) : Ext a c := Below.grown h hg (Below.size h) hr
theorem Ext.block {a b : World} (h : Ext a b) {k : Nat} (hk : k < a.heap.size) : b.heap[k]? = a.heap[k]? := Below.block h k hk
theorem cell_lt {w : World} {p : Addr} {v : Value} (h : w.cell? p = some v) : p.block < w.heap.size := by
  unfold World.cell? at h
  rcases Nat.lt_or_ge p.block w.heap.size with hlt | hge
  · exact hlt
  · rw [Array.getElem?_eq_none hge] at h; cases h
theorem Ext.sub {a b : World} (h : Ext a b) : Sub a b := fun _ _ e => (Below.cell h (cell_lt e)).trans e
theorem Ext.cell {a b : World} (h : Ext a b) {p : Addr} {v : Value} (e : a.cell? p = some v) : b.cell? p = some v := h.sub p v e
theorem Ext.frozen {a b : World} (h : Ext a b) {p : Addr} (hp : p.block < a.heap.size) : b.frozen? p = a.frozen? p := Below.frozen h hp
theorem Sub.alloc {a b : World} (h : Sub a b) (o : Obj) : Sub a (b.alloc o) := h.trans ((Ext.refl b).alloc o).sub
theorem Sub.drew {a b : World} (h : Sub a b) : Sub a b.drew := h
theorem Sub.drewN {a b : World} (h : Sub a b) (n : Nat) : Sub a (b.drewN n) := h

theorem cell_new (w : World) (cs : Array Value) (t : TypeId) (i : Nat) : (w.alloc (.cells cs t)).cell? ⟨w.heap.size, i, none⟩ = cs[i]? := by
  have h := heap_alloc_new w (.cells cs t)
  unfold World.cell?
  rw [h]
  rfl

/-- The slice (A, n, c) holds the numbers l. -/
def Ints (w : World) (A : Option Addr) (n c : Nat) (l : List Int) : Prop :=
  l.length = n ∧ n ≤ c ∧ c ≤ 9223372036854775807 ∧ ∀ k (h : k < l.length), ∃ b off, A = some ⟨b, off, none⟩ ∧ w.cell? ⟨b, off + k, none⟩ = some (.int .i64 l[k])
theorem Ints.sub {w w' : World} {A : Option Addr} {n c : Nat} {l : List Int} (h : Ints w A n c l) (s : Sub w w') : Ints w' A n c l :=
  ⟨h.1, h.2.1, h.2.2.1, fun k hk => let ⟨b, off, e, hc⟩ := h.2.2.2 k hk; ⟨b, off, e, s _ _ hc⟩⟩
theorem Ints.ext {w w' : World} {A : Option Addr} {n c : Nat} {l : List Int} (h : Ints w A n c l) (s : Ext w w') : Ints w' A n c l := h.sub s.sub
theorem Ints.nil (w : World) (A : Option Addr) (c : Nat) (hc : c ≤ 9223372036854775807) : Ints w A 0 c [] := ⟨rfl, Nat.zero_le _, hc, fun k h => absurd h (Nat.not_lt_zero k)⟩

/-- The slice (A, n, c) holds slices that hold the lists ls. -/
def Rows (w : World) (A : Option Addr) (n c : Nat) (ls : List (List Int)) : Prop :=
  ls.length = n ∧ n ≤ c ∧ c ≤ 9223372036854775807 ∧ ∀ k (h : k < ls.length), ∃ b off, A = some ⟨b, off, none⟩ ∧ ∃ A1 n1 c1, w.cell? ⟨b, off + k, none⟩ = some (.slice A1 n1 c1) ∧ Ints w A1 n1 c1 ls[k]
theorem Rows.sub {w w' : World} {A : Option Addr} {n c : Nat} {ls : List (List Int)} (h : Rows w A n c ls) (s : Sub w w') : Rows w' A n c ls :=
  ⟨h.1, h.2.1, h.2.2.1, fun k hk => let ⟨b, off, e, A1, n1, c1, hc, hi⟩ := h.2.2.2 k hk; ⟨b, off, e, A1, n1, c1, s _ _ hc, hi.sub s⟩⟩
theorem Rows.ext {w w' : World} {A : Option Addr} {n c : Nat} {ls : List (List Int)} (h : Rows w A n c ls) (s : Ext w w') : Rows w' A n c ls := h.sub s.sub
/-- Two slices laid side by side in a new block. -/
theorem Rows.two {w : World} {A1 A2 : Option Addr} {n1 c1 n2 c2 : Nat} {l1 l2 : List Int} (t : TypeId) (h1 : Ints w A1 n1 c1 l1) (h2 : Ints w A2 n2 c2 l2) :
    Rows (w.alloc (.cells #[.slice A1 n1 c1, .slice A2 n2 c2] t)) (some ⟨w.heap.size, 0, none⟩) 2 2 [l1, l2] := by
  have s : Sub w (w.alloc (.cells #[.slice A1 n1 c1, .slice A2 n2 c2] t)) := ((Ext.refl w).alloc _).sub
  refine ⟨rfl, Nat.le_refl _, by omega, fun k hk => ?_⟩
  refine ⟨w.heap.size, 0, rfl, ?_⟩
  match k, hk with
  | 0, _ => exact ⟨A1, n1, c1, by rw [cell_new]; rfl, h1.sub s⟩
  | 1, _ => exact ⟨A2, n2, c2, by rw [cell_new]; rfl, h2.sub s⟩
  | k + 2, h => exact absurd h (by simp)

theorem Ints.at_add {w : World} {ad : Addr} {n c : Nat} {l : List Int} (h : Ints w (some ad) n c l) : ∀ j u, (l.map (Value.int .i64))[j]? = some u → w.cell? (ad.add j) = some u := by
  intro j u hu
  rw [List.getElem?_map] at hu
  cases hj : l[j]? with
  | none => rw [hj] at hu; cases hu
  | some x =>
    rw [hj] at hu
    obtain ⟨hlt, hx⟩ := List.getElem?_eq_some_iff.1 hj
    obtain ⟨b, off, e, hc⟩ := h.2.2.2 j hlt
    cases e
    have hu' : Value.int .i64 x = u := by simpa using hu
    rw [← hu', ← hx, ← hc]
    by_cases h0 : j = 0
    · subst h0; simp [Addr.add]
    · simp [Addr.add, h0]
theorem ints_one (l : List Int) : ∀ u ∈ l.map (Value.int .i64), u.oneCell' = true := by
  intro u hu
  obtain ⟨x, _, rfl⟩ := List.mem_map.1 hu
  rfl
/-- What the call owns reads as the numbers. -/
theorem Ints.of_own {w : World} {base : Nat} {e : TypeId} {A : Option Addr} {n c : Nat} {l : List Int} (h : w.ownsRow base e 1 (.slice A n c) n (l.map (Value.int .i64))) : Ints w A n c l := by
  have hl : l.length = n := by simpa using h.1
  rcases h.2 with ⟨hv, h0⟩ | ⟨g, cap, cur, hv, hg, hh, hnc, hcm, hcs, htake⟩
  · cases hv
    exact ⟨hl, Nat.le_refl _, Nat.zero_le _, fun k hk => by omega⟩
  · cases hv
    refine ⟨hl, hnc, by simpa [maxLen] using hcm, fun k hk => ⟨g, 0, rfl, ?_⟩⟩
    rw [Nat.zero_add, h.cellAt k (by omega), List.getElem?_map, List.getElem?_eq_getElem hk]
    rfl
theorem own_addr {w : World} {base : Nat} {e : TypeId} {size n c : Nat} {A : Option Addr} {xs : List Value} (h : w.ownsRow base e size (.slice A n c) n xs) (hn : 0 < n) : ∃ g, A = some ⟨g, 0, none⟩ ∧ base ≤ g ∧ g < w.heap.size := by
  rcases h.2 with ⟨_, h0⟩ | ⟨g, cap, cur, hv, hg, hh, _⟩
  · omega
  · cases hv
    exact ⟨g, rfl, hg, lt_of_block hh⟩
/-- A row that is owned is of the slice's form. -/
theorem own_form {w : World} {base : Nat} {e : TypeId} {size n : Nat} {v : Value} {xs : List Value} (h : w.ownsRow base e size v n xs) : ∃ A c, v = .slice A n c := by
  rcases h.2 with ⟨hv, h0⟩ | ⟨g, cap, cur, hv, _⟩
  · subst h0; exact ⟨none, 0, hv⟩
  · exact ⟨_, _, hv⟩

theorem all_take_succ {α : Type} {p : α → Bool} {l : List α} {k : Nat} (h : k < l.length) (hp : p l[k] = true) (ha : (l.take k).all p = true) : (l.take (k + 1)).all p = true := by
  rw [List.take_succ_eq_append_getElem h, List.all_append, ha]; simp [hp]
theorem all_false {α : Type} {p : α → Bool} {l : List α} {k : Nat} (h : k < l.length) (hp : p l[k] = false) : l.all p = false := by
  rw [List.all_eq_false]; exact ⟨l[k], List.getElem_mem h, by simp [hp]⟩
theorem all_of_take {α : Type} {p : α → Bool} {l : List α} {k : Nat} (h : l.length ≤ k) (ha : (l.take k).all p = true) : l.all p = true := by
  rwa [List.take_of_length_le h] at ha

/-- A call that leaves the world as it was, or only draws, inside a region that draws. -/
theorem quiet_left {P : Program} {f : FuncId} {args : Array Value} {w : World} {n : Nat} {v : Value}
    (h : Calls P f args (w.drewN n) fun e w' => e = .returned v ∧ w.drewN n = w') : Calls P f args (w.drewN n) fun e w'' => e = .returned v ∧ ∃ m, w'' = w.drewN m :=
  h.mono fun _ _ ⟨he, hm⟩ => ⟨he, n, hm.symm⟩
theorem quiet_draw {P : Program} {f : FuncId} {args : Array Value} {w : World} {n : Nat} {v : Value}
    (h : Calls P f args (w.drewN n) fun e w' => e = .returned v ∧ ∃ m, w' = (w.drewN n).drewN m) : Calls P f args (w.drewN n) fun e w'' => e = .returned v ∧ ∃ m, w'' = w.drewN m :=
  h.mono fun _ _ ⟨he, m, hm⟩ => ⟨he, n + m, by rw [hm, World.drewN_drewN]⟩
end Go.Proofs.YtolbcmniklbnmaaGreatDoor

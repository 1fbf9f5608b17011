/- The walks of session.contains, fits, clock.Zero, slices.Clone at []int. -/
import Derived.Test.YtolbcmniklbnmaaGreatDoorClockB
namespace Go.Proofs.YtolbcmniklbnmaaGreatDoor
open Go Go.RowKit Go.Deep

/-- session.contains -/
def containsC (a b : List Int) : Bool := alike2 a b && insideC b a

theorem contains_any (A B : Option Addr) (n m c d : Nat) (a b : List Int) (w : World) (ha : Ints w A n c a) (hb : Ints w B m d b) :
    Calls Tryz.prog 20 #[.slice A n c, .slice B m d] w fun e w' => e = .returned (.bool (containsC a b)) ∧ Ext w w' := by
  have C := compare_any A B n m c d a b w ha hb
  cases hal : alike2 a b with
  | false =>
    rw [hal] at C
    have C := Lib.hid C
    go_enter Tryz.func20, Tryz.ntmps20
    go_wp2_with (go_at_call 37; refine (C.out).mono ?_; rintro e w' ⟨rfl, hx⟩)
    go_ret
    exact ⟨ret_bool (by simp [containsC, hal]), (by repeat (first | exact Ext.refl _ | with_reducible assumption | refine Ext.drewN ?_ _ | refine Ext.drew ?_ | refine Ext.alloc ?_ _ | (refine Ext.trans ?_ (by with_reducible assumption))))⟩
  | true =>
    have hcmp : cmpC a b = if insideC b a then (if insideC a b then 0 else 2) else (if insideC a b then 1 else 3) := by unfold cmpC; cases insideC a b <;> cases insideC b a <;> rfl
    rw [hal, hcmp] at C
    clear hcmp
    cases h1 : insideC b a <;> cases h2 : insideC a b
    all_goals
      rw [h1, h2] at C
      have C := Lib.hid C
      go_enter Tryz.func20, Tryz.ntmps20
      go_wp2_with (go_at_call 37; refine (C.out).mono ?_; rintro e w' ⟨rfl, hx⟩)
      go_ret
      exact ⟨ret_bool (by simp [containsC, hal, h1]), (by repeat (first | exact Ext.refl _ | with_reducible assumption | refine Ext.drewN ?_ _ | refine Ext.drew ?_ | refine Ext.alloc ?_ _ | (refine Ext.trans ?_ (by with_reducible assumption))))⟩

theorem valid_facts {l : List Int} (h : validC l = true) : 1 ≤ l.length ∧ l.length ≤ 5 ∧ ∀ n ∈ l, 0 ≤ n ∧ n ≤ 1024 := by
  simp [validC, okN] at h
  exact ⟨h.2.1, h.2.2, h.1⟩

/-- session.fits -/
def fitsC (l : List Int) (r : Int) : Bool := decide ((l.length : Int) = r) && validC l

theorem fits_any (A : Option Addr) (n c : Nat) (l : List Int) (r : Int) (w : World) (hr : Ints w A n c l) :
    Calls Tryz.prog 22 #[.slice A n c, .int .i64 r] w fun e w' => e = .returned (.bool (fitsC l r)) ∧ w = w' := by
  have HL := Lib.hid hr.1
  by_cases h : (n : Int) = r
  · subst h
    cases hv : validC l
    all_goals
      go_enter Tryz.func22, Tryz.ntmps22
      go_wp2_with (go_at_call 16; refine (valid_any _ _ _ _ _ hr).mono ?_; rintro e w' ⟨rfl, rfl⟩)
      go_ret
      exact ⟨ret_bool (by simp [fitsC, HL.out, hv]), rfl⟩
  · have h' : ((n : Int) == r) = false := by simpa using h
    go_enter Tryz.func22, Tryz.ntmps22
    go_wp2_with (go_at_call 16; refine (valid_any _ _ _ _ _ hr).mono ?_; rintro e w' ⟨rfl, rfl⟩)
    go_ret
    exact ⟨ret_bool (by simp [fitsC, HL.out, h]), rfl⟩

theorem int_info : (Tryz.prog.info? 3).map (fun i => (i.zero, i.size, i.bytes)) = some (some (.int .i64 0), 1, 8) := by kernel_rfl

/-- clock.Zero at a number out of range. -/
theorem zero_no (r : Int) (w : World) (h : r < 1 ∨ 5 < r) :
    Calls Tryz.prog 15 #[.int .i64 r] w fun e w' => e = .returned (.slice none 0 0) ∧ w = w' := by
  by_cases h1 : r < 1
  · go_enter Tryz.func15, Tryz.ntmps15
    go_wp2
    go_ret
    exact ⟨rfl, rfl⟩
  · have h5 : 5 < r := by omega
    go_enter Tryz.func15, Tryz.ntmps15
    go_wp2
    go_ret
    exact ⟨rfl, rfl⟩

theorem zero_yes (n : Nat) (w : World) (h1 : 1 ≤ n) (h5 : n ≤ 5) :
    Calls Tryz.prog 15 #[.int .i64 n] w fun e w' => ∃ A c, e = .returned (.slice A n c) ∧ w'.ownsRow w.heap.size 3 1 (.slice A n c) n ((List.replicate n (0 : Int)).map (Value.int .i64)) ∧ Ext w w' := by
  have hmk := run_make_row' (P := Tryz.prog) 29 3 (.int .i64 0) 8 Tryz.underlying29 int_info rfl .i64 .i64 n (by omega) (by omega)
  have hr := World.ownsRow_lit (base := w.heap.size) (e := 3) (size := 1) w (madeCells #[.int .i64 0] n) n (Nat.le_refl _) (by unfold maxLen; omega) (by simp [madeCells])
  rw [toList_madeCells_one] at hr
  have HR := Lib.hid hr
  clear hr
  go_enter Tryz.func15, Tryz.ntmps15
  go_wp2
  go_ret
  exact ⟨_, _, rfl, by rw [List.map_replicate]; exact HR.out, (by repeat (first | exact Ext.refl _ | with_reducible assumption | refine Ext.drewN ?_ _ | refine Ext.drew ?_ | refine Ext.alloc ?_ _ | (refine Ext.trans ?_ (by with_reducible assumption))))⟩

theorem clone_any (A : Option Addr) (n c : Nat) (l : List Int) (w : World) (hr : Ints w A n c l) (hn : n ≤ 1000000) :
    Calls Tryz.prog 38 #[.slice A n c] w fun e w' => ∃ A' c', e = .returned (.slice A' n c') ∧ w'.ownsRow w.heap.size 3 1 (.slice A' n c') n (l.map (Value.int .i64)) ∧ Ext w w' := by
  obtain ⟨i0, hi, hz0, hz1, hz2⟩ := info_parts int_info
  have q : ∀ (w : World) (a : Option Addr) (n c n' c' : Nat), (binOp .eql 29 (.slice a n c) (.slice none n' c')).run Tryz.prog w = .ok (.bool a.isNone) w := fun w a n c n' c' => Lib.run_eql_slice_nil w _ _ a n c n' c' Tryz.underlying29
  cases A with
  | none =>
    have hl : l = [] := by
      cases l with
      | nil => rfl
      | cons x r => obtain ⟨b, off, e, _⟩ := hr.2.2.2 0 (by simp); cases e
    have hn0 : n = 0 := by have := hr.1; rw [hl] at this; simpa using this.symm
    subst hl hn0
    go_enter Tryz.func38, Tryz.ntmps38
    go_wp2
    go_ret
    exact ⟨none, 0, rfl, World.ownsRow_nil _ _ _ _, Ext.refl _⟩
  | some ad =>
    have HA := Lib.hid hr.at_add
    have HL := Lib.hid hr.1
    clear hr
    go_enter Tryz.func38, Tryz.ntmps38
    go_wp2_with (at_builtin; refine wpList_append_own _ rfl _ _ 29 rfl w.heap.size 3 i0 (.int .i64 0) 1 8 Tryz.underlying29 hi hz0 hz1 hz2 rfl (by decide) _ _ _ rfl (World.ownsRow_made w #[] 0 (Nat.le_refl _) (Nat.zero_le _) rfl) ad n c (l.map (Value.int .i64)) rfl ?qc1 ?qc2 ?qc3 ?qc4 ?qc5 ?qc6 ?_)
    case qc1 => simp [HL.out]
    case qc2 => exact fun j u hu => (Ext.refl w |>.alloc _).cell (HA.out j u hu)
    case qc3 => exact ints_one l
    case qc4 => unfold maxLen; omega
    case qc5 => omega
    case qc6 => simp
    intro v' w1 hown hgrow hnil
    try simp only [Nat.zero_add, List.nil_append] at hown
    have hx : Ext w w1 := ((Ext.refl w).alloc _).grown hgrow (by intro k hk; simp [Value.ownBlock] at hk; omega)
    obtain ⟨A', c', rfl⟩ := own_form hown
    go_wp2
    go_ret
    exact ⟨A', c', rfl, hown, hx⟩

theorem join1_any (a b : Int) (w : World) : Calls Tryz.prog 40 #[.int .i64 a, .int .i64 b] w fun e w' => e = .returned (.int .i64 (max a b)) ∧ w = w' := by
  go_enter Tryz.func40, Tryz.ntmps40
  go_wp2
  all_goals
    go_ret
    exact ⟨ret_int (by omega), rfl⟩
end Go.Proofs.YtolbcmniklbnmaaGreatDoor

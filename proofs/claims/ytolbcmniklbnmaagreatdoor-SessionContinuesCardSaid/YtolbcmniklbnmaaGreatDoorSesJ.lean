/- The walks of session.Token, Open, Choose and of the reference's Few. -/
import Derived.Test.YtolbcmniklbnmaaGreatDoorParsA
import Derived.Test.YtolbcmniklbnmaaGreatDoorSesC
import Derived.Test.YtolbcmniklbnmaaGreatDoorSesH
namespace Go.Proofs.YtolbcmniklbnmaaGreatDoor
open Go Go.RowKit Go.Deep

theorem token_any (b : Nat) (A : Option Addr) (n c : Nat) (s : List Int) (w : World) (hs : Ses w b A n c s) (ht : Tab w) :
    Calls Tryz.prog 8 #[.pointer (some ⟨b, 0, none⟩)] w fun e w' => e = .returned (.string (formatC s)) ∧ Ext w w' := by
  have hc := hs.cell
  have C := Lib.hid (format_any A n c s w hs.2 ht)
  clear hs
  go_enter Tryz.func8, Tryz.ntmps8
  go_wp2_with fail
  refine (C.out).mono ?_
  rintro en w1 ⟨rfl, hx⟩
  go_wp2
  go_ret
  exact ⟨rfl, hx⟩

theorem open_any (l : List Int) (w : World) (hv : validC l = true) (ht : Tab w) (hm : Len w) :
    Calls Tryz.prog 7 #[.string (str (text l))] w fun en w' => ∃ b A c, en = .returned (.tuple #[.pointer (some ⟨b, 0, none⟩), .int .i64 0]) ∧ w.heap.size ≤ b ∧ Ses w' b A l.length c l ∧ Ext w w' := by
  have C := Lib.hid (parse_any l w hv ht hm)
  clear hv
  go_enter Tryz.func7, Tryz.ntmps7
  go_wp2_with fail
  refine (C.out).mono ?_
  rintro en w1 ⟨A, c, rfl, hi, hx⟩
  go_wp2
  go_ret2
  exact ⟨w1.heap.size, A, c, rfl, hx.size, ⟨heap_alloc_new w1 _, hi.sub (by repeat (first | exact Sub.refl _ | with_reducible assumption | refine Sub.drewN ?_ _ | refine Sub.drew ?_ | refine Sub.alloc ?_ _ | (refine Sub.trans ?_ (by with_reducible assumption))))⟩, (by repeat (first | exact Ext.refl _ | with_reducible assumption | refine Ext.drewN ?_ _ | refine Ext.drew ?_ | refine Ext.alloc ?_ _ | (refine Ext.trans ?_ (by with_reducible assumption))))⟩

/-- Some Boolean value is returned. -/
def SomeBool (e : Ending) : Prop := ∃ v : Bool, e = .returned (.bool v)
theorem SomeBool.of (v : Bool) : SomeBool (.returned (.bool v)) := ⟨v, rfl⟩
/-- Few only reads. -/
theorem few_any (A : Option Addr) (n c : Nat) (l : List SAct) (w : World) (hr : Acts w A n c l) :
    Calls Tryz.prog 5 #[.slice A n c] w fun e w' => SomeBool e ∧ w = w' := by
  obtain ⟨rfl, h1c, h2c, hr⟩ := hr
  have HR := Lib.hid hr
  clear hr
  go_enter Tryz.func5, Tryz.ntmps5
  go_wp2
  go_loop [3] (fun i => ∃ k : Nat, k ≤ l.length ∧ i = .int .i64 k) (fun i => l.length - (intOf i).toNat)
  case atStart => exact ⟨0, Nat.zero_le _, rfl⟩
  case round =>
    obtain ⟨k, hk, rfl⟩ := hrel
    by_cases hlt : k < l.length
    · obtain ⟨b, off, s, rfl, hcell, hin⟩ := HR.out k hlt
      have c1 : w.cell? ⟨b, off + k * 15 + 1, none⟩ = some (.slice s.A s.n s.c) := hcell 1 (.slice s.A s.n s.c) rfl
      have c5 : w.cell? ⟨b, off + k * 15 + 5, none⟩ = some (.slice s.B s.m s.d) := hcell 5 (.slice s.B s.m s.d) rfl
      clear hcell hin
      by_cases h1 : 8 < s.n
      · go_wp2
        go_ret
        exact ⟨SomeBool.of _, rfl⟩
      · by_cases h2 : 8 < s.m
        · go_wp2
          go_ret
          exact ⟨SomeBool.of _, rfl⟩
        · go_wp2
          go_round
          case rel => exact ⟨k + 1, by omega, by go_num⟩
          case measure => simp [intOf]; omega
    · go_wp2
      go_ret
      exact ⟨SomeBool.of _, rfl⟩

set_option maxHeartbeats 1000000 in
theorem index_ready (b : Nat) (A B : Option Addr) (n c m d : Nat) (s : List Int) (ls : List (List Int)) (w : World) (hs : Ses w b A n c s) (hr : Rows w B m d ls) :
    Calls Tryz.prog 29 #[.slice B m d, .func (.func 10) #[.pointer (some ⟨b, 0, none⟩)] #[]] w fun e w' => e = .returned (.int .i64 (idxC (fun l => containsC l s) ls)) ∧ Ext w w' := by
  obtain ⟨rfl, h1c, h2c, hr⟩ := hr
  have HR := Lib.hid hr
  clear hr
  go_enter Tryz.func29, Tryz.ntmps29
  go_wp2
  go_loopw [8] (fun i wr => ∃ k : Nat, k ≤ ls.length ∧ i = .int .i64 k ∧ (ls.take k).any (fun l => containsC l s) = false ∧ Ext w wr) (fun i _ => ls.length - (intOf i).toNat)
  case atStart => exact ⟨0, Nat.zero_le _, rfl, by simp, Ext.refl _⟩
  case round =>
    obtain ⟨k, hk, rfl, hall, hx⟩ := hrel
    have HALL := Lib.hid hall
    clear hall
    by_cases hlt : k < ls.length
    · obtain ⟨b1, off, rfl, A1, n1, c1, hcell, hin⟩ := HR.out k hlt
      have hcell := hx.cell hcell
      have C := Lib.hid (ready_any b A A1 n c n1 c1 s ls[k] wr (hs.ext hx) (hin.ext hx))
      cases hv : containsC ls[k] s with
      | true =>
        have F := Lib.hid (idxC_hit (p := fun l => containsC l s) hlt hv HALL.out)
        go_wp2_with fail
        refine (C.out).mono ?_
        rintro en w1 ⟨rfl, hx1⟩
        go_wp2
        go_ret
        exact ⟨ret_int F.out.symm, hx.trans hx1⟩
      | false =>
        have F := Lib.hid (any_take_succ (p := fun l => containsC l s) hlt hv HALL.out)
        go_wp2_with fail
        refine (C.out).mono ?_
        rintro en w1 ⟨rfl, hx1⟩
        go_wp2
        go_roundw
        case rel => exact ⟨k + 1, by omega, by go_num, F.out, hx.trans hx1⟩
        case measure => simp [intOf]; omega
    · have F := Lib.hid (idxC_miss (any_of_take (by omega) HALL.out))
      go_wp2
      go_ret
      exact ⟨ret_int F.out.symm, hx⟩

theorem choose_any (b : Nat) (A B : Option Addr) (n c m d : Nat) (s : List Int) (ls : List (List Int)) (w : World) (hs : Ses w b A n c s) (hr : Rows w B m d ls) :
    Calls Tryz.prog 14 #[.pointer (some ⟨b, 0, none⟩), .slice B m d] w fun e w' => e = .returned (.int .i64 (idxC (fun l => containsC l s) ls)) ∧ Ext w w' := by
  have C := Lib.hid (index_ready b A B n c m d s ls w hs hr)
  go_enter Tryz.func14, Tryz.ntmps14
  go_wp2_with fail
  refine (C.out).mono ?_
  rintro en w1 ⟨rfl, hx⟩
  go_wp2
  go_ret
  exact ⟨rfl, hx⟩
end Go.Proofs.YtolbcmniklbnmaaGreatDoor

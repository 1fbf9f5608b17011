/- The walks of clock.alike, inside, Compare, and session.contains, fits. -/
import Derived.Test.YtolbcmniklbnmaaGreatDoorClockA
namespace Go.Proofs.YtolbcmniklbnmaaGreatDoor
open Go Go.RowKit

/-- clock.alike -/
def alikeC (ls : List (List Int)) : Bool := ls.all (fun x => validC x && decide (x.length = (ls.headD []).length)) && decide (0 < ls.length)

theorem alike_any (A : Option Addr) (n c : Nat) (ls : List (List Int)) (w : World) (hr : Rows w A n c ls) :
    Calls Tryz.prog 41 #[.slice A n c] w fun e w' => e = .returned (.bool (alikeC ls)) ∧ w = w' := by
  obtain ⟨rfl, h1c, h2c, hr⟩ := hr
  go_enter Tryz.func41, Tryz.ntmps41
  go_wp2
  go_loop [7] (fun i => ∃ k : Nat, k ≤ ls.length ∧ i = .int .i64 k ∧ (ls.take k).all (fun x => validC x && decide (x.length = (ls.headD []).length)) = true) (fun i => ls.length - (intOf i).toNat)
  case atStart => exact ⟨0, Nat.zero_le _, rfl, by simp⟩
  case round =>
    obtain ⟨k, hk, rfl, hall⟩ := hrel
    have H := Lib.hid hall
    clear hall
    by_cases hlt : k < ls.length
    · obtain ⟨b, off, rfl, A1, n1, c1, hc, hi⟩ := hr k hlt
      obtain ⟨b0, off0, e0, A0, n0, c0, hc0, hi0⟩ := hr 0 (by omega)
      cases e0
      rw [Nat.add_zero] at hc0
      clear hr
      have HN := Lib.hid (show (ls.headD []).length = n0 by
        have h := hi0.1
        cases ls with
        | nil => simp at hlt
        | cons x r => simpa using h)
      have HK := Lib.hid hi.1
      cases hv : validC ls[k] with
      | false =>
        have F := Lib.hid (show alikeC ls = false by unfold alikeC; rw [all_false hlt (by simp [hv])]; rfl)
        go_wp2_with (go_at_call 16; refine (valid_any _ _ _ _ _ hi).mono ?_; rintro e w' ⟨rfl, rfl⟩)
        go_ret
        exact ⟨ret_bool F.out.symm, rfl⟩
      | true =>
        by_cases hn : n1 = n0
        · subst hn
          have F := Lib.hid (all_take_succ (p := fun x => validC x && decide (x.length = (ls.headD []).length)) hlt (by simp only [hv, HK.out, HN.out]; simp) H.out)
          go_wp2_with (go_at_call 16; refine (valid_any _ _ _ _ _ hi).mono ?_; rintro e w' ⟨rfl, rfl⟩)
          go_round
          case rel => exact ⟨k + 1, by omega, by go_num, F.out⟩
          case measure => simp [intOf]; omega
        · have F := Lib.hid (show alikeC ls = false by unfold alikeC; rw [all_false hlt (by simp only [hv, HK.out, HN.out]; simp [hn])]; rfl)
          have hn' : ((n1 : Int) == n0) = false := by simp; omega
          go_wp2_with (go_at_call 16; refine (valid_any _ _ _ _ _ hi).mono ?_; rintro e w' ⟨rfl, rfl⟩)
          go_ret
          exact ⟨ret_bool F.out.symm, rfl⟩
    · have F := Lib.hid (show alikeC ls = decide (0 < ls.length) by unfold alikeC; rw [all_of_take (by omega) H.out]; rfl)
      by_cases h1 : 0 < ls.length
      all_goals
        go_wp2
        go_ret
        exact ⟨ret_bool (by rw [F.out]; simp [h1]; try omega), rfl⟩

/-- clock.inside: of two lists of one length -/
def insideC (a b : List Int) : Bool := (a.zip b).all (fun x => decide (x.1 ≤ x.2))

theorem inside_any (A B : Option Addr) (n c d : Nat) (a b : List Int) (w : World) (ha : Ints w A n c a) (hb : Ints w B n d b) :
    Calls Tryz.prog 62 #[.slice A n c, .slice B n d] w fun e w' => e = .returned (.bool (insideC a b)) ∧ ∃ m, w' = w.drewN m := by
  obtain ⟨rfl, h1c, h2c, ha⟩ := ha
  obtain ⟨hlen, h1d, h2d, hb⟩ := hb
  have HL := Lib.hid hlen
  clear hlen
  have HZ := Lib.hid (show (a.zip b).length = a.length by rw [List.length_zip, HL.out, Nat.min_self])
  go_enter Tryz.func62, Tryz.ntmps62
  go_wp2
  go_loopw [8] (fun i wr => ∃ k m : Nat, k ≤ a.length ∧ i = .int .i64 k ∧ wr = w.drewN m ∧ ((a.zip b).take k).all (fun x => decide (x.1 ≤ x.2)) = true) (fun i _ => a.length - (intOf i).toNat)
  case atStart => exact ⟨0, 0, Nat.zero_le _, rfl, rfl, by simp⟩
  case round =>
    obtain ⟨k, m, hk, rfl, rfl, hall⟩ := hrel
    have H := Lib.hid hall
    clear hall
    by_cases hlt : k < a.length
    · have hltb : k < b.length := by rw [HL.out]; exact hlt
      have hltz : k < (a.zip b).length := by rw [HZ.out]; exact hlt
      have HE := Lib.hid (show (a.zip b)[k] = (a[k], b[k]) from List.getElem_zip)
      obtain ⟨b1, off1, rfl, hc1⟩ := ha k hlt
      obtain ⟨b2, off2, rfl, hc2⟩ := hb k hltb
      clear ha hb
      have hkk : (k : Int) < a.length := by omega
      by_cases hle : a[k] ≤ b[k]
      · have F := Lib.hid (all_take_succ (p := fun x => decide (x.1 ≤ x.2)) hltz (by rw [HE.out]; simpa using hle) H.out)
        go_wp2
        go_quiet (fail)
        go_wp2
        go_roundw
        case rel => exact ⟨k + 1, _, by omega, by go_num, rfl, F.out⟩
        case measure => simp [intOf]; omega
      · have F := Lib.hid (show insideC a b = false by unfold insideC; rw [all_false hltz (by rw [HE.out]; simpa using hle)])
        go_wp2
        go_quiet (fail)
        go_wp2
        go_ret
        exact ⟨ret_bool F.out.symm, _, World.drewN_drewN _ _ _⟩
    · have F := Lib.hid (show insideC a b = true from all_of_take (by rw [HZ.out]; omega) H.out)
      go_wp2
      go_ret
      exact ⟨ret_bool F.out.symm, _, rfl⟩

/-- the first result of clock.Compare, of clocks of one length -/
def cmpC (a b : List Int) : Int := if insideC a b then (if insideC b a then 0 else 1) else (if insideC b a then 2 else 3)
def alike2 (a b : List Int) : Bool := alikeC [a, b]
theorem alike2_eq (a b : List Int) : alike2 a b = (validC a && (validC b && decide (b.length = a.length))) := by
  simp [alike2, alikeC]

theorem compare_any (A B : Option Addr) (n m c d : Nat) (a b : List Int) (w : World) (ha : Ints w A n c a) (hb : Ints w B m d b) :
    Calls Tryz.prog 37 #[.slice A n c, .slice B m d] w fun e w' => e = .returned (.tuple #[.int .i64 (if alike2 a b then cmpC a b else 0), .int .i64 (if alike2 a b then 0 else 1)]) ∧ Ext w w' := by
  have h2 := Rows.two 29 ha hb
  cases hal : alike2 a b with
  | false =>
    have hal' : alikeC [a, b] = false := hal
    go_enter Tryz.func37, Tryz.ntmps37
    go_wp2_with (go_at_call 41; refine (alike_any _ _ _ _ _ h2).mono ?_; rintro e w' ⟨rfl, rfl⟩)
    go_ret2
    exact ⟨rfl, (by repeat (first | exact Ext.refl _ | with_reducible assumption | refine Ext.drewN ?_ _ | refine Ext.drew ?_ | refine Ext.alloc ?_ _ | (refine Ext.trans ?_ (by with_reducible assumption))))⟩
  | true =>
    have hal' : alikeC [a, b] = true := hal
    have HN := Lib.hid (show n = m by
      have := alike2_eq a b; rw [hal] at this
      have h1 := ha.1; have h3 := hb.1
      simp at this; omega)
    obtain rfl := HN.out
    have s : ∀ o, Sub w (w.alloc o) := fun o => (by repeat (first | exact Sub.refl _ | with_reducible assumption | refine Sub.drewN ?_ _ | refine Sub.drew ?_ | refine Sub.alloc ?_ _ | (refine Sub.trans ?_ (by with_reducible assumption))))
    have ca := fun o => inside_any A B n c d a b (w.alloc o) (ha.sub (s o)) (hb.sub (s o))
    have cb := fun o k => inside_any B A n d c b a ((w.alloc o).drewN k) (hb.sub (s o)) (ha.sub (s o))
    have CA := Lib.hid ca
    have CB := Lib.hid cb
    clear ca cb
    cases h1 : insideC a b <;> cases h2' : insideC b a
    all_goals
      go_enter Tryz.func37, Tryz.ntmps37
      go_wp2_with (first
        | (go_at_call 41; refine (alike_any _ _ _ _ _ h2).mono ?_; rintro e w' ⟨rfl, rfl⟩)
        | fail)
      refine (CA.out _).mono ?_
      rintro e w' ⟨rfl, k, rfl⟩
      go_wp2_with fail
      refine (CB.out _ _).mono ?_
      rintro e w' ⟨rfl, k2, rfl⟩
      go_wp2
      go_ret2
      exact ⟨by simp [cmpC, h1, h2'], (by repeat (first | exact Ext.refl _ | with_reducible assumption | refine Ext.drewN ?_ _ | refine Ext.drew ?_ | refine Ext.alloc ?_ _ | (refine Ext.trans ?_ (by with_reducible assumption))))⟩
end Go.Proofs.YtolbcmniklbnmaaGreatDoor

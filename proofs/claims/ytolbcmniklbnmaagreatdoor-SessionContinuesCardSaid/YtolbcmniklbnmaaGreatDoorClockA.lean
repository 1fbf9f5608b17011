/- The walks of clock.Valid, alike, inside, Compare, and session.contains, fits. -/
import Derived.Test.YtolbcmniklbnmaaGreatDoorProg
import Derived.Test.YtolbcmniklbnmaaGreatDoorBase
namespace Go.Proofs.YtolbcmniklbnmaaGreatDoor
open Go Go.RowKit

def okN (n : Int) : Bool := decide (0 ≤ n) && decide (n ≤ 1024)
/-- clock.Valid -/
def validC (l : List Int) : Bool := l.all okN && (decide (1 ≤ l.length) && decide (l.length ≤ 5))

theorem okN_of {n : Int} (h1 : 0 ≤ n) (h2 : n ≤ 1024) : okN n = true := by simp [okN, h1, h2]
theorem okN_not {n : Int} (h : ¬ (0 ≤ n ∧ n ≤ 1024)) : okN n = false := by
  simp [okN]; omega

theorem valid_any (A : Option Addr) (n c : Nat) (l : List Int) (w : World) (hr : Ints w A n c l) :
    Calls Tryz.prog 16 #[.slice A n c] w fun e w' => e = .returned (.bool (validC l)) ∧ w = w' := by
  obtain ⟨rfl, h1c, h2c, hr⟩ := hr
  go_enter Tryz.func16, Tryz.ntmps16
  go_wp2
  go_loop [7] (fun i => ∃ k : Nat, k ≤ l.length ∧ i = .int .i64 k ∧ (l.take k).all okN = true) (fun i => l.length - (intOf i).toNat)
  case atStart => exact ⟨0, Nat.zero_le _, rfl, by simp⟩
  case round =>
    obtain ⟨k, hk, rfl, hall⟩ := hrel
    have H := Lib.hid hall
    clear hall
    by_cases hlt : k < l.length
    · obtain ⟨b, off, rfl, hc⟩ := hr k hlt
      clear hr
      by_cases hok : 0 ≤ l[k] ∧ l[k] ≤ 1024
      · have F := Lib.hid (all_take_succ hlt (okN_of hok.1 hok.2) H.out)
        obtain ⟨h1, h2⟩ := hok
        go_wp2
        go_round
        case rel => exact ⟨k + 1, by omega, by go_num, F.out⟩
        case measure => simp [intOf]; omega
      · have F := Lib.hid (show validC l = false by unfold validC; rw [all_false hlt (okN_not hok)]; rfl)
        by_cases h0 : l[k] < 0
        all_goals
          go_wp2
          go_ret
          exact ⟨ret_bool F.out.symm, rfl⟩
    · have F := Lib.hid (show validC l = (decide (1 ≤ l.length) && decide (l.length ≤ 5)) by unfold validC; rw [all_of_take (by omega) H.out]; rfl)
      by_cases h1 : 1 ≤ l.length
      · by_cases h5 : l.length ≤ 5
        all_goals
          go_wp2
          go_ret
          exact ⟨ret_bool (by rw [F.out]; simp [h1, h5]; try omega), rfl⟩
      · go_wp2
        go_ret
        exact ⟨ret_bool (by rw [F.out]; simp [h1]), rfl⟩
end Go.Proofs.YtolbcmniklbnmaaGreatDoor

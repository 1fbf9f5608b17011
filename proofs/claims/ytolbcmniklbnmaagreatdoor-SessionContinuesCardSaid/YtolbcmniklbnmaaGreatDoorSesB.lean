/- The walks of session.Read, Acknowledge, Wrote. -/
import Derived.Test.YtolbcmniklbnmaaGreatDoorSesA
namespace Go.Proofs.YtolbcmniklbnmaaGreatDoor
open Go Go.RowKit Go.Deep

/-- What session.Read answers, and the clock behind it. -/
def readC (s l : List Int) : Int × List Int := if fitsC l s.length then (if containsC l s then (0, joinC [s, l]) else (9, s)) else (1, s)

set_option maxRecDepth 100000 in
set_option maxHeartbeats 1000000 in
theorem read_any (b : Nat) (A B : Option Addr) (n c m d : Nat) (s l : List Int) (w : World) (hs : Ses w b A n c s) (hl : Ints w B m d l) :
    Calls Tryz.prog 11 #[.pointer (some ⟨b, 0, none⟩), .slice B m d] w fun en w' => en = .returned (.int .i64 (readC s l).1) ∧ (∃ A' n' c', Ses w' b A' n' c' (readC s l).2) ∧ But b w w' := by
  have hc := hs.cell
  have hn := hs.2.1
  have CF := fits_any B m d l n w hl
  have CR := Lib.hid (ready_any b A B n c m d s l w hs hl)
  cases hf : fitsC l n with
  | false =>
    have F := Lib.hid (show readC s l = (1, s) by simp [readC, hn, hf])
    rw [hf] at CF
    have CF := Lib.hid CF
    have HS := Lib.hid hs
    clear hs hl hn
    go_enter Tryz.func11, Tryz.ntmps11
    go_wp2_with fail
    refine (CF.out).mono ?_
    rintro en w1 ⟨rfl, rfl⟩
    go_wp2
    go_ret
    rw [F.out]
    exact ⟨rfl, ⟨A, n, c, HS.out⟩, But.refl _ _⟩
  | true =>
    rw [hf] at CF
    have CF := Lib.hid CF
    cases hk : containsC l s with
    | false =>
      have F := Lib.hid (show readC s l = (9, s) by simp [readC, hn, hf, hk])
      have HS := Lib.hid hs
      clear hs hl hn
      go_enter Tryz.func11, Tryz.ntmps11
      go_wp2_with fail
      refine (CF.out).mono ?_
      rintro en w1 ⟨rfl, rfl⟩
      go_wp2_with fail
      refine (CR.out).mono ?_
      rintro en w1 ⟨rfl, hx⟩
      go_wp2
      go_ret
      rw [F.out]
      exact ⟨rfl, ⟨A, n, c, HS.out.ext hx⟩, But.of_ext hx⟩
    | true =>
      have F := Lib.hid (show readC s l = (0, joinC [s, l]) by simp [readC, hn, hf, hk])
      have HS := Lib.hid hs
      have HL := Lib.hid hl
      clear hs hl hn
      go_enter Tryz.func11, Tryz.ntmps11
      go_wp2_with fail
      refine (CF.out).mono ?_
      rintro en w1 ⟨rfl, rfl⟩
      go_wp2_with fail
      refine (CR.out).mono ?_
      rintro en w1 ⟨rfl, hx⟩
      have hc1 := hx.cell hc
      clear hc
      go_wp2_with fail
      refine (join_any _ 2 2 [s, l] _ (Rows.two 29 (HS.out.2.ext hx) (HL.out.ext hx))).mono ?_
      rintro en w2 ⟨A', n', c', rfl, hown, hx2⟩
      have hx3 : Ext w1 w2 := ((Ext.refl w1).alloc _).trans hx2
      have hs2 := (HS.out.ext hx).ext hx3
      have hc2 := hs2.cell
      have hf2 := block_free hs2.1 0
      have hi := Ints.of_own hown
      have HB : But b w (w2.setCell ⟨b, 0, none⟩ (.slice A' n' c')) := ((But.of_ext hx).ext hx3).set 0 _
      have HS2 : Ses (w2.setCell ⟨b, 0, none⟩ (.slice A' n' c')) b A' n' c' (joinC [s, l]) := ⟨block_set hs2.1 0 _, hi.but hs2.1 ((But.refl b w2).set 0 _)⟩
      have HB' := Lib.hid HB
      have HS' := Lib.hid HS2
      clear hc1 hx hx2 hx3 hown hs2 hi HB HS2
      go_wp2
      go_ret
      rw [F.out]
      exact ⟨rfl, ⟨A', n', c', HS'.out⟩, HB'.out⟩
end Go.Proofs.YtolbcmniklbnmaaGreatDoor

/- The walks of slices.IndexFunc and ContainsFunc over acts, with session.Check's function. -/
import Derived.Test.YtolbcmniklbnmaaGreatDoorSesG
namespace Go.Proofs.YtolbcmniklbnmaaGreatDoor
open Go Go.RowKit Go.Deep

/-- The slice (A, n, c) holds the acts l. -/
def Acts (w : World) (A : Option Addr) (n c : Nat) (l : List SAct) : Prop :=
  l.length = n ∧ n ≤ c ∧ c ≤ 9223372036854775807 ∧ ∀ k (h : k < l.length), ∃ b off s, A = some ⟨b, off, none⟩ ∧ (∀ j v, (l[k].cells s)[j]? = some v → w.cell? ⟨b, off + k * 15 + j, none⟩ = some v) ∧ l[k].In w s
theorem Acts.sub {w w' : World} {A : Option Addr} {n c : Nat} {l : List SAct} (h : Acts w A n c l) (k : Sub w w') : Acts w' A n c l :=
  ⟨h.1, h.2.1, h.2.2.1, fun i hi => let ⟨b, off, s, e, hc, hin⟩ := h.2.2.2 i hi; ⟨b, off, s, e, fun j v hv => k _ _ (hc j v hv), hin.sub k⟩⟩
theorem Acts.ext {w w' : World} {A : Option Addr} {n c : Nat} {l : List SAct} (h : Acts w A n c l) (k : Ext w w') : Acts w' A n c l := h.sub k.sub
theorem Acts.take {w : World} {A : Option Addr} {n c k : Nat} {l : List SAct} (h : Acts w A n c l) (hk : k ≤ n) : Acts w A k c (l.take k) :=
  ⟨by rw [List.length_take, h.1]; omega, Nat.le_trans hk h.2.1, h.2.2.1, fun i hi => by
    have hi' : i < l.length := by rw [List.length_take] at hi; omega
    obtain ⟨b, off, s, e, hc, hin⟩ := h.2.2.2 i hi'
    rw [List.getElem_take]
    exact ⟨b, off, s, e, hc, hin⟩⟩

set_option maxRecDepth 100000 in
set_option maxHeartbeats 1000000 in
theorem index_acts (gb ab : Nat) (p : SAct → Bool) (A : Option Addr) (n c : Nat) (l : List SAct) (w : World) (hr : Acts w A n c l)
    (H : ∀ (b : SAct) (t : Sls) (W : World), Ext w W → b.In W t → Calls Tryz.prog 28 #[.agg (b.cells t), .pointer (some ⟨gb, 0, none⟩), .pointer (some ⟨ab, 0, none⟩)] W fun en w' => en = .returned (.bool (p b)) ∧ Ext W w') :
    Calls Tryz.prog 49 #[.slice A n c, .func (.func 28) #[] #[.pointer (some ⟨gb, 0, none⟩), .pointer (some ⟨ab, 0, none⟩)]] w fun e w' => e = .returned (.int .i64 (idxC p l)) ∧ Ext w w' := by
  obtain ⟨rfl, h1c, h2c, hr⟩ := hr
  have HC := Lib.hid H
  have HR := Lib.hid hr
  clear H hr
  go_enter Tryz.func49, Tryz.ntmps49
  go_wp2
  go_loopw [8] (fun i wr => ∃ k : Nat, k ≤ l.length ∧ i = .int .i64 k ∧ (l.take k).any p = false ∧ Ext w wr) (fun i _ => l.length - (intOf i).toNat)
  case atStart => exact ⟨0, Nat.zero_le _, rfl, by simp, Ext.refl _⟩
  case round =>
    obtain ⟨k, hk, rfl, hall, hx⟩ := hrel
    have HALL := Lib.hid hall
    clear hall
    by_cases hlt : k < l.length
    · obtain ⟨b, off, s, rfl, hcell, hin⟩ := HR.out k hlt
      have c0 : wr.cell? ⟨b, off + k * 15, none⟩ = some (.bool l[k].write) := hx.cell (hcell 0 (.bool l[k].write) rfl)
      have c1 : wr.cell? ⟨b, off + k * 15 + 1, none⟩ = some (.slice s.A s.n s.c) := hx.cell (hcell 1 (.slice s.A s.n s.c) rfl)
      have c2 : wr.cell? ⟨b, off + k * 15 + 2, none⟩ = some (.int .i64 l[k].event.replica) := hx.cell (hcell 2 (.int .i64 l[k].event.replica) rfl)
      have c3 : wr.cell? ⟨b, off + k * 15 + 3, none⟩ = some (.int .i64 l[k].event.number) := hx.cell (hcell 3 (.int .i64 l[k].event.number) rfl)
      have c4 : wr.cell? ⟨b, off + k * 15 + 4, none⟩ = some (.int .i64 l[k].event.time) := hx.cell (hcell 4 (.int .i64 l[k].event.time) rfl)
      have c5 : wr.cell? ⟨b, off + k * 15 + 5, none⟩ = some (.slice s.B s.m s.d) := hx.cell (hcell 5 (.slice s.B s.m s.d) rfl)
      have c6 : wr.cell? ⟨b, off + k * 15 + 6, none⟩ = some (.int .i64 l[k].event.kind) := hx.cell (hcell 6 (.int .i64 l[k].event.kind) rfl)
      have c7 : wr.cell? ⟨b, off + k * 15 + 7, none⟩ = some (.int .i64 l[k].event.action) := hx.cell (hcell 7 (.int .i64 l[k].event.action) rfl)
      have c8 : wr.cell? ⟨b, off + k * 15 + 8, none⟩ = some (.int .i64 l[k].event.gkind) := hx.cell (hcell 8 (.int .i64 l[k].event.gkind) rfl)
      have c9 : wr.cell? ⟨b, off + k * 15 + 9, none⟩ = some (.int .i64 l[k].event.gindex) := hx.cell (hcell 9 (.int .i64 l[k].event.gindex) rfl)
      have c10 : wr.cell? ⟨b, off + k * 15 + 10, none⟩ = some (.int .i64 l[k].event.gelement) := hx.cell (hcell 10 (.int .i64 l[k].event.gelement) rfl)
      have c11 : wr.cell? ⟨b, off + k * 15 + 11, none⟩ = some (.int .i64 l[k].event.gamount) := hx.cell (hcell 11 (.int .i64 l[k].event.gamount) rfl)
      have c12 : wr.cell? ⟨b, off + k * 15 + 12, none⟩ = some (.int .i64 l[k].event.to) := hx.cell (hcell 12 (.int .i64 l[k].event.to) rfl)
      have c13 : wr.cell? ⟨b, off + k * 15 + 13, none⟩ = some (.int .i64 l[k].event.place) := hx.cell (hcell 13 (.int .i64 l[k].event.place) rfl)
      have c14 : wr.cell? ⟨b, off + k * 15 + 14, none⟩ = some (.int .i64 l[k].event.serial) := hx.cell (hcell 14 (.int .i64 l[k].event.serial) rfl)
      have C := Lib.hid (HC.out l[k] s wr hx (hin.ext hx))
      clear hcell hin
      cases hv : p l[k] with
      | true =>
        have F := Lib.hid (idxC_hit hlt hv HALL.out)
        go_wp2_with fail
        refine (C.out).mono ?_
        rintro en w1 ⟨rfl, hx1⟩
        clear c0 c1 c2 c3 c4 c5 c6 c7 c8 c9 c10 c11 c12 c13 c14
        go_wp2
        go_ret
        exact ⟨ret_int F.out.symm, hx.trans hx1⟩
      | false =>
        have F := Lib.hid (any_take_succ hlt hv HALL.out)
        go_wp2_with fail
        refine (C.out).mono ?_
        rintro en w1 ⟨rfl, hx1⟩
        clear c0 c1 c2 c3 c4 c5 c6 c7 c8 c9 c10 c11 c12 c13 c14
        go_wp2
        go_roundw
        case rel => exact ⟨k + 1, by omega, by go_num, F.out, hx.trans hx1⟩
        case measure => simp [intOf]; omega
    · have F := Lib.hid (idxC_miss (any_of_take (by omega) HALL.out))
      go_wp2
      go_ret
      exact ⟨ret_int F.out.symm, hx⟩

set_option maxRecDepth 100000 in
theorem contains_acts (gb ab : Nat) (p : SAct → Bool) (A : Option Addr) (n c : Nat) (l : List SAct) (w : World) (hr : Acts w A n c l)
    (H : ∀ (b : SAct) (t : Sls) (W : World), Ext w W → b.In W t → Calls Tryz.prog 28 #[.agg (b.cells t), .pointer (some ⟨gb, 0, none⟩), .pointer (some ⟨ab, 0, none⟩)] W fun en w' => en = .returned (.bool (p b)) ∧ Ext W w') :
    Calls Tryz.prog 27 #[.slice A n c, .func (.func 28) #[] #[.pointer (some ⟨gb, 0, none⟩), .pointer (some ⟨ab, 0, none⟩)]] w fun e w' => e = .returned (.bool (l.any p)) ∧ Ext w w' := by
  have C := Lib.hid (index_acts gb ab p A n c l w hr H)
  have F := Lib.hid (idxC_any p l)
  clear H
  go_enter Tryz.func27, Tryz.ntmps27
  go_wp2_with fail
  refine (C.out).mono ?_
  rintro en w1 ⟨rfl, hx1⟩
  go_wp2
  go_ret
  exact ⟨ret_bool F.out, hx1⟩
end Go.Proofs.YtolbcmniklbnmaaGreatDoor

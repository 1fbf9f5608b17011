/- The walk of the law. -/
import Derived.Test.YtolbcmniklbnmaaGreatDoorSesL
import Derived.Test.YtolbcmniklbnmaaGreatDoorSesV
namespace Go.Proofs.YtolbcmniklbnmaaGreatDoor
open Go Go.RowKit Go.Deep

set_option maxRecDepth 100000 in
set_option maxHeartbeats 4000000 in
theorem cont_any (r x : Int) (A : Option Addr) (n c : Nat) (l : List SAct) (w : World) (hxl : 0 ≤ x) (hxu : x ≤ 255) (hr : Acts w A n c l) (ht : Tab w) (hm : Len w) :
    Calls Tryz.prog 3 #[.int .i64 r, .slice A n c, .int .u8 x] w fun e w' => e = .returned (.bool true) ∧ Ext w w' := by
  have C1 := Lib.hid (awake_any w ht)
  have CF := Lib.hid (fun (W : World) (h : Ext w W) => few_any A n c l W (hr.ext h))
  by_cases hbad : r < 1 ∨ 5 < r
  · have CN := Lib.hid (fun W => new_no r W hbad)
    clear hr hbad
    go_enter Tryz.func3, Tryz.ntmps3
    go_wp2_with fail
    refine (C1.out).mono ?_
    rintro en w1 ⟨rfl, hx1⟩
    go_wp2_with fail
    refine (CF.out _ hx1).mono ?_
    rintro en w2 ⟨⟨v, rfl⟩, rfl⟩
    cases v with
    | false =>
      go_wp2
      go_ret
      exact ⟨rfl, hx1⟩
    | true =>
      go_wp2_with fail
      refine (CN.out _).mono ?_
      rintro en w2 ⟨rfl, hx2⟩
      go_wp2_with fail
      refine (CN.out _).mono ?_
      rintro en w3 ⟨rfl, hx3⟩
      go_wp2
      go_ret
      exact ⟨rfl, hx1.trans (hx2.trans hx3)⟩
  · obtain ⟨k0, rfl⟩ := Int.eq_ofNat_of_zero_le (show 0 ≤ r by omega)
    have CN := Lib.hid (fun W => new_yes k0 W (by omega) (by omega))
    have HV := Lib.hid (validC_zero (n := k0) (by omega) (by omega))
    obtain ⟨rfl, h1c, h2c, hr⟩ := hr
    have HR := Lib.hid hr
    clear hr hbad
    go_enter Tryz.func3, Tryz.ntmps3
    go_wp2_with fail
    refine (C1.out).mono ?_
    rintro en w1 ⟨rfl, hx1⟩
    go_wp2_with fail
    refine (CF.out _ hx1).mono ?_
    rintro en w2 ⟨⟨v, rfl⟩, rfl⟩
    cases v with
    | false =>
      go_wp2
      go_ret
      exact ⟨rfl, hx1⟩
    | true =>
      go_wp2_with fail
      refine (CN.out _).mono ?_
      rintro en w2 ⟨ba, Aa, ca, rfl, hba, hsa, hx2⟩
      go_wp2_with fail
      refine (CN.out _).mono ?_
      rintro en w3 ⟨bb, Ab, cb, rfl, hbb, hsb, hx3⟩
      have hlb : w.heap.size ≤ bb := Nat.le_trans (hx1.trans hx2).size hbb
      have hla : w.heap.size ≤ ba := Nat.le_trans hx1.size hba
      have hne : ba ≠ bb := by have := lt_of_block hsa.1; omega
      have hx03 : Ext w w3 := hx1.trans (hx2.trans hx3)
      have hsa := hsa.ext hx3
      clear CN C1 CF hx1 hx2 hx3 hba hbb
      have h0 : ∃ (ba : Nat) (Aa : Option Addr) (na ca : Nat) (Ab : Option Addr) (nb cb : Nat) (s : List Int), Value.pointer (some ⟨ba, 0, none⟩) = Value.pointer (some ⟨ba, 0, none⟩) ∧ Ses w3 ba Aa na ca s ∧ Ses w3 bb Ab nb cb s ∧ ba ≠ bb ∧ w.heap.size ≤ ba ∧ validC s = true ∧ Ext w w3 := ⟨ba, Aa, k0, ca, Ab, k0, cb, _, rfl, hsa, hsb, hne, hla, HV.out, hx03⟩
      go_wp2_with fail
      go_loopw [7, 54] (fun v i wr => ∃ k : Nat, k ≤ l.length ∧ i = .int .i64 k ∧ ∃ (ba : Nat) (Aa : Option Addr) (na ca : Nat) (Ab : Option Addr) (nb cb : Nat) (s : List Int), v = Value.pointer (some ⟨ba, 0, none⟩) ∧ Ses wr ba Aa na ca s ∧ Ses wr bb Ab nb cb s ∧ ba ≠ bb ∧ w.heap.size ≤ ba ∧ validC s = true ∧ Ext w wr) (fun _ i _ => l.length - (intOf i).toNat)
      case atStart => exact ⟨0, Nat.zero_le _, rfl, ba, Aa, k0, ca, Ab, k0, cb, _, rfl, hsa, hsb, hne, hla, HV.out, hx03⟩
      case round =>
        clear h0 hx03 hsa hsb hne hla HV
        obtain ⟨k, hk, rfl, ba, Aa, na, ca, Ab, nb, cb, s, rfl, hsa, hsb, hne, hla, hv, hxr⟩ := hrel
        by_cases hlt : k < l.length
        · obtain ⟨b, off, sl, rfl, hcell, hin⟩ := HR.out k hlt
          have c0 : wr.cell? ⟨b, off + k * 15, none⟩ = some (.bool l[k].write) := hxr.cell (hcell 0 (.bool l[k].write) rfl)
          have c1 : wr.cell? ⟨b, off + k * 15 + 1, none⟩ = some (.slice sl.A sl.n sl.c) := hxr.cell (hcell 1 (.slice sl.A sl.n sl.c) rfl)
          have c2 : wr.cell? ⟨b, off + k * 15 + 2, none⟩ = some (.int .i64 l[k].event.replica) := hxr.cell (hcell 2 (.int .i64 l[k].event.replica) rfl)
          have c3 : wr.cell? ⟨b, off + k * 15 + 3, none⟩ = some (.int .i64 l[k].event.number) := hxr.cell (hcell 3 (.int .i64 l[k].event.number) rfl)
          have c4 : wr.cell? ⟨b, off + k * 15 + 4, none⟩ = some (.int .i64 l[k].event.time) := hxr.cell (hcell 4 (.int .i64 l[k].event.time) rfl)
          have c5 : wr.cell? ⟨b, off + k * 15 + 5, none⟩ = some (.slice sl.B sl.m sl.d) := hxr.cell (hcell 5 (.slice sl.B sl.m sl.d) rfl)
          have c6 : wr.cell? ⟨b, off + k * 15 + 6, none⟩ = some (.int .i64 l[k].event.kind) := hxr.cell (hcell 6 (.int .i64 l[k].event.kind) rfl)
          have c7 : wr.cell? ⟨b, off + k * 15 + 7, none⟩ = some (.int .i64 l[k].event.action) := hxr.cell (hcell 7 (.int .i64 l[k].event.action) rfl)
          have c8 : wr.cell? ⟨b, off + k * 15 + 8, none⟩ = some (.int .i64 l[k].event.gkind) := hxr.cell (hcell 8 (.int .i64 l[k].event.gkind) rfl)
          have c9 : wr.cell? ⟨b, off + k * 15 + 9, none⟩ = some (.int .i64 l[k].event.gindex) := hxr.cell (hcell 9 (.int .i64 l[k].event.gindex) rfl)
          have c10 : wr.cell? ⟨b, off + k * 15 + 10, none⟩ = some (.int .i64 l[k].event.gelement) := hxr.cell (hcell 10 (.int .i64 l[k].event.gelement) rfl)
          have c11 : wr.cell? ⟨b, off + k * 15 + 11, none⟩ = some (.int .i64 l[k].event.gamount) := hxr.cell (hcell 11 (.int .i64 l[k].event.gamount) rfl)
          have c12 : wr.cell? ⟨b, off + k * 15 + 12, none⟩ = some (.int .i64 l[k].event.to) := hxr.cell (hcell 12 (.int .i64 l[k].event.to) rfl)
          have c13 : wr.cell? ⟨b, off + k * 15 + 13, none⟩ = some (.int .i64 l[k].event.place) := hxr.cell (hcell 13 (.int .i64 l[k].event.place) rfl)
          have c14 : wr.cell? ⟨b, off + k * 15 + 14, none⟩ = some (.int .i64 l[k].event.serial) := hxr.cell (hcell 14 (.int .i64 l[k].event.serial) rfl)
          clear hcell
          have hbox : ∀ i v, (l[k].cells sl)[i]? = some v → (wr.alloc (.cells (l[k].cells sl) 37)).cell? ⟨wr.heap.size, i, none⟩ = some v := fun i v h => (cell_new wr (l[k].cells sl) 37 i).trans h
          have HBX := Lib.hid hbox
          clear hbox
          go_upto_if 63 with fail
          go_cut [7, 13, 14] from 63 to 76 (fun s7 _s13 _s14 wc => ∃ (ba : Nat) (Aa : Option Addr) (na ca : Nat) (Ab : Option Addr) (nb cb : Nat), s7 = Value.pointer (some ⟨ba, 0, none⟩) ∧ Ses wc ba Aa na ca s ∧ Ses wc bb Ab nb cb s ∧ ba ≠ bb ∧ w.heap.size ≤ ba ∧ ba ≠ wr.heap.size ∧ Ext wr wc ∧ (∀ i v, (l[k].cells sl)[i]? = some v → wc.cell? ⟨wr.heap.size, i, none⟩ = some v))
          case first =>
            clear c0 c1 c2 c3 c4 c5 c6 c7 c8 c9 c10 c11 c12 c13 c14
            have hxa : Ext wr (wr.alloc (.cells (l[k].cells sl) 37)) := (by repeat (first | exact Ext.refl _ | with_reducible assumption | refine Ext.drewN ?_ _ | refine Ext.drew ?_ | refine Ext.alloc ?_ _ | (refine Ext.trans ?_ (by with_reducible assumption))))
            have CA := Lib.hid (token_any ba Aa na ca s _ (hsa.ext hxa) (ht.ext (hxr.trans hxa)))
            go_wp2_with fail
            · refine (CA.out).mono ?_
              rintro en w4 ⟨rfl, hx4⟩
              rw [show formatC s = str (text s) by simp [formatC, hv]]
              have hx4r := hxa.trans hx4
              have CO := Lib.hid (open_any s w4 hv (ht.ext (hxr.trans hx4r)) (hm.ext (hxr.trans hx4r)))
              go_wp2_with fail
              refine (CO.out).mono ?_
              rintro en w5 ⟨bc, Ac, cc, rfl, hbc, hsc, hx5⟩
              have hx5r := hx4r.trans hx5
              have hbcr : wr.heap.size ≤ bc := Nat.le_trans hx4r.size hbc
              have hbbl := lt_of_block hsb.1
              have hbcw := Nat.le_trans hxr.size hbcr
              go_wp2_with fail
              go_meet
              case rel => exact ⟨bc, Ac, _, cc, Ab, nb, cb, rfl, hsc, hsb.ext hx5r, by omega, hbcw, by have := hx4.size; rw [World.size_alloc] at this; omega, hx5r, fun i v h => (hx4.trans hx5).cell (HBX.out i v h)⟩
            · go_meet
              case rel => exact ⟨ba, Aa, na, ca, Ab, nb, cb, rfl, hsa.ext hxa, hsb.ext hxa, hne, hla, Nat.ne_of_lt (lt_of_block hsa.1), hxa, HBX.out⟩
          case rest =>
            have hbb : bb ≠ wr.heap.size := Nat.ne_of_lt (lt_of_block hsb.1)
            clear c0 c1 c2 c3 c4 c5 c6 c7 c8 c9 c10 c11 c12 c13 c14 hsa hsb hne hla HBX
            obtain ⟨ba, Aa, na, ca, Ab, nb, cb, rfl, hsa, hsb, hne, hla, hbal, hxc, hbx⟩ := hcut
            have hxwc := hxr.trans hxc
            have hin2 : Ints wc sl.B sl.m sl.d l[k].event.past := hin.2.ext hxwc
            have hin1 : Ints wc sl.A sl.n sl.c l[k].clock := hin.1.ext hxwc
            have c0 : wc.cell? ⟨wr.heap.size, 0, none⟩ = some (.bool l[k].write) := hbx 0 (.bool l[k].write) rfl
            have c1 : wc.cell? ⟨wr.heap.size, 1, none⟩ = some (.slice sl.A sl.n sl.c) := hbx 1 (.slice sl.A sl.n sl.c) rfl
            have c2 : wc.cell? ⟨wr.heap.size, 2, none⟩ = some (.int .i64 l[k].event.replica) := hbx 2 (.int .i64 l[k].event.replica) rfl
            have c3 : wc.cell? ⟨wr.heap.size, 3, none⟩ = some (.int .i64 l[k].event.number) := hbx 3 (.int .i64 l[k].event.number) rfl
            have c4 : wc.cell? ⟨wr.heap.size, 4, none⟩ = some (.int .i64 l[k].event.time) := hbx 4 (.int .i64 l[k].event.time) rfl
            have c5 : wc.cell? ⟨wr.heap.size, 5, none⟩ = some (.slice sl.B sl.m sl.d) := hbx 5 (.slice sl.B sl.m sl.d) rfl
            have c6 : wc.cell? ⟨wr.heap.size, 6, none⟩ = some (.int .i64 l[k].event.kind) := hbx 6 (.int .i64 l[k].event.kind) rfl
            have c7 : wc.cell? ⟨wr.heap.size, 7, none⟩ = some (.int .i64 l[k].event.action) := hbx 7 (.int .i64 l[k].event.action) rfl
            have c8 : wc.cell? ⟨wr.heap.size, 8, none⟩ = some (.int .i64 l[k].event.gkind) := hbx 8 (.int .i64 l[k].event.gkind) rfl
            have c9 : wc.cell? ⟨wr.heap.size, 9, none⟩ = some (.int .i64 l[k].event.gindex) := hbx 9 (.int .i64 l[k].event.gindex) rfl
            have c10 : wc.cell? ⟨wr.heap.size, 10, none⟩ = some (.int .i64 l[k].event.gelement) := hbx 10 (.int .i64 l[k].event.gelement) rfl
            have c11 : wc.cell? ⟨wr.heap.size, 11, none⟩ = some (.int .i64 l[k].event.gamount) := hbx 11 (.int .i64 l[k].event.gamount) rfl
            have c12 : wc.cell? ⟨wr.heap.size, 12, none⟩ = some (.int .i64 l[k].event.to) := hbx 12 (.int .i64 l[k].event.to) rfl
            have c13 : wc.cell? ⟨wr.heap.size, 13, none⟩ = some (.int .i64 l[k].event.place) := hbx 13 (.int .i64 l[k].event.place) rfl
            have c14 : wc.cell? ⟨wr.heap.size, 14, none⟩ = some (.int .i64 l[k].event.serial) := hbx 14 (.int .i64 l[k].event.serial) rfl
            clear hbx hin
            cases hwv : l[k].write with
            | true =>
              rw [hwv] at c0
              have hvs := wrote_valid (e := l[k].event) hv
              have CA := Lib.hid (show ∀ W, Ext wc W → Calls Tryz.prog 9 #[.pointer (some ⟨ba, 0, none⟩), .agg #[.int .i64 l[k].event.replica, .int .i64 l[k].event.number, .int .i64 l[k].event.time, .slice sl.B sl.m sl.d, .int .i64 l[k].event.kind, .int .i64 l[k].event.action, .int .i64 l[k].event.gkind, .int .i64 l[k].event.gindex, .int .i64 l[k].event.gelement, .int .i64 l[k].event.gamount, .int .i64 l[k].event.to, .int .i64 l[k].event.place, .int .i64 l[k].event.serial]] W (fun en w' => en = .returned (.int .i64 (wroteC s l[k].event).1) ∧ (∃ A' n' c', Ses w' ba A' n' c' (wroteC s l[k].event).2) ∧ But ba wc w') from fun W h => (wrote_any ba Aa sl.B na ca sl.m sl.d s l[k].event W (hsa.ext h) (hin2.ext h)).mono fun en w' H => ⟨H.1, H.2.1, (But.of_ext h).trans H.2.2⟩)
              have CB := Lib.hid (show ∀ W, But ba wc W → Calls Tryz.prog 9 #[.pointer (some ⟨bb, 0, none⟩), .agg #[.int .i64 l[k].event.replica, .int .i64 l[k].event.number, .int .i64 l[k].event.time, .slice sl.B sl.m sl.d, .int .i64 l[k].event.kind, .int .i64 l[k].event.action, .int .i64 l[k].event.gkind, .int .i64 l[k].event.gindex, .int .i64 l[k].event.gelement, .int .i64 l[k].event.gamount, .int .i64 l[k].event.to, .int .i64 l[k].event.place, .int .i64 l[k].event.serial]] W (fun en w' => en = .returned (.int .i64 (wroteC s l[k].event).1) ∧ (∃ A' n' c', Ses w' bb A' n' c' (wroteC s l[k].event).2) ∧ But bb W w') from fun W h => wrote_any bb Ab sl.B nb cb sl.m sl.d s l[k].event W (hsb.but hsa hne.symm h) (hin2.but hsa.1 h))
              have Q2 := Lib.hid c2
              have Q3 := Lib.hid c3
              have Q4 := Lib.hid c4
              have Q5 := Lib.hid c5
              have Q6 := Lib.hid c6
              have Q7 := Lib.hid c7
              have Q8 := Lib.hid c8
              have Q9 := Lib.hid c9
              have Q10 := Lib.hid c10
              have Q11 := Lib.hid c11
              have Q12 := Lib.hid c12
              have Q13 := Lib.hid c13
              have Q14 := Lib.hid c14
              have N1 := Lib.hid (show wr.heap.size ≠ ba from fun e => hbal e.symm)
              have N2 := Lib.hid (show wr.heap.size ≠ bb from fun e => hbb e.symm)
              have HSA := Lib.hid hsa
              have HSB := Lib.hid hsb
              clear hin2 hin1 c1 hsa hsb hbal hbb
              go_wp2_with fail
              go_region_held3 (fun w' => w'.cell? ⟨wr.heap.size, 2, none⟩ = some (.int .i64 l[k].event.replica) ∧ w'.cell? ⟨wr.heap.size, 3, none⟩ = some (.int .i64 l[k].event.number) ∧ w'.cell? ⟨wr.heap.size, 4, none⟩ = some (.int .i64 l[k].event.time) ∧ w'.cell? ⟨wr.heap.size, 5, none⟩ = some (.slice sl.B sl.m sl.d) ∧ w'.cell? ⟨wr.heap.size, 6, none⟩ = some (.int .i64 l[k].event.kind) ∧ w'.cell? ⟨wr.heap.size, 7, none⟩ = some (.int .i64 l[k].event.action) ∧ w'.cell? ⟨wr.heap.size, 8, none⟩ = some (.int .i64 l[k].event.gkind) ∧ w'.cell? ⟨wr.heap.size, 9, none⟩ = some (.int .i64 l[k].event.gindex) ∧ w'.cell? ⟨wr.heap.size, 10, none⟩ = some (.int .i64 l[k].event.gelement) ∧ w'.cell? ⟨wr.heap.size, 11, none⟩ = some (.int .i64 l[k].event.gamount) ∧ w'.cell? ⟨wr.heap.size, 12, none⟩ = some (.int .i64 l[k].event.to) ∧ w'.cell? ⟨wr.heap.size, 13, none⟩ = some (.int .i64 l[k].event.place) ∧ w'.cell? ⟨wr.heap.size, 14, none⟩ = some (.int .i64 l[k].event.serial)) (first | go_keep | exact ⟨hb2.cell (hb1.cell Q2.out N1.out) N2.out, hb2.cell (hb1.cell Q3.out N1.out) N2.out, hb2.cell (hb1.cell Q4.out N1.out) N2.out, hb2.cell (hb1.cell Q5.out N1.out) N2.out, hb2.cell (hb1.cell Q6.out N1.out) N2.out, hb2.cell (hb1.cell Q7.out N1.out) N2.out, hb2.cell (hb1.cell Q8.out N1.out) N2.out, hb2.cell (hb1.cell Q9.out N1.out) N2.out, hb2.cell (hb1.cell Q10.out N1.out) N2.out, hb2.cell (hb1.cell Q11.out N1.out) N2.out, hb2.cell (hb1.cell Q12.out N1.out) N2.out, hb2.cell (hb1.cell Q13.out N1.out) N2.out, hb2.cell (hb1.cell Q14.out N1.out) N2.out⟩ | exact ⟨hb1.cell Q2.out N1.out, hb1.cell Q3.out N1.out, hb1.cell Q4.out N1.out, hb1.cell Q5.out N1.out, hb1.cell Q6.out N1.out, hb1.cell Q7.out N1.out, hb1.cell Q8.out N1.out, hb1.cell Q9.out N1.out, hb1.cell Q10.out N1.out, hb1.cell Q11.out N1.out, hb1.cell Q12.out N1.out, hb1.cell Q13.out N1.out, hb1.cell Q14.out N1.out⟩) (first | (go_at_call 9; refine (CB.out _ hb1).mono ?_; rintro en w2 ⟨rfl, ⟨A2, m2, d2, hs2⟩, hb2⟩) | (go_at_call 9; refine (CA.out _ (by repeat (first | exact Ext.refl _ | with_reducible assumption | refine Ext.drewN ?_ _ | refine Ext.drew ?_ | refine Ext.alloc ?_ _ | (refine Ext.trans ?_ (by with_reducible assumption))))).mono ?_; rintro en w1 ⟨rfl, ⟨A1, m1, d1, hs1⟩, hb1⟩))
              have hsb1 := HSB.out.but HSA.out hne.symm hb1
              have hs12 := hs1.but hsb1 hne hb2
              have hxe := (hxwc.but hb1 hla).but hb2 hlb
              clear c2 c3 c4 c5 c6 c7 c8 c9 c10 c11 c12 c13 c14 Q2 Q3 Q4 Q5 Q6 Q7 Q8 Q9 Q10 Q11 Q12 Q13 Q14
              go_wp2
              go_roundw
              case rel => exact ⟨k + 1, by omega, by go_num, ba, A1, m1, d1, A2, m2, d2, _, rfl, hs12, hs2, hne, hla, hvs, hxe⟩
              case measure => simp [intOf]; omega
            | false =>
              rw [hwv] at c0
              have hvs := read_valid (l := l[k].clock) hv
              obtain ⟨q, hq⟩ : ∃ q, q = containsC l[k].clock s := ⟨_, rfl⟩
              have RA := Lib.hid (show ∀ W, Ext wc W → Calls Tryz.prog 10 #[.pointer (some ⟨ba, 0, none⟩), .slice sl.A sl.n sl.c] W (fun en w' => en = .returned (.bool q) ∧ Ext wc w') from fun W h => (ready_any ba Aa sl.A na ca sl.n sl.c s l[k].clock W (hsa.ext h) (hin1.ext h)).mono fun en w' H => ⟨by rw [hq]; exact H.1, h.trans H.2⟩)
              have RB := Lib.hid (show ∀ W, Ext wc W → Calls Tryz.prog 10 #[.pointer (some ⟨bb, 0, none⟩), .slice sl.A sl.n sl.c] W (fun en w' => en = .returned (.bool q) ∧ Ext wc w') from fun W h => (ready_any bb Ab sl.A nb cb sl.n sl.c s l[k].clock W (hsb.ext h) (hin1.ext h)).mono fun en w' H => ⟨by rw [hq]; exact H.1, h.trans H.2⟩)
              have CA := Lib.hid (show ∀ W, Ext wc W → Calls Tryz.prog 11 #[.pointer (some ⟨ba, 0, none⟩), .slice sl.A sl.n sl.c] W (fun en w' => en = .returned (.int .i64 (readC s l[k].clock).1) ∧ (∃ A' n' c', Ses w' ba A' n' c' (readC s l[k].clock).2) ∧ But ba wc w') from fun W h => (read_any ba Aa sl.A na ca sl.n sl.c s l[k].clock W (hsa.ext h) (hin1.ext h)).mono fun en w' H => ⟨H.1, H.2.1, (But.of_ext h).trans H.2.2⟩)
              have CB := Lib.hid (show ∀ W, But ba wc W → Calls Tryz.prog 11 #[.pointer (some ⟨bb, 0, none⟩), .slice sl.A sl.n sl.c] W (fun en w' => en = .returned (.int .i64 (readC s l[k].clock).1) ∧ (∃ A' n' c', Ses w' bb A' n' c' (readC s l[k].clock).2) ∧ But bb W w') from fun W h => read_any bb Ab sl.A nb cb sl.n sl.c s l[k].clock W (hsb.but hsa hne.symm h) (hin1.but hsa.1 h))
              have Q1 := Lib.hid c1
              have N1 := Lib.hid (show wr.heap.size ≠ ba from fun e => hbal e.symm)
              have N2 := Lib.hid (show wr.heap.size ≠ bb from fun e => hbb e.symm)
              have HSA := Lib.hid hsa
              have HSB := Lib.hid hsb
              clear hin2 hin1 hsa hsb hbal hbb hq c2 c3 c4 c5 c6 c7 c8 c9 c10 c11 c12 c13 c14
              go_wp2_with fail
              cases q
              all_goals
                go_region_held3 (fun w' => w'.cell? ⟨wr.heap.size, 1, none⟩ = some (.slice sl.A sl.n sl.c)) (first | go_keep | exact hb7.cell (hb6.cell Q1.out N1.out) N2.out | exact hb6.cell Q1.out N1.out | exact hx5.cell Q1.out | exact hx4.cell Q1.out) (first | (go_at_call 11; refine (CB.out _ hb6).mono ?_; rintro en w7 ⟨rfl, ⟨A2, m2, d2, hs2⟩, hb7⟩) | (go_at_call 11; refine (CA.out _ hx5).mono ?_; rintro en w6 ⟨rfl, ⟨A1, m1, d1, hs1⟩, hb6⟩) | (go_at_call 10; refine (RB.out _ hx4).mono ?_; rintro en w5 ⟨rfl, hx5⟩) | (go_at_call 10; refine (RA.out _ (by repeat (first | exact Ext.refl _ | with_reducible assumption | refine Ext.drewN ?_ _ | refine Ext.drew ?_ | refine Ext.alloc ?_ _ | (refine Ext.trans ?_ (by with_reducible assumption))))).mono ?_; rintro en w4 ⟨rfl, hx4⟩))
                have hsb1 := HSB.out.but HSA.out hne.symm hb6
                have hs12 := hs1.but hsb1 hne hb7
                have hxe := (hxwc.but hb6 hla).but hb7 hlb
                go_wp2
                go_roundw
                case rel => exact ⟨k + 1, by omega, by go_num, ba, A1, m1, d1, A2, m2, d2, _, rfl, hs12, hs2, hne, hla, hvs, hxe⟩
                case measure => simp [intOf]; omega
        · have CA := Lib.hid (token_any ba Aa na ca s wr hsa (ht.ext hxr))
          go_wp2_with fail
          refine (CA.out).mono ?_
          rintro en w4 ⟨rfl, hx4⟩
          have CB := Lib.hid (token_any bb Ab nb cb s w4 (hsb.ext hx4) (ht.ext (hxr.trans hx4)))
          go_wp2_with fail
          refine (CB.out).mono ?_
          rintro en w5 ⟨rfl, hx5⟩
          go_wp2
          go_ret
          exact ⟨by simp, hxr.trans (hx4.trans hx5)⟩
end Go.Proofs.YtolbcmniklbnmaaGreatDoor

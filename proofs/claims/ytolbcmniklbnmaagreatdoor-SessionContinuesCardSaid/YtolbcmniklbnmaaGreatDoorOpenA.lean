/- From a reading of the arguments to the predicates of the walks. -/
import Derived.Test.YtolbcmniklbnmaaGreatDoorSesH
import Derived.ProofKit
import Derived.Deep.Slices
namespace Go.Proofs.YtolbcmniklbnmaaGreatDoor
open Go Go.RowKit Go.Deep Go.ChangeShapes Go.WideShapes

variable {H : Type} {enc : TypeId × Value → H} {W : World} {base : Nat} {spare : Nat → Bool} {held : Bool}

theorem spot_none {w : World} {a : Addr} {v : Value} (h : w.cell? a = some v) : a = ⟨a.block, a.off, none⟩ := by
  obtain ⟨b, o, s⟩ := a
  cases s with
  | none => rfl
  | some x => unfold World.cell? at h; split at h <;> simp at h
theorem add_plain (b o j : Nat) : (⟨b, o, none⟩ : Addr).add j = ⟨b, o + j, none⟩ := by
  unfold Addr.add; split <;> simp_all

theorem ints_of_trod {n : Nat} {cs : List Value} {x : DataW H × List MemPlace} (h : DataW.trod enc Tryz.prog W base spare held n 29 cs = some x) : ∃ A n c l, cs = [.slice A n c] ∧ Ints W A n c l := by
  rcases open_ints Tryz.underlying29 Tryz.underlying3 (by kernel_rfl) h with ⟨rfl, _⟩ | ⟨a, len, cap, zs, rfl, _, hl, hm, hz, _, hc, _⟩
  · exact ⟨none, 0, 0, [], rfl, Ints.nil _ _ _ (by omega)⟩
  · have hlen : len ≤ zs.length := by rw [hz]; split <;> omega
    refine ⟨some a, len, cap, zs.take len, rfl, by rw [List.length_take]; omega, hl, by unfold maxLen at hm; omega, fun k hk => ?_⟩
    have hk' : k < len := by rw [List.length_take] at hk; omega
    have h0 : a = ⟨a.block, a.off, none⟩ := by
      have := hc 0 (by omega)
      rw [show a.add 0 = a by simp [Addr.add]] at this
      exact spot_none this
    refine ⟨a.block, a.off, by rw [← h0], ?_⟩
    have := hc k (by omega)
    rw [h0, add_plain] at this
    rw [this, List.getElem_take]
    congr 2
    rw [List.getD_eq_getElem?_getD, List.getElem?_eq_getElem (by omega)]; rfl

theorem num_of_trod {n : Nat} {t : TypeId} {cs : List Value} {x : DataW H × List MemPlace} (ht : Tryz.prog.underlying t = some (.int .i64)) (h : DataW.trod enc Tryz.prog W base spare held n t cs = some x) : ∃ z, cs = [.int .i64 z] := by
  obtain ⟨z, e, _⟩ := DataW.trod_int ht h
  exact ⟨z, e⟩
/-- What a struct's field reads. -/
theorem field_of {n : Nat} {t : TypeId} {cs : List Value} {x : DataW H × List MemPlace} {fs : Array Field} (ht : Tryz.prog.underlying t = some (.struct fs)) (h : DataW.trod enc Tryz.prog W base spare held n t cs = some x) :
    cs.length = Tryz.prog.cellsOf t ∧ ∃ m, ∀ (i : Nat) (f : Field), fs[i]? = some f → ∃ y, DataW.trod enc Tryz.prog W base spare held m f.type ((cs.drop f.offset).take (Tryz.prog.cellsOf f.type)) = some y := by
  obtain ⟨xs, m, _, _, hl, hxl, hf⟩ := DataW.trod_struct ht h
  refine ⟨hl, m, fun i f hi => ?_⟩
  have hil : i < xs.length := by rw [hxl]; exact (Array.getElem?_eq_some_iff.1 hi).1
  exact ⟨xs[i], by rw [hf i f hi, List.getElem?_eq_getElem hil]⟩
end Go.Proofs.YtolbcmniklbnmaaGreatDoor

/- Plain law: a session's clock stays valid. -/
import Derived.Test.YtolbcmniklbnmaaGreatDoorSesC
namespace Go.Proofs.YtolbcmniklbnmaaGreatDoor
open Go Go.RowKit Go.Deep

theorem valid_of {l : List Int} (h1 : 1 ≤ l.length) (h5 : l.length ≤ 5) (h : ∀ n ∈ l, 0 ≤ n ∧ n ≤ 1024) : validC l = true := by
  simp only [validC, Bool.and_eq_true, decide_eq_true_eq, List.all_eq_true]
  exact ⟨fun n hn => okN_of (h n hn).1 (h n hn).2, h1, h5⟩
theorem join_valid {s p : List Int} (hs : validC s = true) (hp : validC p = true) (hl : p.length = s.length) : validC (joinC [s, p]) = true := by
  have ha : alikeC [s, p] = true := by simp [alikeC, hs, hp, hl]
  obtain ⟨a1, a5, a⟩ := valid_facts hs
  obtain ⟨b1, b5, b⟩ := valid_facts hp
  have e : joinC [s, p] = List.zipWith max s p := by simp [joinC, ha, foldOp]
  rw [e]
  refine valid_of (by rw [List.length_zipWith]; omega) (by rw [List.length_zipWith]; omega) ?_
  intro n hn
  obtain ⟨i, hi, rfl⟩ := List.getElem_of_mem hn
  rw [List.length_zipWith] at hi
  rw [List.getElem_zipWith]
  have h1 := a _ (List.getElem_mem (show i < s.length by omega))
  have h2 := b _ (List.getElem_mem (show i < p.length by omega))
  omega
theorem read_valid {s l : List Int} (hs : validC s = true) : validC (readC s l).2 = true := by
  unfold readC
  split
  · rename_i hf
    simp only [fitsC, Bool.and_eq_true, decide_eq_true_eq] at hf
    split
    · exact join_valid hs hf.2 (by omega)
    · exact hs
  · exact hs
theorem ack_valid {s : List Int} {e : Ev} (hs : validC s = true) : validC (ackC s e).2 = true := by
  unfold ackC
  split
  · rename_i hf
    simp only [writeC, Bool.and_eq_true, decide_eq_true_eq] at hf
    obtain ⟨hv, h0, h1, h2, h3⟩ := formed_facts hf.1
    obtain ⟨a1, a5, a⟩ := valid_facts hv
    refine join_valid hs (valid_of (by rw [List.length_set]; omega) (by rw [List.length_set]; omega) ?_) (by rw [List.length_set]; omega)
    intro n hn
    rcases List.mem_or_eq_of_mem_set hn with hn | rfl
    · exact a n hn
    · have hlt : e.replica.toNat < e.past.length := by omega
      have := a _ (List.getElem_mem hlt)
      rw [h2, List.getD_eq_getElem?_getD, List.getElem?_eq_getElem hlt] at h3 ⊢
      simp only [Option.getD_some] at h3 ⊢
      omega
  · exact hs
theorem wrote_valid {s : List Int} {e : Ev} (hs : validC s = true) : validC (wroteC s e).2 = true := by
  unfold wroteC
  split
  · split
    · exact ack_valid hs
    · exact hs
  · exact hs
theorem But.cell {b : Nat} {w w' : World} (h : But b w w') {p : Addr} {v : Value} (e : w.cell? p = some v) (hne : p.block ≠ b) : w'.cell? p = some v :=
  (World.cell?_of_block (h.block p.block (cell_lt e) (fun e' => hne (by injection e')))).trans e
end Go.Proofs.YtolbcmniklbnmaaGreatDoor

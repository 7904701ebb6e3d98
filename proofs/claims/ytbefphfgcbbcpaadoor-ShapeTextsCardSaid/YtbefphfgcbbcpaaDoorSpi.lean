/- A text read byte by byte and cut at a byte: what is known on the way. No conditions but those of each theorem. -/
import Derived.Test.YtbefphfgcbbcpaaDoorWds
namespace Go.Proofs.YtbefphfgcbbcpaaDoor
set_option linter.unusedVariables false
set_option linter.unusedSimpArgs false
open Go.RowKit
theorem wds_flat {c : UInt8} (y : List UInt8) : ∀ {ps : List (List UInt8)}, (∀ p ∈ ps, c ∉ p) → wds c ((ps.flatMap fun p => p ++ [c]) ++ y) = ps ++ wds c y
  | [], _ => by simp
  | p :: r, h => by
    have ih := wds_flat y (ps := r) (fun q hq => h q (List.mem_cons_of_mem _ hq))
    rw [List.flatMap_cons, List.append_assoc, List.append_assoc, List.cons_append, List.nil_append, wds_app _ (h p (by simp)), ih]
    rfl
/-- The pieces found, where the next begins, what was read. -/
structure SpC (c : UInt8) (l : List UInt8) (ps : List (List UInt8)) (f i : Nat) : Prop where
  le : f ≤ i ∧ i ≤ l.length
  h1 : l.take f = ps.flatMap fun p => p ++ [c]
  h2 : ∀ p ∈ ps, c ∉ p
  h3 : c ∉ (l.take i).drop f
theorem SpC.start (c : UInt8) (l : List UInt8) : SpC c l [] 0 0 := ⟨by omega, rfl, fun p hp => by simp at hp, by simp⟩
theorem take_next {l : List UInt8} {f i : Nat} (hf : f ≤ i) (hi : i < l.length) : (l.take (i + 1)).drop f = (l.take i).drop f ++ [l[i]] := by
  rw [List.take_succ_eq_append_getElem hi, List.drop_append_of_le_length (by rw [List.length_take]; omega)]
variable {c : UInt8} {l : List UInt8} {ps : List (List UInt8)} {f i : Nat}
theorem SpC.more (h : SpC c l ps f i) (hi : i < l.length) (hne : l[i] ≠ c) : SpC c l ps f (i + 1) := by
  have hf := h.le.1
  refine ⟨by omega, h.h1, h.h2, ?_⟩
  rw [take_next hf hi, List.mem_append]
  rintro (h4 | h4)
  · exact h.h3 h4
  · simp only [List.mem_singleton] at h4; exact hne h4.symm
theorem SpC.cut (h : SpC c l ps f i) (hi : i < l.length) (he : l[i] = c) : SpC c l (ps ++ [(l.take i).drop f]) (i + 1) (i + 1) := by
  have hf := h.le.1
  refine ⟨by omega, ?_, ?_, ?_⟩
  · rw [List.flatMap_append, ← h.h1, List.take_succ_eq_append_getElem hi, he]
    simp only [List.flatMap_cons, List.flatMap_nil, List.append_nil]
    rw [← List.append_assoc]
    congr 1
    have : l.take f = (l.take i).take f := by rw [List.take_take, Nat.min_eq_left hf]
    rw [this, List.take_append_drop]
  · intro p hp
    rcases List.mem_append.1 hp with hp | hp
    · exact h.h2 p hp
    · simp only [List.mem_singleton] at hp
      rw [hp]; exact h.h3
  · rw [List.drop_of_length_le (by rw [List.length_take]; omega)]
    simp
theorem SpC.whole (h : SpC c l ps f i) : wds c l = ps ++ wds c (l.drop f) := by
  have := wds_flat (l.drop f) h.h2
  rwa [← h.h1, List.take_append_drop] at this
/-- The piece that ends here. -/
theorem SpC.piece (h : SpC c l ps f i) (hi : i < l.length) (he : l[i] = c) : ∃ rest, wds c l = ps ++ (l.take i).drop f :: rest := by
  have hf := h.le.1
  have e : l.drop f = (l.take i).drop f ++ c :: l.drop (i + 1) := by
    have e1 : l.drop i = c :: l.drop (i + 1) := by rw [List.drop_eq_getElem_cons hi, he]
    rw [← e1]
    have e2 : l = l.take i ++ l.drop i := (List.take_append_drop i l).symm
    conv => lhs; rw [e2]
    rw [List.drop_append_of_le_length (by rw [List.length_take]; omega)]
  exact ⟨_, by rw [h.whole, e, wds_app _ h.h3]⟩
/-- The last piece. -/
theorem SpC.last (h : SpC c l ps f l.length) : wds c l = ps ++ [l.drop f] := by
  have h3 := h.h3
  rw [List.take_length] at h3
  rw [h.whole, wds_none h3]
theorem SpC.len (h : SpC c l ps f i) : ps.length ≤ l.length := by
  have h1 := wds_length c l
  rw [h.whole, List.length_append] at h1
  have h2 := List.length_pos_iff.2 (wds_ne c (l.drop f))
  have h3 := List.count_le_length (a := c) (l := l)
  omega
theorem ext_eq (l : List UInt8) {f i : Nat} (hf : f ≤ i) (hi : i ≤ l.length) : (⟨l.toArray⟩ : ByteArray).extract f i = ⟨((l.take i).drop f).toArray⟩ := by
  apply ByteArray.ext
  simp [List.drop_take]
end Go.Proofs.YtbefphfgcbbcpaaDoor

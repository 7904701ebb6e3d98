/- Lists that a call makes, of values of one cell: what they hold; a literal's one cell. No conditions but those of each theorem. -/
import Derived.Test.YtbefphfgcbbcpaaDoorSt
import Derived.Test.YtbefphfgcbbcpaaDoorWds
import Derived.Test.YtbefphfgcbbcpaaDoorCop
import Derived.Deep.AppendLies
namespace Go.Proofs.YtbefphfgcbbcpaaDoor
set_option linter.unusedVariables false
set_option linter.unusedSimpArgs false
open Go.ChangeShapes Go.WideShapes Go.ChangeAt Go.RowKit Go.Deep
theorem own_lo2 {w : World} {b b' size n : Nat} {e : TypeId} {v : Value} {xs : List Value} (h : w.ownsRow b e size v n xs) (hb : b' ≤ b) : w.ownsRow b' e size v n xs := by
  refine ⟨h.1, ?_⟩
  rcases h.2 with h0 | ⟨g, cap, cur, hv, hg, h1⟩
  · exact .inl h0
  · exact .inr ⟨g, cap, cur, hv, by omega, h1⟩
theorem lit_cell (X : World) (v : Value) (T : TypeId) : ∀ (j : Nat) (u : Value), [v][j]? = some u → (X.alloc (.cells #[v] T)).cell? ((Addr.mk X.heap.size 0 none).add j) = some u := by
  intro j u h
  cases j with
  | zero =>
    simp only [List.getElem?_cons_zero, Option.some.injEq] at h
    subst h
    have e : (Addr.mk X.heap.size 0 none).add 0 = ⟨X.heap.size, 0, none⟩ := rfl
    rw [e]
    unfold World.cell?
    have h := heap_alloc_new X (.cells #[v] T)
    show (match (X.alloc (.cells #[v] T)).heap[X.heap.size]? with | some (Obj.cells c elem frozen) => c[0]? | x => none) = some v
    rw [h]
    rfl
  | succ j => simp at h
theorem lit_one (v : Value) (h : v.oneCell' = true) : ∀ u ∈ [v], u.oneCell' = true := by
  intro u hu
  simp only [List.mem_singleton] at hu
  subst hu
  exact h
theorem info_St : ((Tryd.prog.info? 9).map fun i => (i.zero, i.size, i.bytes)) = some (some (.string ⟨#[]⟩), 1, 16) := by kernel_rfl
/-- Where a list of the call's own lies. -/
theorem own_at {w : World} {base n cp : Nat} {e : TypeId} {A : Option Addr} {xs : List Value} (h : w.ownsRow base e 1 (.slice A n cp) n xs) (hn : 0 < n) : ∃ g, A = some ⟨g, 0, none⟩ ∧ base ≤ g ∧ g < w.heap.size ∧ n ≤ cp ∧ cp ≤ maxLen ∧ ∀ j, j < n → w.cell? ⟨g, j, none⟩ = xs[j]? := by
  rcases h.2 with ⟨e, e2⟩ | ⟨g, cap, cur, e, hb, hg, h1, h2, h3, h4⟩
  · omega
  · simp only [Value.slice.injEq] at e
    obtain ⟨rfl, -, rfl⟩ := e
    refine ⟨g, rfl, hb, (Array.getElem?_eq_some_iff.1 hg).1, h1, h2, fun j hj => ?_⟩
    unfold World.cell?
    show (match w.heap[g]? with | some (Obj.cells c elem frozen) => c[j]? | x => none) = xs[j]?
    rw [hg, ← h4, List.getElem?_take, if_pos (by omega)]
    simp
/-- strings.Join, by one byte. -/
theorem sJoin (ps : List (List UInt8)) (c : UInt8) (A : Option Addr) (n cp base : Nat) (w : World) (h : w.ownsRow base 9 1 (.slice A n cp) n (ps.map strV)) (hn : ps.length = n) (h0 : 0 < n) (hp : n ≤ 1000000) (hl : (Lib.join ps [c]).length ≤ 1000000) :
    Calls Tryd.prog 35 #[.slice A n cp, .string ⟨#[c]⟩] w fun e w' => e = .returned (.string ⟨(Lib.join ps [c]).toArray⟩) ∧ Kept w w' := by
  obtain ⟨g, rfl, hb, hg, h1, h2, h3⟩ := own_at h h0
  have e1 : ((ps.map fun p => (⟨p.toArray⟩ : ByteArray)).map (·.data.toList)) = ps := by
    rw [List.map_map]
    conv => rhs; rw [← List.map_id ps]
    exact List.map_congr_left fun p _ => by simp
  have e2 : (⟨#[c]⟩ : ByteArray).data.toList = [c] := rfl
  have := Tryd.strings_Join g 0 cp (ps.map fun p => ⟨p.toArray⟩) ⟨#[c]⟩ w (fun j x hx => by
    rw [List.getElem?_map, Option.map_eq_some_iff] at hx
    obtain ⟨p, hp, rfl⟩ := hx
    have hj := (List.getElem?_eq_some_iff.1 hp).1
    rw [Nat.zero_add, h3 j (by omega), List.getElem?_map, hp]
    rfl) hg (by rw [List.length_map]; omega) (by rw [List.length_map]; omega) (by rw [e1, e2]; omega)
  rw [e1, e2, List.length_map, hn] at this
  exact this.mono fun e w' ⟨h1, h2⟩ => ⟨h1, Kept.of_below h2⟩
/-- strings.Split, at one byte. -/
theorem sSplit (l : List UInt8) (c : UInt8) (w : World) (hl : l.length ≤ 1000000) (h : Ld w) :
    Calls Tryd.prog 25 #[.string ⟨l.toArray⟩, .string ⟨#[c]⟩] w fun e w' => ∃ g, e = .returned (.slice (some ⟨g, 0, none⟩) (wds c l).length (wds c l).length) ∧ Kept w w' ∧ w.heap.size ≤ g ∧ g < w'.heap.size ∧ ∀ j p, (wds c l)[j]? = some p → w'.cell? ⟨g, j, none⟩ = some (strV p) := by
  obtain ⟨m, hm⟩ := h.mx
  refine (Tryd.strings_Split ⟨l.toArray⟩ ⟨#[c]⟩ m w (by show l.toArray.size < _; simp; omega) hm (by show 1 ≤ (#[c] : Array UInt8).size; simp)).mono ?_
  rintro e w' ⟨rfl, rfl⟩
  rw [splitB_wds, countB_one, ← wds_length]
  refine ⟨_, rfl, by (repeat (first | exact Kept.refl _ | assumption | refine Kept.alloc ?_ _ | refine Kept.ext ?_ _ | refine Kept.drew ?_ | refine Kept.drewN ?_ _)), Nat.le_refl _, by simp, fun j p hj => ?_⟩
  unfold World.cell?
  have h := heap_alloc_new w (.cells ((wds c l).map strV).toArray 9)
  show (match (w.alloc (.cells ((wds c l).map strV).toArray 9)).heap[w.heap.size]? with | some (Obj.cells c elem frozen) => c[j]? | x => none) = some (strV p)
  rw [h]
  simp [hj]
end Go.Proofs.YtbefphfgcbbcpaaDoor

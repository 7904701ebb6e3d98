/- Texts of moments: plain facts. Conditions: those of each theorem. -/
import Derived.Test.YtbefphfgcbbcpaaDoorWds
import Derived.Test.YtbefphfgcbbcpaaDoorMr
namespace Go.Proofs.YtbefphfgcbbcpaaDoor
set_option linter.unusedVariables false
set_option linter.unusedSimpArgs false
open Go.RowKit
/-- The eleven numbers. -/
def mL (m : Mo) : List Int := [m.q, m.t, m.x, m.y, m.z, m.a, m.b, m.c, m.d, m.e, m.f]
/-- Numbers in a row. -/
def jn (xs : List Int) : List UInt8 := Lib.join (xs.map Lib.itoa) [32]
def fmtM (m : Mo) : List UInt8 := if okM m then jn (mL m) else []
theorem mL_bd {m : Mo} (h : okM m = true) : ∀ u ∈ mL m, -1099511627776 ≤ u ∧ u ≤ 1099511627776 := by
  have hb := okM_bd h
  intro u hu
  simp only [mL, List.mem_cons, List.not_mem_nil, or_false] at hu
  rcases hu with rfl | rfl | rfl | rfl | rfl | rfl | rfl | rfl | rfl | rfl | rfl <;> omega
theorem jn_wds {xs : List Int} (h : xs ≠ []) : wds 32 (jn xs) = xs.map Lib.itoa :=
  wds_join (by simpa using h) fun x hx => by
    obtain ⟨u, -, rfl⟩ := List.mem_map.1 hx
    exact itoa_nospace u
theorem mL_wds (m : Mo) : wds 32 (jn (mL m)) = (mL m).map Lib.itoa := jn_wds (by simp [mL])
theorem itoa_map_inj : ∀ {xs ys : List Int}, (∀ u ∈ xs, -1099511627776 ≤ u ∧ u ≤ 1099511627776) → (∀ u ∈ ys, -1099511627776 ≤ u ∧ u ≤ 1099511627776) → xs.map Lib.itoa = ys.map Lib.itoa → xs = ys
  | [], [], _, _, _ => rfl
  | [], _ :: _, _, _, h => by simp at h
  | _ :: _, [], _, _, h => by simp at h
  | x :: xs, y :: ys, hx, hy, h => by
    simp only [List.map_cons, List.cons.injEq] at h
    rw [itoa_inj (hx x (by simp)) (hy y (by simp)) h.1, itoa_map_inj (fun u hu => hx u (List.mem_cons_of_mem _ hu)) (fun u hu => hy u (List.mem_cons_of_mem _ hu)) h.2]
theorem mL_inj {m m' : Mo} (h : mL m = mL m') : m = m' := by
  obtain ⟨q, t, x, y, z, a, b, c, d, e, f⟩ := m
  obtain ⟨q', t', x', y', z', a', b', c', d', e', f'⟩ := m'
  simp only [mL, List.cons.injEq, and_true] at h
  obtain ⟨rfl, rfl, rfl, rfl, rfl, rfl, rfl, rfl, rfl, rfl, rfl⟩ := h
  rfl
theorem jnM_inj {m m' : Mo} (h1 : okM m = true) (h2 : okM m' = true) (h : jn (mL m) = jn (mL m')) : m = m' := by
  have := mL_wds m
  rw [h, mL_wds m'] at this
  exact (mL_inj (itoa_map_inj (mL_bd h2) (mL_bd h1) this)).symm
theorem lens_le : ∀ {xs : List (List UInt8)}, (∀ x ∈ xs, x.length ≤ 21) → Lib.lens xs ≤ 21 * xs.length
  | [], _ => by simp [Lib.lens]
  | x :: r, h => by
    have ih := lens_le (xs := r) (fun y hy => h y (List.mem_cons_of_mem _ hy))
    have := h x (by simp)
    unfold Lib.lens at ih ⊢
    rw [List.map_cons, List.sum_cons, List.length_cons]
    omega
theorem jn_len {xs : List Int} (hx : ∀ u ∈ xs, -1099511627776 ≤ u ∧ u ≤ 1099511627776) : (jn xs).length ≤ 22 * xs.length := by
  cases xs with
  | nil => simp [jn, Lib.join]
  | cons x r =>
    have h1 : ∀ y ∈ (x :: r).map Lib.itoa, y.length ≤ 21 := fun y hy => by
      obtain ⟨u, hu, rfl⟩ := List.mem_map.1 hy
      have := hx u hu
      exact Lib.itoa_length_le u (by omega) (by omega)
    have h2 := lens_le h1
    unfold jn
    rw [List.map_cons] at h2 ⊢
    rw [Lib.join_length]
    rw [List.length_cons, List.length_map] at h2
    simp only [List.length_cons, List.length_nil, List.length_map]
    omega
theorem fmtM_len (m : Mo) : (fmtM m).length ≤ 300 := by
  unfold fmtM
  split
  · rename_i h
    have := jn_len (mL_bd h)
    have e : (mL m).length = 11 := rfl
    omega
  · simp
/-- What reading a text gives. -/
def ParseM (l : List UInt8) (e : Ending) : Prop := (∃ m, okM m = true ∧ l = jn (mL m) ∧ e = .returned (.tuple #[.agg #[.int .i64 (m).q, .int .i64 (m).t, .int .i64 (m).x, .int .i64 (m).y, .int .i64 (m).z, .int .i64 (m).a, .int .i64 (m).b, .int .i64 (m).c, .int .i64 (m).d, .int .i64 (m).e, .int .i64 (m).f], .int .i64 0])) ∨ ((∀ m, okM m = true → l ≠ jn (mL m)) ∧ e = .returned (.tuple #[.agg #[.int .i64 0, .int .i64 0, .int .i64 0, .int .i64 0, .int .i64 0, .int .i64 0, .int .i64 0, .int .i64 0, .int .i64 0, .int .i64 0, .int .i64 0], .int .i64 3]))
theorem ParseM.same {l : List UInt8} {e e' : Ending} (h : ParseM l e) (h' : ParseM l e') : e = e' := by
  rcases h with ⟨a, h1, h2, h3⟩ | ⟨h1, h2⟩
  · rcases h' with ⟨c, k1, k2, k3⟩ | ⟨k1, k2⟩
    · rw [h2] at k2
      obtain rfl := jnM_inj h1 k1 k2
      rw [h3, k3]
    · exact absurd h2 (k1 a h1)
  · rcases h' with ⟨c, k1, k2, k3⟩ | ⟨k1, k2⟩
    · exact absurd k2 (h1 c k1)
    · rw [h2, k2]
theorem parseM_det (l : List UInt8) : ∃ (m : Mo) (r : Int), ∀ e, ParseM l e → e = .returned (.tuple #[.agg #[.int .i64 (m).q, .int .i64 (m).t, .int .i64 (m).x, .int .i64 (m).y, .int .i64 (m).z, .int .i64 (m).a, .int .i64 (m).b, .int .i64 (m).c, .int .i64 (m).d, .int .i64 (m).e, .int .i64 (m).f], .int .i64 r]) := by
  by_cases h : ∃ m, okM m = true ∧ l = jn (mL m)
  · obtain ⟨m, h1, h2⟩ := h
    exact ⟨m, 0, fun e he => he.same (.inl ⟨m, h1, h2, rfl⟩)⟩
  · exact ⟨moZ, 3, fun e he => he.same (.inr ⟨fun m h1 h2 => h ⟨m, h1, h2⟩, rfl⟩)⟩
end Go.Proofs.YtbefphfgcbbcpaaDoor

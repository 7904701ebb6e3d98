/- Words and numbers of the lines of a mesh's text: what the program reads of them. Conditions: those of each theorem. A point, or a face, appended to a mesh that is being made, in a drawn order, with a block of three ints read: what is known at each step. No conditions but those of each theorem. -/
import Derived.Test.YtbefphfgcbbcpaaDoorSf4
import Derived.Test.YtbefphfgcbbcpaaDoorLst
import Derived.Test.YtbefphfgcbbcpaaDoorGmp
namespace Go.Proofs.YtbefphfgcbbcpaaDoor
set_option linter.unusedVariables false
set_option linter.unusedSimpArgs false
open Go.ChangeShapes Go.WideShapes Go.ChangeAt Go.RowKit Go.Deep
/-- strings.Split, with its block. -/
theorem sSplitH (l : List UInt8) (c : UInt8) (w : World) (hl : l.length ≤ 1000000) (h : Ld w) :
    Calls Tryd.prog 25 #[.string ⟨l.toArray⟩, .string ⟨#[c]⟩] w fun e w' => ∃ g, e = .returned (.slice (some ⟨g, 0, none⟩) (wds c l).length (wds c l).length) ∧ Kept w w' ∧ w.heap.size ≤ g ∧ w'.heap[g]? = some (.cells ((wds c l).map strV).toArray 9 (0, 0)) := by
  obtain ⟨m, hm⟩ := h.mx
  refine (Tryd.strings_Split ⟨l.toArray⟩ ⟨#[c]⟩ m w (by show l.toArray.size < _; simp; omega) hm (by show 1 ≤ (#[c] : Array UInt8).size; simp)).mono ?_
  rintro e w' ⟨rfl, rfl⟩
  rw [splitB_wds, countB_one, ← wds_length]
  exact ⟨_, rfl, by (repeat (first | exact Kept.refl _ | assumption | refine Kept.alloc ?_ _ | refine Kept.ext ?_ _ | refine Kept.drew ?_ | refine Kept.drewN ?_ _)), Nat.le_refl _, heap_alloc_new w (.cells ((wds c l).map strV).toArray 9)⟩
theorem sTrim (l : List UInt8) (c : UInt8) (w : World) (hl : l.length ≤ 1000000) :
    Calls Tryd.prog 26 #[.string ⟨l.toArray⟩, .string ⟨#[c]⟩] w fun e w' => e = .returned (.string ⟨(Lib.trimSuffix l [c]).toArray⟩) ∧ w' = w := by
  have := Tryd.strings_TrimSuffix ⟨l.toArray⟩ ⟨#[c]⟩ w (by show l.toArray.size ≤ _; simp; omega)
  simpa using this
theorem wd_len {c : UInt8} {l p : List UInt8} (h : p ∈ wds c l) : p.length ≤ l.length := by
  have h1 := join_wds c l
  obtain ⟨a, r, e⟩ := List.append_of_mem h
  have h2 : p.length ≤ (Lib.join (wds c l) [c]).length := by
    rw [e]
    cases a with
    | nil =>
      show p.length ≤ (Lib.join (p :: r) [c]).length
      rw [Lib.join_length]
      simp [Lib.lens]
      omega
    | cons x a =>
      show p.length ≤ (Lib.join (x :: (a ++ p :: r)) [c]).length
      rw [Lib.join_length]
      simp [Lib.lens]
      omega
  rw [h1] at h2
  exact h2
theorem str_cell {w : World} {g : Nat} {ws : List (List UInt8)} {j : Nat} {T : TypeId} (h : w.heap[g]? = some (.cells (ws.map strV).toArray T (0, 0))) (hj : j < ws.length) : w.cell? ⟨g, j, none⟩ = some (.string ⟨(ws.getD j []).toArray⟩) := by
  unfold World.cell?
  simp only [h]
  show ((ws.map strV).toArray)[j]? = _
  simp [List.getElem?_map, List.getD_eq_getElem?_getD, List.getElem?_eq_getElem hj, strV]
theorem sAtoiOkL {l : List UInt8} {v : Int} {w : World} (hs : l.length ≤ 8000) (h : Ld w) (hr : Lib.atoiAll l = .ok v) :
    Calls Tryd.prog 27 #[.string ⟨l.toArray⟩] w fun e w' => e = .returned (.tuple #[.int .i64 v, .nilIface]) ∧ Kept w w' := by
  refine (sAtoi ⟨l.toArray⟩ w (by show l.toArray.size ≤ _; simp; omega) h).mono ?_
  rintro e w' ⟨u, ev, rfl, h1, h2, h3⟩
  rcases h3 with ⟨rfl, h4⟩ | ⟨-, h4⟩
  · have h4 : Lib.atoiAll l = .ok u := by simpa using h4
    rw [hr] at h4
    injection h4 with h4
    rw [h4]
    exact ⟨rfl, h1⟩
  · exact absurd hr (by simpa using h4 v)
theorem sAtoiNoL {l : List UInt8} {w : World} (hs : l.length ≤ 8000) (h : Ld w) (hr : ∀ v, Lib.atoiAll l ≠ .ok v) :
    Calls Tryd.prog 27 #[.string ⟨l.toArray⟩] w fun e w' => ∃ v t p, e = .returned (.tuple #[.int .i64 v, .iface t p]) ∧ Kept w w' := by
  refine (sAtoi ⟨l.toArray⟩ w (by show l.toArray.size ≤ _; simp; omega) h).mono ?_
  rintro e w' ⟨u, ev, rfl, h1, h2, h3⟩
  rcases h3 with ⟨rfl, h4⟩ | ⟨⟨t, p, rfl⟩, -⟩
  · exact absurd (by simpa using h4) (hr u)
  · exact ⟨u, t, p, rfl, h1⟩
theorem addF_I {p : Nat → Nat → Int} {np : Nat} {z0 z1 z2 : Int} (h : ∀ k, k < np → ∀ j, j < 3 → I64 (p k j)) (hz : I64 z0 ∧ I64 z1 ∧ I64 z2) : ∀ k, k < np + 1 → ∀ j, j < 3 → I64 (addF p np z0 z1 z2 k j) := by
  intro k hk j hj
  unfold addF
  split
  · rename_i q; exact h k q j hj
  · rcases (show j = 0 ∨ j = 1 ∨ j = 2 by omega) with rfl | rfl | rfl
    · exact hz.1
    · exact hz.2.1
    · exact hz.2.2
section
variable {l : List UInt8} {ls ws : List (List UInt8)} {r : Nat} {z1 z2 z3 : Int}
theorem ln_okG (key : ∀ n P m F, validE n P m F = 0 → l = gfmt n P m F → r < n + m ∧ ls.getD r [] = (gL n P m F).getD r []) (hw : wds 32 (ls.getD r []) = ws)
    (h1 : ∀ u, -64 ≤ u ∧ u ≤ 64 → ws.getD 1 [] = Lib.itoa u → z1 = u) (h2 : ∀ u, -64 ≤ u ∧ u ≤ 64 → ws.getD 2 [] = Lib.itoa u → z2 = u) (h3 : ∀ u, -64 ≤ u ∧ u ≤ 64 → ws.getD 3 [] = Lib.itoa u → z3 = u) : LnOk l r (ws.getD 0 []) z1 z2 z3 := by
  intro n P m F hv e
  obtain ⟨hr, hg⟩ := key n P m F hv e
  obtain ⟨a1, a2, a3⟩ := valid_in hv
  refine ⟨hr, ?_⟩
  rcases ln_words (ls := ls) hr hg with ⟨q, e2⟩ | ⟨q, e2⟩
  · rw [hw] at e2
    subst e2
    exact .inl ⟨q, rfl, (h1 _ (a2 r q 0 (by omega)) rfl).symm, (h2 _ (a2 r q 1 (by omega)) rfl).symm, (h3 _ (a2 r q 2 (by omega)) rfl).symm⟩
  · rw [hw] at e2
    subst e2
    have c := fun j hj => a3 (r - n) (by omega) j hj
    have c0 := c 0 (by omega)
    have c1 := c 1 (by omega)
    have c2 := c 2 (by omega)
    exact .inr ⟨q, rfl, (h1 _ (by omega) rfl).symm, (h2 _ (by omega) rfl).symm, (h3 _ (by omega) rfl).symm⟩
theorem ln_badG (key : ∀ n P m F, validE n P m F = 0 → l = gfmt n P m F → r < n + m ∧ ls.getD r [] = (gL n P m F).getD r []) (hw : wds 32 (ls.getD r []) = ws) {j : Nat} (hj : 1 ≤ j ∧ j ≤ 3)
    (h : ∀ u, -64 ≤ u ∧ u ≤ 64 → ws.getD j [] ≠ Lib.itoa u) : ∀ n P m F, validE n P m F = 0 → l ≠ gfmt n P m F := by
  intro n P m F hv e
  obtain ⟨hr, hg⟩ := key n P m F hv e
  obtain ⟨a1, a2, a3⟩ := valid_in hv
  rcases ln_words (ls := ls) hr hg with ⟨q, e2⟩ | ⟨q, e2⟩
  · rw [hw] at e2
    subst e2
    rcases (show j = 1 ∨ j = 2 ∨ j = 3 by omega) with rfl | rfl | rfl
    · exact h _ (a2 r q 0 (by omega)) rfl
    · exact h _ (a2 r q 1 (by omega)) rfl
    · exact h _ (a2 r q 2 (by omega)) rfl
  · rw [hw] at e2
    subst e2
    have c := fun j hj => a3 (r - n) (by omega) j hj
    have c0 := c 0 (by omega)
    have c1 := c 1 (by omega)
    have c2 := c 2 (by omega)
    rcases (show j = 1 ∨ j = 2 ∨ j = 3 by omega) with rfl | rfl | rfl
    · exact h _ (by omega) rfl
    · exact h _ (by omega) rfl
    · exact h _ (by omega) rfl
theorem ln_len4 (key : ∀ n P m F, validE n P m F = 0 → l = gfmt n P m F → r < n + m ∧ ls.getD r [] = (gL n P m F).getD r []) (hw : wds 32 (ls.getD r []) = ws) (h : ws.length ≠ 4) : ∀ n P m F, validE n P m F = 0 → l ≠ gfmt n P m F := by
  intro n P m F hv e
  obtain ⟨hr, hg⟩ := key n P m F hv e
  rcases ln_words (ls := ls) hr hg with ⟨q, e2⟩ | ⟨q, e2⟩
  · rw [hw] at e2
    exact h (by rw [e2]; rfl)
  · rw [hw] at e2
    exact h (by rw [e2]; rfl)
theorem key_at (key : ∀ n P m F, validE n P m F = 0 → l = gfmt n P m F → ls = gL n P m F) (hr : r < ls.length) : ∀ n P m F, validE n P m F = 0 → l = gfmt n P m F → r < n + m ∧ ls.getD r [] = (gL n P m F).getD r [] := fun n P m F hv e => by
  have := key n P m F hv e
  rw [this, gL_len] at hr
  exact ⟨hr, by rw [this]⟩
theorem num_of {q : List UInt8} {v : Int} (h : Lib.atoiAll q = .ok v) : ∀ u, -64 ≤ u ∧ u ≤ 64 → q = Lib.itoa u → v = u := fun u hu e => by
  rw [e, atoi_itoa (by omega)] at h
  injection h with h
  exact h.symm
theorem ln_okA (key : ∀ n P m F, validE n P m F = 0 → l = gfmt n P m F → ls = gL n P m F) (hr : r < ls.length) (hw : wds 32 (ls.getD r []) = ws) (h1 : Lib.atoiAll (ws.getD 1 []) = .ok z1) (h2 : Lib.atoiAll (ws.getD 2 []) = .ok z2) (h3 : Lib.atoiAll (ws.getD 3 []) = .ok z3) : LnOk l r (ws.getD 0 []) z1 z2 z3 :=
  ln_okG (key_at key hr) hw (num_of h1) (num_of h2) (num_of h3)
theorem ln_badA (key : ∀ n P m F, validE n P m F = 0 → l = gfmt n P m F → ls = gL n P m F) (hr : r < ls.length) (hw : wds 32 (ls.getD r []) = ws) {j : Nat} (hj : 1 ≤ j ∧ j ≤ 3) (h : ∀ v, Lib.atoiAll (ws.getD j []) ≠ .ok v) : ∀ n P m F, validE n P m F = 0 → l ≠ gfmt n P m F :=
  ln_badG (key_at key hr) hw hj fun u hu e => h u (by rw [e]; exact atoi_itoa (by omega))
theorem ln_bad4 (key : ∀ n P m F, validE n P m F = 0 → l = gfmt n P m F → ls = gL n P m F) (hr : r < ls.length) (hw : wds 32 (ls.getD r []) = ws) (h : ws.length ≠ 4) : ∀ n P m F, validE n P m F = 0 → l ≠ gfmt n P m F :=
  ln_len4 (key_at key hr) hw h
end
end Go.Proofs.YtbefphfgcbbcpaaDoor
namespace Go.Proofs.YtbefphfgcbbcpaaDoor
set_option linter.unusedVariables false
set_option linter.unusedSimpArgs false
open Go.RowKit Go.Deep
/-- i1 loads the list, i5 makes the list of one point, i6 appends it, i8 stores the list; block pb is read meanwhile. -/
structure ApP (i1 i5 i6 i8 : Nat) (W : World) (rb mb pb : Nat) (pc : Array Value) (gb : Nat) (gc : Array Value) (v : Value) (k : Nat) (P : Nat → Nat → Int) (vF : Value) (m : Nat) (F : Nat → Nat → Int) (L : Nat → Bool) (b : Nat → Value) (w' : World) : Prop where
  kept : Kept W w'
  pk : w'.heap[pb]? = some (.cells pc 57 (0, 0))
  pne : some pb ≠ v.ownBlock
  a8 : L i8 = true → L i6 = true ∧ L i1 = true
  n5 : L i5 = true → ∃ g, b i5 = .slice (some ⟨g, 0, none⟩) 1 1 ∧ (L i6 = false → w'.heap[g]? = some (.cells #[.int .i64 (P k 0), .int .i64 (P k 1), .int .i64 (P k 2)] 36 (0, 0)))
  s : L i6 = false → w'.ownsRow W.heap.size 36 3 v k (rowC 3 P k)
  t : L i6 = true → w'.ownsRow W.heap.size 36 3 (b i6) (k + 1) (rowC 3 P (k + 1))
  r : w'.heap[rb]? = some (.cells #[.slice none 0 0, .slice none 0 0] 25 (0, 0))
  q : w'.heap[mb]? = some (.cells #[if L i8 = true then b i6 else v, vF] 25 (0, 0))
  f : w'.ownsRow W.heap.size 57 3 vF m (rowC 3 F m)
  gk : w'.heap[gb]? = some (.cells gc 9 (0, 0))
section
variable {i1 i5 i6 i8 : Nat} {W : World} {rb mb pb k m : Nat} {gb : Nat} {pc gc : Array Value} {v vF : Value} {P F : Nat → Nat → Int} {L : Nat → Bool} {b : Nat → Value} {w' w'' : World}
theorem ApP.start {wr : World} (h : Msh2 W rb mb v k P vF m F wr) (hk : Kept wr w') (hp : w'.heap[pb]? = some (.cells pc 57 (0, 0))) (hne : wr.heap.size ≤ pb) (hgk : w'.heap[gb]? = some (.cells gc 9 (0, 0))) : ApP i1 i5 i6 i8 W rb mb pb pc gb gc v k P vF m F (fun _ => false) b w' := by
  have h' := h.on hk
  refine ⟨h'.kept, hp, fun e => ?_, fun e => (by cases e), fun e => (by cases e), fun _ => h'.p, fun e => (by cases e), h'.r, h'.q, h'.f, hgk⟩
  have := (h.p.lt pb e.symm).2
  omega
theorem ApP.on (h : ApP i1 i5 i6 i8 W rb mb pb pc gb gc v k P vF m F L b w') (hk : Kept w' w'') : ApP i1 i5 i6 i8 W rb mb pb pc gb gc v k P vF m F L b w'' :=
  ⟨h.kept.trans hk, fr_kept h.pk hk, h.pne, h.a8, fun e => by
    obtain ⟨g, e1, e2⟩ := h.n5 e
    exact ⟨g, e1, fun e3 => fr_kept (e2 e3) hk⟩, fun e => owns_kept (h.s e) hk, fun e => owns_kept (h.t e) hk, fr_kept h.r hk, fr_kept h.q hk, owns_kept h.f hk, fr_kept h.gk hk⟩
theorem ApP.other (h : ApP i1 i5 i6 i8 W rb mb pb pc gb gc v k P vF m F L b w') {i : Nat} (h1 : i ≠ i1) (h5 : i ≠ i5) (h6 : i ≠ i6) (h8 : i ≠ i8) : ApP i1 i5 i6 i8 W rb mb pb pc gb gc v k P vF m F (doneAt L i) b w' := by
  have d1 : doneAt L i i1 = L i1 := if_neg (Ne.symm h1)
  have d5 : doneAt L i i5 = L i5 := if_neg (Ne.symm h5)
  have d6 : doneAt L i i6 = L i6 := if_neg (Ne.symm h6)
  have d8 : doneAt L i i8 = L i8 := if_neg (Ne.symm h8)
  refine ⟨h.kept, h.pk, h.pne, ?_, ?_, ?_, ?_, h.r, ?_, h.f, h.gk⟩
  · rw [d8, d6, d1]; exact h.a8
  · rw [d5, d6]; exact h.n5
  · rw [d6]; exact h.s
  · rw [d6]; exact h.t
  · rw [d8]; exact h.q
theorem ApP.no8 (h : ApP i1 i5 i6 i8 W rb mb pb pc gb gc v k P vF m F L b w') (h3 : L i6 = false ∨ L i1 = false) : L i8 = false := by
  cases h8 : L i8 with
  | false => rfl
  | true =>
    have := h.a8 h8
    rw [this.1, this.2] at h3
    simp at h3
theorem ApP.op1 {u : Value} (h : ApP i1 i5 i6 i8 W rb mb pb pc gb gc v k P vF m F L b w') (hi : i1 < i5 ∧ i5 < i6 ∧ i6 < i8) (d : L i1 = false) : ApP i1 i5 i6 i8 W rb mb pb pc gb gc v k P vF m F (doneAt L i1) (tellAt b i1 u) w' := by
  have d5 : doneAt L i1 i5 = L i5 := if_neg (by omega)
  have d6 : doneAt L i1 i6 = L i6 := if_neg (by omega)
  have d8 : doneAt L i1 i8 = L i8 := if_neg (by omega)
  have t5 : tellAt b i1 u i5 = b i5 := if_neg (by omega)
  have t6 : tellAt b i1 u i6 = b i6 := if_neg (by omega)
  refine ⟨h.kept, h.pk, h.pne, ?_, ?_, ?_, ?_, h.r, ?_, h.f, h.gk⟩
  · rw [d8, d6]; intro e; exact ⟨(h.a8 e).1, if_pos rfl⟩
  · rw [d5, d6, t5]; exact h.n5
  · rw [d6]; exact h.s
  · rw [d6, t6]; exact h.t
  · rw [d8, t6]; exact h.q
theorem ApP.op5 (h : ApP i1 i5 i6 i8 W rb mb pb pc gb gc v k P vF m F L b w') (hi : i1 < i5 ∧ i5 < i6 ∧ i6 < i8) :
    ApP i1 i5 i6 i8 W rb mb pb pc gb gc v k P vF m F (doneAt L i5) (tellAt b i5 (.slice (some ⟨w'.heap.size, 0, none⟩) 1 1)) (w'.alloc (.cells #[.int .i64 (P k 0), .int .i64 (P k 1), .int .i64 (P k 2)] 36)) := by
  have h' := h.on ((Kept.refl w').alloc (.cells #[.int .i64 (P k 0), .int .i64 (P k 1), .int .i64 (P k 2)] 36))
  have d1 : doneAt L i5 i1 = L i1 := if_neg (by omega)
  have d6 : doneAt L i5 i6 = L i6 := if_neg (by omega)
  have d8 : doneAt L i5 i8 = L i8 := if_neg (by omega)
  have t6 : tellAt b i5 (.slice (some ⟨w'.heap.size, 0, none⟩) 1 1) i6 = b i6 := if_neg (by omega)
  refine ⟨h'.kept, h'.pk, h'.pne, ?_, ?_, ?_, ?_, h'.r, ?_, h'.f, h'.gk⟩
  · rw [d8, d6, d1]; exact h'.a8
  · intro _; exact ⟨_, if_pos rfl, fun _ => heap_alloc_new w' _⟩
  · rw [d6]; exact h'.s
  · rw [d6, t6]; exact h'.t
  · rw [d8, t6]; exact h'.q
theorem ApP.op6 {v' : Value} (h : ApP i1 i5 i6 i8 W rb mb pb pc gb gc v k P vF m F L b w') (hi : i1 < i5 ∧ i5 < i6 ∧ i6 < i8) (d : L i6 = false) (hown : w''.ownsRow W.heap.size 36 3 v' (k + 1) (rowC 3 P (k + 1))) (hg : w'.grownBy w'' v.ownBlock) :
    ApP i1 i5 i6 i8 W rb mb pb pc gb gc v k P vF m F (doneAt L i6) (tellAt b i6 v') w'' := by
  have e8 := h.no8 (.inl d)
  have hp := h.s d
  have hq := h.q
  rw [e8] at hq
  have d1 : doneAt L i6 i1 = L i1 := if_neg (by omega)
  have d5 : doneAt L i6 i5 = L i5 := if_neg (by omega)
  have d6 : doneAt L i6 i6 = true := if_pos rfl
  have d8 : doneAt L i6 i8 = L i8 := if_neg (by omega)
  have t5 : tellAt b i6 v' i5 = b i5 := if_neg (by omega)
  have t6 : tellAt b i6 v' i6 = v' := if_pos rfl
  refine ⟨kept_grown h.kept hp (Nat.le_refl _) hg, ?_, h.pne, ?_, ?_, ?_, ?_, own_keepsB hp hg h.r (by decide), ?_, h.f.kept hg (own_ne2 hp h.f (by decide)), own_keepsB hp hg h.gk (by decide)⟩
  · rw [hg.block pb (Array.getElem?_eq_some_iff.1 h.pk).1 h.pne]; exact h.pk
  · rw [d8, e8]; intro e; cases e
  · rw [d5, t5]
    intro e
    obtain ⟨g, e1, -⟩ := h.n5 e
    exact ⟨g, e1, fun e3 => by rw [d6] at e3; cases e3⟩
  · rw [d6]; intro e; cases e
  · rw [t6]; exact fun _ => hown
  · rw [d8, e8]; exact own_keepsB hp hg hq (by decide)
theorem ApP.op8 {u : Value} (h : ApP i1 i5 i6 i8 W rb mb pb pc gb gc v k P vF m F L b w') (hi : i1 < i5 ∧ i5 < i6 ∧ i6 < i8) (d1 : L i1 = true) (d6 : L i6 = true) (d8 : L i8 = false) (hne : rb ≠ mb) (hle : W.heap.size ≤ mb) :
    ApP i1 i5 i6 i8 W rb mb pb pc gb gc v k P vF m F (doneAt L i8) (tellAt b i8 u) (w'.setCell ⟨mb, 0, none⟩ (b i6)) := by
  have hq := h.q
  rw [d8] at hq
  have hs : w'.grownBy (w'.setCell ⟨mb, 0, none⟩ (b i6)) (some mb) := ⟨rfl, rfl, rfl, by simp, fun i _ hi => heap_setCell_other w' ⟨mb, 0, none⟩ i _ (fun e => hi (by simp [e]))⟩
  have e1 : doneAt L i8 i1 = L i1 := if_neg (by omega)
  have e5 : doneAt L i8 i5 = L i5 := if_neg (by omega)
  have e6 : doneAt L i8 i6 = L i6 := if_neg (by omega)
  have e8 : doneAt L i8 i8 = true := if_pos rfl
  have t5 : tellAt b i8 u i5 = b i5 := if_neg (by omega)
  have t6 : tellAt b i8 u i6 = b i6 := if_neg (by omega)
  refine ⟨h.kept.setCell hle _, ?_, h.pne, ?_, ?_, ?_, ?_, ?_, ?_, h.f.kept hs (.inr fun q => own_ne h.f hq (by decide) q.symm), by rw [heap_setCell_other _ _ _ _ (fun e => by have hgk := h.gk; rw [e, hq] at hgk; simp only [Option.some.injEq, Obj.cells.injEq] at hgk; exact absurd hgk.2.1 (by decide))]; exact h.gk⟩
  · rw [hs.block pb (Array.getElem?_eq_some_iff.1 h.pk).1 ?_]
    · exact h.pk
    · intro e
      have e' : pb = mb := Option.some.inj e
      have hp := h.pk
      rw [e', hq] at hp
      simp only [Option.some.injEq, Obj.cells.injEq] at hp
      exact absurd hp.2.1 (by decide)
  · rw [e8, e6, e1]; exact fun _ => ⟨d6, d1⟩
  · rw [e5, e6, t5]
    intro e
    obtain ⟨g, q1, -⟩ := h.n5 e
    exact ⟨g, q1, fun e3 => by rw [d6] at e3; cases e3⟩
  · rw [e6, d6]; intro e; cases e
  · rw [t6]; exact fun _ => (h.t d6).kept hs (.inr fun q => own_ne (h.t d6) hq (by decide) q.symm)
  · rw [heap_setCell_other _ _ _ _ hne]; exact h.r
  · rw [e8, t6]
    rw [heap_setCell_same _ _ _ _ _ _ hq]
    rfl
theorem ApP.done (h : ApP i1 i5 i6 i8 W rb mb pb pc gb gc v k P vF m F L b w') (d6 : L i6 = true) (d8 : L i8 = true) : Msh2 W rb mb (b i6) (k + 1) P vF m F w' := by
  have hq := h.q
  rw [d8] at hq
  exact ⟨h.kept, h.r, hq, h.t d6, h.f⟩
theorem ApP.v0 (h : ApP i1 i5 i6 i8 W rb mb pb pc gb gc v k P vF m F L b w') (d1 : L i1 = false) : w'.cell? ⟨mb, 0, none⟩ = some v := by
  have hq := h.q
  rw [h.no8 (.inr d1)] at hq
  exact (cells2 hq).1
end
/-- i1 loads the list, i5 makes the list of one point, i6 appends it, i8 stores the list; block pb is read meanwhile. -/
structure ApF (i1 i5 i6 i8 : Nat) (W : World) (rb mb pb : Nat) (pc : Array Value) (gb : Nat) (gc : Array Value) (v : Value) (k : Nat) (P : Nat → Nat → Int) (vF : Value) (m : Nat) (F : Nat → Nat → Int) (L : Nat → Bool) (b : Nat → Value) (w' : World) : Prop where
  kept : Kept W w'
  pk : w'.heap[pb]? = some (.cells pc 57 (0, 0))
  pne : some pb ≠ v.ownBlock
  a8 : L i8 = true → L i6 = true ∧ L i1 = true
  n5 : L i5 = true → ∃ g, b i5 = .slice (some ⟨g, 0, none⟩) 1 1 ∧ (L i6 = false → w'.heap[g]? = some (.cells #[.int .i64 (P k 0), .int .i64 (P k 1), .int .i64 (P k 2)] 57 (0, 0)))
  s : L i6 = false → w'.ownsRow W.heap.size 57 3 v k (rowC 3 P k)
  t : L i6 = true → w'.ownsRow W.heap.size 57 3 (b i6) (k + 1) (rowC 3 P (k + 1))
  r : w'.heap[rb]? = some (.cells #[.slice none 0 0, .slice none 0 0] 25 (0, 0))
  q : w'.heap[mb]? = some (.cells #[vF, if L i8 = true then b i6 else v] 25 (0, 0))
  f : w'.ownsRow W.heap.size 36 3 vF m (rowC 3 F m)
  gk : w'.heap[gb]? = some (.cells gc 9 (0, 0))
section
variable {i1 i5 i6 i8 : Nat} {W : World} {rb mb pb k m : Nat} {gb : Nat} {pc gc : Array Value} {v vF : Value} {P F : Nat → Nat → Int} {L : Nat → Bool} {b : Nat → Value} {w' w'' : World}
theorem ApF.start {wr : World} (h : Msh2 W rb mb vF m F v k P wr) (hk : Kept wr w') (hp : w'.heap[pb]? = some (.cells pc 57 (0, 0))) (hne : wr.heap.size ≤ pb) (hgk : w'.heap[gb]? = some (.cells gc 9 (0, 0))) : ApF i1 i5 i6 i8 W rb mb pb pc gb gc v k P vF m F (fun _ => false) b w' := by
  have h' := h.on hk
  refine ⟨h'.kept, hp, fun e => ?_, fun e => (by cases e), fun e => (by cases e), fun _ => h'.f, fun e => (by cases e), h'.r, h'.q, h'.p, hgk⟩
  have := (h.f.lt pb e.symm).2
  omega
theorem ApF.on (h : ApF i1 i5 i6 i8 W rb mb pb pc gb gc v k P vF m F L b w') (hk : Kept w' w'') : ApF i1 i5 i6 i8 W rb mb pb pc gb gc v k P vF m F L b w'' :=
  ⟨h.kept.trans hk, fr_kept h.pk hk, h.pne, h.a8, fun e => by
    obtain ⟨g, e1, e2⟩ := h.n5 e
    exact ⟨g, e1, fun e3 => fr_kept (e2 e3) hk⟩, fun e => owns_kept (h.s e) hk, fun e => owns_kept (h.t e) hk, fr_kept h.r hk, fr_kept h.q hk, owns_kept h.f hk, fr_kept h.gk hk⟩
theorem ApF.other (h : ApF i1 i5 i6 i8 W rb mb pb pc gb gc v k P vF m F L b w') {i : Nat} (h1 : i ≠ i1) (h5 : i ≠ i5) (h6 : i ≠ i6) (h8 : i ≠ i8) : ApF i1 i5 i6 i8 W rb mb pb pc gb gc v k P vF m F (doneAt L i) b w' := by
  have d1 : doneAt L i i1 = L i1 := if_neg (Ne.symm h1)
  have d5 : doneAt L i i5 = L i5 := if_neg (Ne.symm h5)
  have d6 : doneAt L i i6 = L i6 := if_neg (Ne.symm h6)
  have d8 : doneAt L i i8 = L i8 := if_neg (Ne.symm h8)
  refine ⟨h.kept, h.pk, h.pne, ?_, ?_, ?_, ?_, h.r, ?_, h.f, h.gk⟩
  · rw [d8, d6, d1]; exact h.a8
  · rw [d5, d6]; exact h.n5
  · rw [d6]; exact h.s
  · rw [d6]; exact h.t
  · rw [d8]; exact h.q
theorem ApF.no8 (h : ApF i1 i5 i6 i8 W rb mb pb pc gb gc v k P vF m F L b w') (h3 : L i6 = false ∨ L i1 = false) : L i8 = false := by
  cases h8 : L i8 with
  | false => rfl
  | true =>
    have := h.a8 h8
    rw [this.1, this.2] at h3
    simp at h3
theorem ApF.op1 {u : Value} (h : ApF i1 i5 i6 i8 W rb mb pb pc gb gc v k P vF m F L b w') (hi : i1 < i5 ∧ i5 < i6 ∧ i6 < i8) (d : L i1 = false) : ApF i1 i5 i6 i8 W rb mb pb pc gb gc v k P vF m F (doneAt L i1) (tellAt b i1 u) w' := by
  have d5 : doneAt L i1 i5 = L i5 := if_neg (by omega)
  have d6 : doneAt L i1 i6 = L i6 := if_neg (by omega)
  have d8 : doneAt L i1 i8 = L i8 := if_neg (by omega)
  have t5 : tellAt b i1 u i5 = b i5 := if_neg (by omega)
  have t6 : tellAt b i1 u i6 = b i6 := if_neg (by omega)
  refine ⟨h.kept, h.pk, h.pne, ?_, ?_, ?_, ?_, h.r, ?_, h.f, h.gk⟩
  · rw [d8, d6]; intro e; exact ⟨(h.a8 e).1, if_pos rfl⟩
  · rw [d5, d6, t5]; exact h.n5
  · rw [d6]; exact h.s
  · rw [d6, t6]; exact h.t
  · rw [d8, t6]; exact h.q
theorem ApF.op5 (h : ApF i1 i5 i6 i8 W rb mb pb pc gb gc v k P vF m F L b w') (hi : i1 < i5 ∧ i5 < i6 ∧ i6 < i8) :
    ApF i1 i5 i6 i8 W rb mb pb pc gb gc v k P vF m F (doneAt L i5) (tellAt b i5 (.slice (some ⟨w'.heap.size, 0, none⟩) 1 1)) (w'.alloc (.cells #[.int .i64 (P k 0), .int .i64 (P k 1), .int .i64 (P k 2)] 57)) := by
  have h' := h.on ((Kept.refl w').alloc (.cells #[.int .i64 (P k 0), .int .i64 (P k 1), .int .i64 (P k 2)] 57))
  have d1 : doneAt L i5 i1 = L i1 := if_neg (by omega)
  have d6 : doneAt L i5 i6 = L i6 := if_neg (by omega)
  have d8 : doneAt L i5 i8 = L i8 := if_neg (by omega)
  have t6 : tellAt b i5 (.slice (some ⟨w'.heap.size, 0, none⟩) 1 1) i6 = b i6 := if_neg (by omega)
  refine ⟨h'.kept, h'.pk, h'.pne, ?_, ?_, ?_, ?_, h'.r, ?_, h'.f, h'.gk⟩
  · rw [d8, d6, d1]; exact h'.a8
  · intro _; exact ⟨_, if_pos rfl, fun _ => heap_alloc_new w' _⟩
  · rw [d6]; exact h'.s
  · rw [d6, t6]; exact h'.t
  · rw [d8, t6]; exact h'.q
theorem ApF.op6 {v' : Value} (h : ApF i1 i5 i6 i8 W rb mb pb pc gb gc v k P vF m F L b w') (hi : i1 < i5 ∧ i5 < i6 ∧ i6 < i8) (d : L i6 = false) (hown : w''.ownsRow W.heap.size 57 3 v' (k + 1) (rowC 3 P (k + 1))) (hg : w'.grownBy w'' v.ownBlock) :
    ApF i1 i5 i6 i8 W rb mb pb pc gb gc v k P vF m F (doneAt L i6) (tellAt b i6 v') w'' := by
  have e8 := h.no8 (.inl d)
  have hp := h.s d
  have hq := h.q
  rw [e8] at hq
  have d1 : doneAt L i6 i1 = L i1 := if_neg (by omega)
  have d5 : doneAt L i6 i5 = L i5 := if_neg (by omega)
  have d6 : doneAt L i6 i6 = true := if_pos rfl
  have d8 : doneAt L i6 i8 = L i8 := if_neg (by omega)
  have t5 : tellAt b i6 v' i5 = b i5 := if_neg (by omega)
  have t6 : tellAt b i6 v' i6 = v' := if_pos rfl
  refine ⟨kept_grown h.kept hp (Nat.le_refl _) hg, ?_, h.pne, ?_, ?_, ?_, ?_, own_keepsB hp hg h.r (by decide), ?_, h.f.kept hg (own_ne2 hp h.f (by decide)), own_keepsB hp hg h.gk (by decide)⟩
  · rw [hg.block pb (Array.getElem?_eq_some_iff.1 h.pk).1 h.pne]; exact h.pk
  · rw [d8, e8]; intro e; cases e
  · rw [d5, t5]
    intro e
    obtain ⟨g, e1, -⟩ := h.n5 e
    exact ⟨g, e1, fun e3 => by rw [d6] at e3; cases e3⟩
  · rw [d6]; intro e; cases e
  · rw [t6]; exact fun _ => hown
  · rw [d8, e8]; exact own_keepsB hp hg hq (by decide)
theorem ApF.op8 {u : Value} (h : ApF i1 i5 i6 i8 W rb mb pb pc gb gc v k P vF m F L b w') (hi : i1 < i5 ∧ i5 < i6 ∧ i6 < i8) (d1 : L i1 = true) (d6 : L i6 = true) (d8 : L i8 = false) (hne : rb ≠ mb) (hle : W.heap.size ≤ mb) :
    ApF i1 i5 i6 i8 W rb mb pb pc gb gc v k P vF m F (doneAt L i8) (tellAt b i8 u) (w'.setCell ⟨mb, 1, none⟩ (b i6)) := by
  have hq := h.q
  rw [d8] at hq
  have hs : w'.grownBy (w'.setCell ⟨mb, 1, none⟩ (b i6)) (some mb) := ⟨rfl, rfl, rfl, by simp, fun i _ hi => heap_setCell_other w' ⟨mb, 1, none⟩ i _ (fun e => hi (by simp [e]))⟩
  have e1 : doneAt L i8 i1 = L i1 := if_neg (by omega)
  have e5 : doneAt L i8 i5 = L i5 := if_neg (by omega)
  have e6 : doneAt L i8 i6 = L i6 := if_neg (by omega)
  have e8 : doneAt L i8 i8 = true := if_pos rfl
  have t5 : tellAt b i8 u i5 = b i5 := if_neg (by omega)
  have t6 : tellAt b i8 u i6 = b i6 := if_neg (by omega)
  refine ⟨h.kept.setCell hle _, ?_, h.pne, ?_, ?_, ?_, ?_, ?_, ?_, h.f.kept hs (.inr fun q => own_ne h.f hq (by decide) q.symm), by rw [heap_setCell_other _ _ _ _ (fun e => by have hgk := h.gk; rw [e, hq] at hgk; simp only [Option.some.injEq, Obj.cells.injEq] at hgk; exact absurd hgk.2.1 (by decide))]; exact h.gk⟩
  · rw [hs.block pb (Array.getElem?_eq_some_iff.1 h.pk).1 ?_]
    · exact h.pk
    · intro e
      have e' : pb = mb := Option.some.inj e
      have hp := h.pk
      rw [e', hq] at hp
      simp only [Option.some.injEq, Obj.cells.injEq] at hp
      exact absurd hp.2.1 (by decide)
  · rw [e8, e6, e1]; exact fun _ => ⟨d6, d1⟩
  · rw [e5, e6, t5]
    intro e
    obtain ⟨g, q1, -⟩ := h.n5 e
    exact ⟨g, q1, fun e3 => by rw [d6] at e3; cases e3⟩
  · rw [e6, d6]; intro e; cases e
  · rw [t6]; exact fun _ => (h.t d6).kept hs (.inr fun q => own_ne (h.t d6) hq (by decide) q.symm)
  · rw [heap_setCell_other _ _ _ _ hne]; exact h.r
  · rw [e8, t6]
    rw [heap_setCell_same _ _ _ _ _ _ hq]
    rfl
theorem ApF.done (h : ApF i1 i5 i6 i8 W rb mb pb pc gb gc v k P vF m F L b w') (d6 : L i6 = true) (d8 : L i8 = true) : Msh2 W rb mb vF m F (b i6) (k + 1) P w' := by
  have hq := h.q
  rw [d8] at hq
  exact ⟨h.kept, h.r, hq, h.f, h.t d6⟩
theorem ApF.v0 (h : ApF i1 i5 i6 i8 W rb mb pb pc gb gc v k P vF m F L b w') (d1 : L i1 = false) : w'.cell? ⟨mb, 1, none⟩ = some v := by
  have hq := h.q
  rw [h.no8 (.inr d1)] at hq
  exact (cells2 hq).2.1
end
theorem one_rowsT {g : Nat} {T : TypeId} {z0 z1 z2 : Int} {w : World} (h : w.heap[g]? = some (.cells #[.int .i64 z0, .int .i64 z1, .int .i64 z2] T (0, 0))) (hI : I64 z0 ∧ I64 z1 ∧ I64 z2) : RowsAt w (some ⟨g, 0, none⟩) 1 3 (fun _ j => if j = 0 then z0 else if j = 1 then z1 else z2) := by
  intro _
  refine ⟨g, 0, rfl, (Array.getElem?_eq_some_iff.1 h).1, fun k hk j hj => ?_⟩
  obtain rfl : k = 0 := by omega
  rcases (show j = 0 ∨ j = 1 ∨ j = 2 by omega) with rfl | rfl | rfl
  · exact ⟨by unfold World.cell?; simp only [h]; rfl, hI.1⟩
  · exact ⟨by unfold World.cell?; simp only [h]; rfl, hI.2.1⟩
  · exact ⟨by unfold World.cell?; simp only [h]; rfl, hI.2.2⟩
section
variable {W wr Wb w1 : World} {rb mb pb gb k m : Nat} {pc gc : Array Value} {v v' vF : Value} {P F : Nat → Nat → Int}
theorem app_pt (h : Msh2 W rb mb v k P vF m F wr) (hk : Kept wr Wb) (hp : Wb.heap[pb]? = some (.cells pc 57 (0, 0))) (hne : wr.heap.size ≤ pb) (hgk : Wb.heap[gb]? = some (.cells gc 9 (0, 0)))
    (hown : w1.ownsRow W.heap.size 36 3 v' (k + 1) (rowC 3 P (k + 1))) (hg : (Wb.alloc (.cells #[.int .i64 (P k 0), .int .i64 (P k 1), .int .i64 (P k 2)] 36)).grownBy w1 v.ownBlock) (hrm : rb ≠ mb) (hle : W.heap.size ≤ mb) :
    w1.heap[mb]? = some (.cells #[v, vF] 25 (0, 0)) ∧ Msh2 W rb mb v' (k + 1) P vF m F (w1.setCell ⟨mb, 0, none⟩ v') ∧ (w1.setCell ⟨mb, 0, none⟩ v').heap[gb]? = some (.cells gc 9 (0, 0)) := by
  have h0 := ApP.start (i1 := 1) (i5 := 2) (i6 := 3) (i8 := 4) (b := fun _ => undef) h hk hp hne hgk
  have h1 := h0.op1 (u := undef) (by omega) rfl
  have h2 := h1.op5 (by omega)
  have h3 := h2.op6 (v' := v') (by omega) rfl hown hg
  have h4 := h3.op8 (u := undef) (by omega) rfl rfl rfl hrm hle
  exact ⟨h3.q, h4.done rfl rfl, h4.gk⟩
theorem app_fc (h : Msh2 W rb mb vF m F v k P wr) (hk : Kept wr Wb) (hp : Wb.heap[pb]? = some (.cells pc 57 (0, 0))) (hne : wr.heap.size ≤ pb) (hgk : Wb.heap[gb]? = some (.cells gc 9 (0, 0)))
    (hown : w1.ownsRow W.heap.size 57 3 v' (k + 1) (rowC 3 P (k + 1))) (hg : (Wb.alloc (.cells #[.int .i64 (P k 0), .int .i64 (P k 1), .int .i64 (P k 2)] 57)).grownBy w1 v.ownBlock) (hrm : rb ≠ mb) (hle : W.heap.size ≤ mb) :
    w1.heap[mb]? = some (.cells #[vF, v] 25 (0, 0)) ∧ Msh2 W rb mb vF m F v' (k + 1) P (w1.setCell ⟨mb, 1, none⟩ v') ∧ (w1.setCell ⟨mb, 1, none⟩ v').heap[gb]? = some (.cells gc 9 (0, 0)) := by
  have h0 := ApF.start (i1 := 1) (i5 := 2) (i6 := 3) (i8 := 4) (b := fun _ => undef) h hk hp hne hgk
  have h1 := h0.op1 (u := undef) (by omega) rfl
  have h2 := h1.op5 (by omega)
  have h3 := h2.op6 (v' := v') (by omega) rfl hown hg
  have h4 := h3.op8 (u := undef) (by omega) rfl rfl rfl hrm hle
  exact ⟨h3.q, h4.done rfl rfl, h4.gk⟩
end
end Go.Proofs.YtbefphfgcbbcpaaDoor

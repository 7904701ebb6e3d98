/- Contract: a square matrix in new memory. Conditions: it has at most six rows. -/
import Derived.Test.YtoejdfpmmgldpaaSub
import Derived.Laws.CopyOwn
namespace Go.Proofs.Ytoejdfpmmgldpaa
set_option linter.unusedVariables false
set_option linter.unusedSimpArgs false
open Go.RowKit Go.Deep
theorem own_fill {w : World} {base b l : Nat} {e : TypeId} {xs : List Value} (h : w.ownsRow base e 1 (.slice (some ⟨b, 0, none⟩) l l) l xs) (cs : List Value) (hl : cs.length = l) :
    ∃ cur, w.heap[b]? = some (.cells cur e (0, 0)) ∧ cur.size = l ∧ (w.setRow b cs.toArray).ownsRow base e 1 (.slice (some ⟨b, 0, none⟩) l l) l cs ∧ w.grownBy (w.setRow b cs.toArray) (some b) := by
  rcases h.2 with ⟨q, -⟩ | ⟨g', cap, cur, hv, hb, hg, h1, h2, h3, h4⟩
  · cases q
  · simp only [Value.slice.injEq, Option.some.injEq, Addr.mk.injEq] at hv
    obtain ⟨⟨rfl, -⟩, -, rfl⟩ := hv
    refine ⟨cur, hg, by omega, ⟨by rw [Nat.mul_one]; exact hl, .inr ⟨b, l, cs.toArray, rfl, hb, setRow_heap w b cur cs.toArray e (0, 0) hg, h1, h2, by simpa using hl, by rw [List.take_of_length_le (by simpa using Nat.le_of_eq hl)]⟩⟩, ?_⟩
    refine ⟨rfl, rfl, rfl, by simp [World.setRow], fun k hk hne => setRow_other w b k _ (fun q => hne (by rw [q]))⟩
/-- A row filled. -/
theorem OwnM.fillR {W wr : World} {base g N : Nat} {V : Nat → Value} {L : Nat → Nat} {f : Nat → Nat → Int} (h : OwnM W base g N V L f wr) {i b : Nat} (hi : i < N) (hV : V i = .slice (some ⟨b, 0, none⟩) (L i) (L i)) (x : Nat → Int) :
    ∃ cur, wr.heap[b]? = some (.cells cur 3 (0, 0)) ∧ cur.size = L i ∧ OwnM W base g N V L (fun k => if k = i then x else f k) (wr.setRow b (rowC 1 (fun k _ => x k) (L i)).toArray) := by
  have hr := h.r i hi
  rw [hV] at hr
  obtain ⟨cur, c1, c2, c3, c4⟩ := own_fill hr (rowC 1 (fun k _ => x k) (L i)) (by rw [rowC_len, Nat.mul_one])
  have hbl := (hr.lt b rfl).1
  refine ⟨cur, c1, c2, kept_by h.on (by have := h.hb; omega) c4, h.hb, h.o.kept c4 (own_ne2 hr h.o (by decide)), fun k hk => ?_, h.d⟩
  by_cases e : k = i
  · subst e
    have e2 : rowC 1 (fun q _ => (if k = k then x else f k) q) (L k) = rowC 1 (fun q _ => x q) (L k) := rowC_congr fun q hq p hp => by rw [if_pos rfl]
    rw [hV, e2]
    exact c3
  · have e2 : rowC 1 (fun q _ => (if k = i then x else f k) q) (L k) = rowC 1 (fun q _ => f k q) (L k) := rowC_congr fun q hq p hp => by rw [if_neg e]
    rw [e2]
    exact (h.r k hk).kept c4 (by
      have := h.d k i hk hi e
      rw [hV] at this
      exact this)
theorem rowC_src {w : World} {A : Option Addr} {m : Nat} {f : Nat → Nat → Int} {ad : Addr} (hr : RowsAt w A m 1 f) (hA : A = some ad) : ∀ j u, (rowC 1 f m)[j]? = some u → w.cell? (ad.add j) = some u := by
  intro j u hu
  obtain ⟨h1, h2, rfl⟩ := rowC_cut (by omega) hu
  obtain ⟨b, off, h, -, hcell⟩ := hr (Nat.lt_of_le_of_lt (Nat.zero_le _) h1)
  rw [hA] at h
  injection h with h
  subst h
  have := (hcell _ h1 _ h2).1
  rw [show off + j / 1 * 1 + j % 1 = off + j by rw [Nat.div_one, Nat.mod_one, Nat.mul_one, Nat.add_zero]] at this
  have e : (Addr.mk b off none).add j = ⟨b, off + j, none⟩ := by
    unfold Addr.add
    by_cases h0 : j = 0
    · rw [if_pos h0, h0, Nat.add_zero]
    · rw [if_neg h0]
  rw [e]
  exact this
set_option maxRecDepth 100000 in
set_option maxHeartbeats 8000000 in
theorem ccopied_any (A : Option Addr) (n cap : Nat) (B : Nat → Option Addr) (cp : Nat → Nat) (f : Nat → Nat → Int) (w : World) (hn : n ≤ 6) (h : MatAt w A n B (fun _ => n) cp f) :
    Calls Try.prog 98 #[.slice A n cap] w fun e w' => ∃ g V, e = .returned (.slice (some ⟨g, 0, none⟩) n n) ∧ OwnM w w.heap.size g n V (fun _ => n) f w' ∧ ∀ i, i < n → ∃ b, V i = .slice (some ⟨b, 0, none⟩) n n := by
  have HM := Lib.hid h
  clear h
  have hm1 := mk_S n hn
  have hm2 := mk_I n hn
  go_enter Try.func98, Try.ntmps98
  go_wp2
  obtain ⟨g, hg⟩ : ∃ g, w.heap.size = g := ⟨_, rfl⟩
  have h0 := OwnM.made w hn f
  rw [hg] at h0 ⊢
  have H0 := Lib.hid h0
  clear h0 hm1
  go_loopw [11] (fun i wr => ∃ k : Nat, k ≤ n ∧ i = .int .i64 k ∧ ∃ V, (∀ j, j < k → ∃ b, V j = .slice (some ⟨b, 0, none⟩) n n) ∧ OwnM w g g n V (fun j => if j < k then n else 0) f wr) (fun i _ => n - (intOf i).toNat)
  case atStart => exact ⟨0, by omega, rfl, _, fun j hj => absurd hj (by omega), H0.out.congr (fun _ _ => rfl) (fun i hi => by rw [if_neg (by omega)]) (fun _ _ _ _ => rfl)⟩
  case round =>
    obtain ⟨k, hk, rfl, V, hV, hM⟩ := hrel
    by_cases hlt : k < n
    · obtain ⟨ab, ao, rfl, hab, c0⟩ := (HM.out.of hM.on).at hlt
      obtain ⟨bb, bo, hB, hbb, -, -⟩ := rows1 ((HM.out.of hM.on).el k hlt) hlt
      rw [hB] at c0
      obtain ⟨v0, v1, v2, v3⟩ := hM.cellV hlt
      have LA : Lower ab wr.heap.size := ⟨hab⟩
      have LG : Lower g wr.heap.size := ⟨v3⟩
      have hN := hM.newR hlt hn
      obtain ⟨nb, hnb⟩ : ∃ x, wr.heap.size = x := ⟨_, rfl⟩
      obtain ⟨cur, f1, f2, f3⟩ := hN.fillR (b := nb) hlt (by rw [if_pos rfl, if_pos rfl, hnb]) (f k)
      rw [if_pos rfl] at f2
      simp only [if_true] at f3
      have hsrc := rowC_src ((HM.out.of hN.on).el k hlt) hB
      rw [hnb] at f1 f3 hsrc hN
      have hcopy := run_copy_row (P := Try.prog) ((wr.setCell ⟨g, k, none⟩ (.slice (some ⟨nb, 0, none⟩) n n)).alloc (.cells (madeCells #[.int .i64 0] n) 3)) 23 23 3 3 nb 0 n n ⟨bb, bo, none⟩ n (cp k) cur 3 (rowC 1 (fun j _ => f k j) n) (by kernel_rfl) (by kernel_rfl) f1 (by rw [rowC_len]; simp [Nat.min_def]) hsrc (by rw [rowC_len]; omega) rowC_one
      rw [rowC_len, Nat.mul_one, show (cur.toList.take 0 ++ rowC 1 (fun j _ => f k j) n ++ cur.toList.drop (0 + n)).toArray = (rowC 1 (fun j _ => f k j) n).toArray by rw [List.drop_of_length_le (by simp; omega)]; simp] at hcopy
      have F1 := Lib.hid f1
      have F2 := Lib.hid f2
      have F3 := Lib.hid f3
      have SRC := Lib.hid hsrc
      have HV := Lib.hid hV
      have HM2 := Lib.hid hM
      have hcell : (wr.setCell ⟨g, k, none⟩ (.slice (some ⟨nb, 0, none⟩) n n)).cell? ⟨g, k, none⟩ = some (.slice (some ⟨nb, 0, none⟩) n n) := by
        have := (hN.cellV hlt).1
        rw [if_pos rfl, cell_older] at this
        exact this
      have HC := Lib.hid hcell
      clear hM hV hN f1 f2 f3 hsrc hcell
      go_wp2
      go_roundw
      case rel =>
        refine ⟨k + 1, by omega, by go_num, _, ?_, F3.out.congr (fun _ _ => rfl) ?_ ?_⟩
        · intro j hj
          by_cases e : j = k
          · exact ⟨nb, by rw [if_pos e]⟩
          · obtain ⟨b, hb⟩ := HV.out j (by omega)
            exact ⟨b, by rw [if_neg e, hb]⟩
        · intro i hi
          by_cases e : i = k
          · rw [if_pos e, if_pos (by omega)]
          · rw [if_neg e]
            by_cases e2 : i < k
            · rw [if_pos e2, if_pos (by omega)]
            · rw [if_neg e2, if_neg (by omega)]
        · intro i hi j hj
          by_cases e : i = k
          · subst e; rw [if_pos rfl]
          · rw [if_neg e, if_neg e]
      case measure => simp [intOf]; omega
    · obtain rfl : k = n := by omega
      have HM2 := Lib.hid hM
      have HV := Lib.hid hV
      clear hM hV
      go_wp2
      go_ret
      rw [hg]
      exact ⟨g, V, rfl, HM2.out.congr (fun _ _ => rfl) (fun i hi => if_pos hi) (fun _ _ _ _ => rfl), HV.out⟩
end Go.Proofs.Ytoejdfpmmgldpaa

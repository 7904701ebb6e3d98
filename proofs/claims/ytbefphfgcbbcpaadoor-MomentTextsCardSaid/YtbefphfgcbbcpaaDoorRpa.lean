/- Contract: moments of texts, of the reference. Conditions: the library's variables hold what start-up lays; the text is short. -/
import Derived.Test.YtbefphfgcbbcpaaDoorRfo
import Derived.Test.YtbefphfgcbbcpaaDoorNbm
import Derived.Test.YtbefphfgcbbcpaaDoorSpi
import Derived.Test.YtbefphfgcbbcpaaDoorFrs
namespace Go.Proofs.YtbefphfgcbbcpaaDoor
set_option linter.unusedVariables false
set_option linter.unusedSimpArgs false
open Go.ChangeShapes Go.WideShapes Go.ChangeAt Go.RowKit Go.Deep
theorem mL_bd2 {m : Mo} (h : okM m = true) : ∀ j, -17179869184 ≤ (mL m).getD j 0 ∧ (mL m).getD j 0 ≤ 17179869184 := by
  have hb := okM_bd h
  intro j
  by_cases hj : j < 11
  · rcases (show j = 0 ∨ j = 1 ∨ j = 2 ∨ j = 3 ∨ j = 4 ∨ j = 5 ∨ j = 6 ∨ j = 7 ∨ j = 8 ∨ j = 9 ∨ j = 10 by omega) with rfl | rfl | rfl | rfl | rfl | rfl | rfl | rfl | rfl | rfl | rfl <;> simp only [mL, List.getD_cons_zero, List.getD_cons_succ] <;> omega
  · rw [List.getD_eq_getElem?_getD, List.getElem?_eq_none (by show 11 ≤ j; omega)]
    simp
theorem arr_set {w : World} {g k : Nat} {C : Array Value} {T : TypeId} {u : Value} (h : w.heap[g]? = some (.cells C T (0, 0))) : (w.setCell ⟨g, k, none⟩ u).heap[g]? = some (.cells (C.setIfInBounds k u) T (0, 0)) := by
  unfold World.setCell
  rw [Array.getElem?_modify, if_pos rfl, h]
  rfl
theorem arr_at {w : World} {g k : Nat} {C : Array Value} {T : TypeId} (h : w.heap[g]? = some (.cells C T (0, 0))) : w.cell? ⟨g, k, none⟩ = C[k]? ∧ w.frozen? ⟨g, k, none⟩ = false ∧ g < w.heap.size := by
  refine ⟨?_, ?_, (Array.getElem?_eq_some_iff.1 h).1⟩
  · unfold World.cell?; simp [h]
  · unfold World.frozen?; simp [h]
/-- The numbers read stand for the words read. -/
def ValsOk (ps : List (List UInt8)) (vs : List Int) : Prop := vs.length = ps.length ∧ ∀ k, k < ps.length → ∀ u, -17179869184 ≤ u ∧ u ≤ 17179869184 → ps.getD k [] = Lib.itoa u → vs.getD k 0 = u
theorem ValsOk.more {ps : List (List UInt8)} {vs : List Int} (h : ValsOk ps vs) {p : List UInt8} {v : Int} (hv : ∀ u, -17179869184 ≤ u ∧ u ≤ 17179869184 → p = Lib.itoa u → v = u) : ValsOk (ps ++ [p]) (vs ++ [v]) := by
  obtain ⟨h1, h2⟩ := h
  refine ⟨by simp [h1], fun k hk u hu e => ?_⟩
  rw [List.length_append, List.length_singleton] at hk
  rw [List.getD_eq_getElem?_getD] at e ⊢
  by_cases q : k < ps.length
  · rw [List.getElem?_append_left q] at e
    rw [List.getElem?_append_left (by omega), ← List.getD_eq_getElem?_getD]
    exact h2 k q u hu (by rw [List.getD_eq_getElem?_getD]; exact e)
  · obtain rfl : k = ps.length := by omega
    rw [List.getElem?_append_right (Nat.le_refl _)] at e
    rw [List.getElem?_append_right (by omega), h1]
    simp at e ⊢
    exact hv u hu e
set_option maxRecDepth 100000 in
set_option maxHeartbeats 16000000 in
theorem r4Par_any (l : List UInt8) (w : World) (hl : l.length ≤ 2000) (h : Ld w) :
    Calls Tryd.prog 16 #[.string ⟨l.toArray⟩] w fun e w' => ParseM l e ∧ Kept w w' := by
  obtain ⟨ti, hti, hte⟩ := Option.map_eq_some_iff.1 info_I
  simp only [Prod.mk.injEq] at hte
  have HT := Lib.hid hti
  have HTE := Lib.hid hte
  clear hti hte
  have HL := Lib.hid h
  have key : ∀ m, okM m = true → l = jn (mL m) → (wds 32 l).length = 11 ∧ ∀ j, j < 11 → (wds 32 l).getD j [] = Lib.itoa ((mL m).getD j 0) := fun m hm e => ⟨(words_of hm e).1, fun j hj => ((words_of hm e).2 j hj).1⟩
  have HKEY := Lib.hid key
  have bad : (∀ m, okM m = true → l ≠ jn (mL m)) → ParseM l (.returned (.tuple #[.agg #[.int .i64 0, .int .i64 0, .int .i64 0, .int .i64 0, .int .i64 0, .int .i64 0, .int .i64 0, .int .i64 0, .int .i64 0, .int .i64 0, .int .i64 0], .int .i64 3])) := fun hb => .inr ⟨hb, rfl⟩
  have HBD := Lib.hid bad
  clear h key bad
  go_enter Tryd.func16, Tryd.ntmps16
  go_wp2_with fail
  go_loopw [4, 5, 6] (fun o f i wr => ∃ (F r : Nat) (ps : List (List UInt8)) (vs : List Int) (y : More), f = .int .i64 F ∧ i = .int .i64 r ∧ ((r ≤ l.length ∧ SpC 32 l ps F r) ∨ (r = l.length + 1 ∧ wds 32 l = ps)) ∧ ps.length ≤ 11 ∧ ValsOk ps vs ∧ wr = ext (w.alloc (.cells #[.int .i64 0, .int .i64 0, .int .i64 0, .int .i64 0, .int .i64 0, .int .i64 0, .int .i64 0, .int .i64 0, .int .i64 0, .int .i64 0, .int .i64 0] 39)) y ∧ wr.ownsRow (w.heap.size + 1) 3 1 o ps.length (vs.map fun u => Value.int .i64 u)) (fun _ _ i _ => l.length + 2 - (intOf i).toNat)
  case atStart => exact ⟨0, 0, [], [], ⟨w.drawn, #[]⟩, rfl, rfl, .inl ⟨by omega, SpC.start 32 l⟩, by simp, ⟨rfl, fun k hk => absurd hk (by simp)⟩, by simp [ext]; rfl, World.ownsRow_nil _ _ _ _⟩
  case round =>
    obtain ⟨F, r, ps, vs, y, rfl, rfl, hst, hp11, hok, rfl, hO⟩ := hrel
    obtain ⟨OA, oc, rfl⟩ := own_slice2 hO
    have HO := Lib.hid hO
    have HOK := Lib.hid hok
    clear hO hok
    by_cases hrl : r ≤ l.length
    · have hsp : SpC 32 l ps F r := by
        rcases hst with ⟨-, k⟩ | ⟨k, -⟩
        · exact k
        · omega
      have hle := hsp.le
      have g0 : decide ((r : Int) ≤ l.length) = true := decide_eq_true (by omega)
      have HSP := Lib.hid hsp
      clear hst hsp
      obtain ⟨p, hp⟩ : ∃ p, (l.take r).drop F = p := ⟨_, rfl⟩
      have hpl : p.length ≤ 2000 := by rw [← hp, List.length_drop, List.length_take]; omega
      have hx : (⟨l.toArray⟩ : ByteArray).extract F r = ⟨p.toArray⟩ := by rw [← hp]; exact ext_eq l (by omega) (by omega)
      have HN := Lib.hid (fun w => r4numb_any p w hpl)
      have HP := Lib.hid hp
      clear hp
      by_cases hlt : r < l.length
      · have g1 : decide ((r : Int) < l.length) = true := decide_eq_true (by omega)
        obtain ⟨c, hc⟩ : ∃ c, l[r] = c := ⟨_, rfl⟩
        have hget : ((⟨l.toArray⟩ : ByteArray)[r]'(by show r < l.toArray.size; simpa using hlt)) = c := hc
        have hc256 := c.toNat_lt
        by_cases h32 : c.toNat = 32
        · have g2 : ((c.toNat : Int) == 32) = true := by rw [h32]; rfl
          have hc32 : l[r] = 32 := by rw [hc]; exact UInt8.toNat_inj.1 h32
          have hpc : ∃ rest, wds 32 l = ps ++ p :: rest := by rw [← HP.out]; exact HSP.out.piece hlt hc32
          have HCUT := Lib.hid (HSP.out.cut hlt hc32)
          have badw : (∀ m, okM m = true → l = jn (mL m) → ps.length < 11 ∧ p = Lib.itoa ((mL m).getD ps.length 0)) := fun m hm e => by
            obtain ⟨k1, k2⟩ := HKEY.out m hm e
            obtain ⟨rest, k3⟩ := hpc
            rw [k3, List.length_append, List.length_cons] at k1
            have k4 := k2 ps.length (by omega)
            rw [k3, List.getD_eq_getElem?_getD, List.getElem?_append_right (Nat.le_refl _)] at k4
            simp at k4
            exact ⟨by omega, by simpa using k4⟩
          have HBW := Lib.hid badw
          clear badw hpc
          by_cases h11 : ps.length = 11
          · have g5 : ((ps.length : Int) == 11) = true := by rw [h11]; rfl
            have HER := Lib.hid (HBD.out fun m hm e => by have := (HBW.out m hm e).1; omega)
            go_wp2_with (go_at_call 38; refine (HN.out _).mono ?_; rintro e w1 ⟨v, b1, rfl, ⟨x2, rfl⟩, iv, q1⟩; have Q1 := Lib.hid q1; clear q1)
            all_goals
              refine bodyPost_ret (by simp only [results, Tryd.results16]; go_simp; rfl) rfl ?_
              exact ⟨HER.out, by (repeat (first | exact Kept.refl _ | assumption | refine Kept.alloc ?_ _ | refine Kept.ext ?_ _ | refine Kept.drew ?_ | refine Kept.drewN ?_ _))⟩
          · have g5 : ((ps.length : Int) == 11) = false := beq_eq_false_iff_ne.2 (by omega)
            go_wp2_with (first | (go_at_call 38; refine (HN.out _).mono ?_; rintro e w1 ⟨v, b1, rfl, ⟨x2, rfl⟩, iv, q1⟩; have Q1 := Lib.hid q1; clear q1) | (at_builtin; refine wpList_append_lies _ rfl (.tmp 45) (.tmp 47) 79 rfl (w.heap.size + 1) 3 ti _ 1 8 Tryd.underlying79 HT.out HTE.out.1 HTE.out.2.1 HTE.out.2.2 rfl (by omega) _ _ _ rfl (owns_kept HO.out (by (repeat (first | exact Kept.refl _ | assumption | refine Kept.alloc ?_ _ | refine Kept.ext ?_ _ | refine Kept.drew ?_ | refine Kept.drewN ?_ _)))) _ 1 1 [.int .i64 v] rfl rfl (by rw [← World.size_alloc w (.cells #[.int .i64 0, .int .i64 0, .int .i64 0, .int .i64 0, .int .i64 0, .int .i64 0, .int .i64 0, .int .i64 0, .int .i64 0, .int .i64 0, .int .i64 0] 39), ← ext_size, ← ext_size]; exact lit_cell _ _ _) (lit_one _ rfl) (by omega) (by unfold maxLen; omega) (by omega) (by rw [World.size_alloc, ext_size, ext_size, World.size_alloc]; exact Nat.le_trans (Nat.le_trans (adv_le _ _) (adv_le _ _)) (Nat.le_succ _)) _ rfl ?_; intro g1 cp1 w1 k1 k2 k3 k4; have E1 := Lib.hid (kept_grown (W := (w.alloc (.cells #[.int .i64 0, .int .i64 0, .int .i64 0, .int .i64 0, .int .i64 0, .int .i64 0, .int .i64 0, .int .i64 0, .int .i64 0, .int .i64 0, .int .i64 0] 39))) (show Kept (w.alloc (.cells #[.int .i64 0, .int .i64 0, .int .i64 0, .int .i64 0, .int .i64 0, .int .i64 0, .int .i64 0, .int .i64 0, .int .i64 0, .int .i64 0, .int .i64 0] 39)) _ by (repeat (first | exact Kept.refl _ | assumption | refine Kept.alloc ?_ _ | refine Kept.ext ?_ _ | refine Kept.drew ?_ | refine Kept.drewN ?_ _))) (owns_kept HO.out (by (repeat (first | exact Kept.refl _ | assumption | refine Kept.alloc ?_ _ | refine Kept.ext ?_ _ | refine Kept.drew ?_ | refine Kept.drewN ?_ _)))) (by rw [World.size_alloc]; exact Nat.le_refl _) k2); have K1 := Lib.hid k1; clear k1 k2 k3 k4))
            · rename_i hb
              go_roundw
              case rel =>
                obtain ⟨y', hy'⟩ := E1.out
                exact ⟨r + 1, r + 1, ps ++ [p], vs ++ [v], y', by go_num, by go_num, .inl ⟨by omega, by rw [← HP.out]; exact HCUT.out⟩, by rw [List.length_append, List.length_singleton]; omega, HOK.out.more (fun u hu e => (Q1.out u hu e).2), hy', by rw [List.length_append, List.length_singleton, List.map_append]; exact K1.out⟩
              case measure => simp [intOf]; omega
            · rename_i hb
              refine bodyPost_ret (by simp only [results, Tryd.results16]; go_simp; rfl) rfl ?_
              exact ⟨HBD.out fun m hm e => hb (Q1.out _ (mL_bd2 hm _) (HBW.out m hm e).2).1, by (repeat (first | exact Kept.refl _ | assumption | refine Kept.alloc ?_ _ | refine Kept.ext ?_ _ | refine Kept.drew ?_ | refine Kept.drewN ?_ _))⟩
        · have g2 : ((c.toNat : Int) == 32) = false := beq_eq_false_iff_ne.2 (by omega)
          have HMO := Lib.hid (HSP.out.more hlt (by rw [hc]; intro q; rw [q] at h32; exact h32 rfl))
          go_wp2_with fail
          go_roundw
          case rel => exact ⟨F, r + 1, ps, vs, y, rfl, by go_num, .inl ⟨by omega, HMO.out⟩, hp11, HOK.out, rfl, HO.out⟩
          case measure => simp [intOf]; omega
      · obtain rfl : r = l.length := by omega
        have g1 : decide ((l.length : Int) < l.length) = false := decide_eq_false (by omega)
        have hpl2 : l.drop F = p := by rw [← HP.out, List.take_length]
        have hwl : wds 32 l = ps ++ [p] := by rw [← hpl2]; exact HSP.out.last
        have hpc : ∃ rest, wds 32 l = ps ++ p :: rest := ⟨[], hwl⟩
        have HWL := Lib.hid hwl
        clear hpl2 hwl
        have badw : (∀ m, okM m = true → l = jn (mL m) → ps.length < 11 ∧ p = Lib.itoa ((mL m).getD ps.length 0)) := fun m hm e => by
          obtain ⟨k1, k2⟩ := HKEY.out m hm e
          obtain ⟨rest, k3⟩ := hpc
          rw [k3, List.length_append, List.length_cons] at k1
          have k4 := k2 ps.length (by omega)
          rw [k3, List.getD_eq_getElem?_getD, List.getElem?_append_right (Nat.le_refl _)] at k4
          simp at k4
          exact ⟨by omega, by simpa using k4⟩
        have HBW := Lib.hid badw
        clear badw hpc
        by_cases h11 : ps.length = 11
        · have g5 : ((ps.length : Int) == 11) = true := by rw [h11]; rfl
          have HER := Lib.hid (HBD.out fun m hm e => by have := (HBW.out m hm e).1; omega)
          go_wp2_with (go_at_call 38; refine (HN.out _).mono ?_; rintro e w1 ⟨v, b1, rfl, ⟨x2, rfl⟩, iv, q1⟩; have Q1 := Lib.hid q1; clear q1)
          all_goals
            refine bodyPost_ret (by simp only [results, Tryd.results16]; go_simp; rfl) rfl ?_
            exact ⟨HER.out, by (repeat (first | exact Kept.refl _ | assumption | refine Kept.alloc ?_ _ | refine Kept.ext ?_ _ | refine Kept.drew ?_ | refine Kept.drewN ?_ _))⟩
        · have g5 : ((ps.length : Int) == 11) = false := beq_eq_false_iff_ne.2 (by omega)
          go_wp2_with (first | (go_at_call 38; refine (HN.out _).mono ?_; rintro e w1 ⟨v, b1, rfl, ⟨x2, rfl⟩, iv, q1⟩; have Q1 := Lib.hid q1; clear q1) | (at_builtin; refine wpList_append_lies _ rfl (.tmp 45) (.tmp 47) 79 rfl (w.heap.size + 1) 3 ti _ 1 8 Tryd.underlying79 HT.out HTE.out.1 HTE.out.2.1 HTE.out.2.2 rfl (by omega) _ _ _ rfl (owns_kept HO.out (by (repeat (first | exact Kept.refl _ | assumption | refine Kept.alloc ?_ _ | refine Kept.ext ?_ _ | refine Kept.drew ?_ | refine Kept.drewN ?_ _)))) _ 1 1 [.int .i64 v] rfl rfl (by rw [← World.size_alloc w (.cells #[.int .i64 0, .int .i64 0, .int .i64 0, .int .i64 0, .int .i64 0, .int .i64 0, .int .i64 0, .int .i64 0, .int .i64 0, .int .i64 0, .int .i64 0] 39), ← ext_size, ← ext_size]; exact lit_cell _ _ _) (lit_one _ rfl) (by omega) (by unfold maxLen; omega) (by omega) (by rw [World.size_alloc, ext_size, ext_size, World.size_alloc]; exact Nat.le_trans (Nat.le_trans (adv_le _ _) (adv_le _ _)) (Nat.le_succ _)) _ rfl ?_; intro g1 cp1 w1 k1 k2 k3 k4; have E1 := Lib.hid (kept_grown (W := (w.alloc (.cells #[.int .i64 0, .int .i64 0, .int .i64 0, .int .i64 0, .int .i64 0, .int .i64 0, .int .i64 0, .int .i64 0, .int .i64 0, .int .i64 0, .int .i64 0] 39))) (show Kept (w.alloc (.cells #[.int .i64 0, .int .i64 0, .int .i64 0, .int .i64 0, .int .i64 0, .int .i64 0, .int .i64 0, .int .i64 0, .int .i64 0, .int .i64 0, .int .i64 0] 39)) _ by (repeat (first | exact Kept.refl _ | assumption | refine Kept.alloc ?_ _ | refine Kept.ext ?_ _ | refine Kept.drew ?_ | refine Kept.drewN ?_ _))) (owns_kept HO.out (by (repeat (first | exact Kept.refl _ | assumption | refine Kept.alloc ?_ _ | refine Kept.ext ?_ _ | refine Kept.drew ?_ | refine Kept.drewN ?_ _)))) (by rw [World.size_alloc]; exact Nat.le_refl _) k2); have K1 := Lib.hid k1; clear k1 k2 k3 k4))
          · rename_i hb
            go_roundw
            case rel =>
              obtain ⟨y', hy'⟩ := E1.out
              exact ⟨l.length + 1, l.length + 1, ps ++ [p], vs ++ [v], y', by go_num, by go_num, .inr ⟨rfl, HWL.out⟩, by rw [List.length_append, List.length_singleton]; omega, HOK.out.more (fun u hu e => (Q1.out u hu e).2), hy', by rw [List.length_append, List.length_singleton, List.map_append]; exact K1.out⟩
            case measure => first | (simp [intOf]; done) | (simp [intOf]; omega)
          · rename_i hb
            refine bodyPost_ret (by simp only [results, Tryd.results16]; go_simp; rfl) rfl ?_
            exact ⟨HBD.out fun m hm e => hb (Q1.out _ (mL_bd2 hm _) (HBW.out m hm e).2).1, by (repeat (first | exact Kept.refl _ | assumption | refine Kept.alloc ?_ _ | refine Kept.ext ?_ _ | refine Kept.drew ?_ | refine Kept.drewN ?_ _))⟩
    · obtain rfl : r = l.length + 1 := by
        rcases hst with ⟨k, -⟩ | ⟨k, -⟩ <;> omega
      have hw : wds 32 l = ps := by
        rcases hst with ⟨k, -⟩ | ⟨-, k⟩
        · omega
        · exact k
      have g0 : decide (((l.length + 1 : Nat) : Int) ≤ l.length) = false := decide_eq_false (by omega)
      have g0b : decide ((l.length : Int) + 1 ≤ l.length) = false := decide_eq_false (by omega)
      have HW := Lib.hid hw
      clear hst hw
      obtain ⟨n, hn⟩ : ∃ n, ps.length = n := ⟨_, rfl⟩
      by_cases h11 : n = 11
      · subst h11
        rw [hn] at HO ⊢
        have hop := HO.out
        obtain ⟨b, he, hb1, hb2, -, -, hb3⟩ := own_at hop (by omega)
        subst he
        have LB : Lower b (adv (w.heap.size + 1) y.obs.size) := ⟨by rw [ext_size, World.size_alloc] at hb2; exact hb2⟩
        have hvl : vs.length = 11 := by rw [HOK.out.1, hn]
        obtain ⟨V, hV⟩ : ∃ V : Nat → Int, V = fun j => vs.getD j 0 := ⟨_, rfl⟩
        have cl : ∀ j, j < 11 → (ext (w.alloc (.cells #[.int .i64 0, .int .i64 0, .int .i64 0, .int .i64 0, .int .i64 0, .int .i64 0, .int .i64 0, .int .i64 0, .int .i64 0, .int .i64 0, .int .i64 0] 39)) y).cell? ⟨b, j, none⟩ = some (.int .i64 (V j)) := fun j hj => by
          rw [hb3 j hj, List.getElem?_map, hV]
          simp only [List.getD_eq_getElem?_getD]
          rw [List.getElem?_eq_getElem (by omega)]
          rfl
        have hcut : ∀ m, okM m = true → l = jn (mL m) → ∀ j, j < 11 → V j = (mL m).getD j 0 := fun m hm e j hj => by
          obtain ⟨k1, k2⟩ := HKEY.out m hm e
          rw [hV]
          exact HOK.out.2 j (by omega) _ (mL_bd2 hm j) (by rw [← HW.out]; exact k2 j hj)
        have g1 : (11 : Int) ≠ 0 := by decide
        have HCL := Lib.hid cl
        have HCUT := Lib.hid hcut
        have c0 := cl 0 (by omega); have c1 := cl 1 (by omega); have c2 := cl 2 (by omega); have c3 := cl 3 (by omega); have c4 := cl 4 (by omega)
        clear hop hb3 hcut HO HOK hn hvl hV
        go_wp2_with fail
        have hFr : frsB [.q, .q, .q, .q, .q, .q, .q, .q, .q, .q, .q, .q, .q, .q, .q, .q, .q, .s, .s] [⟨17, 18, 39, #[.int .i64 0, .int .i64 0, .int .i64 0, .int .i64 0, .int .i64 0, .int .i64 0, .int .i64 0, .int .i64 0, .int .i64 0, .int .i64 0, .int .i64 0], #[.int .i64 (V 0), .int .i64 (V 1), .int .i64 (V 2), .int .i64 (V 3), .int .i64 (V 4), .int .i64 0, .int .i64 0, .int .i64 0, .int .i64 0, .int .i64 0, .int .i64 0]⟩] = true := by kernel_rfl
        refine wp_region_frs _ _ (by kernel_rfl) (by kernel_rfl) hFr (fun b => by kernel_rfl) ?_
        apply Exists.intro
        refine ⟨?_, ?_, ?_, ?_⟩
        · rintro b' W ⟨yy, rfl⟩
          simp only [swapL, Nat.reduceAdd]
          repeat (go_big_quiet_step (fail))
          refine wpQuiet_nil ?_
          rfl
        · simp only [EachS, and_true]
          refine ⟨?_, ?_⟩
          · exact fun L b' w' hd hL hI => FI.tells_alloc hFr 0 rfl hI hL (by go_simp)
          · exact fun L b' w' hd hL hI => FI.tells_store hFr 0 rfl hI hL (hd { on := 17, ground := .data } (by simp) rfl) 39 (.tmp 9) (.tmp 71) rfl rfl rfl (by kernel_rfl) rfl (by kernel_rfl)
        · intro b1 b2 d hd
          simp [callSlots, dullOp] at hd
          rcases hd with rfl | rfl <;> rfl
        · intro L b' w' hL hI
          obtain ⟨g, e0, l0, h0⟩ := hI.ends 0 rfl (hL 17 (by decide)) (hL 18 (by decide))
          have e0' : b' 17 = _ := e0
          have hk := hI.kept
          clear hFr e0 hI hL
          simp only [e0']
          clear e0'
          go_wp2_with fail
          obtain ⟨y1, rfl⟩ : ∃ y1, w' = ext (w.alloc (.cells #[.int .i64 0, .int .i64 0, .int .i64 0, .int .i64 0, .int .i64 0, .int .i64 0, .int .i64 0, .int .i64 0, .int .i64 0, .int .i64 0, .int .i64 0] 39)) y1 := (show Kept (w.alloc (.cells #[.int .i64 0, .int .i64 0, .int .i64 0, .int .i64 0, .int .i64 0, .int .i64 0, .int .i64 0, .int .i64 0, .int .i64 0, .int .i64 0, .int .i64 0] 39)) (ext (w.alloc (.cells #[.int .i64 0, .int .i64 0, .int .i64 0, .int .i64 0, .int .i64 0, .int .i64 0, .int .i64 0, .int .i64 0, .int .i64 0, .int .i64 0, .int .i64 0] 39)) y) by (repeat (first | exact Kept.refl _ | assumption | refine Kept.alloc ?_ _ | refine Kept.ext ?_ _ | refine Kept.drew ?_ | refine Kept.drewN ?_ _))).trans hk
          have hgb : (w.alloc (.cells #[.int .i64 0, .int .i64 0, .int .i64 0, .int .i64 0, .int .i64 0, .int .i64 0, .int .i64 0, .int .i64 0, .int .i64 0, .int .i64 0, .int .i64 0] 39)).heap.size ≤ g := Nat.le_trans (kept_le ⟨y, rfl⟩) l0
          have hbg : b ≠ g := by omega
          have hbl : b < (ext (w.alloc (.cells #[.int .i64 0, .int .i64 0, .int .i64 0, .int .i64 0, .int .i64 0, .int .i64 0, .int .i64 0, .int .i64 0, .int .i64 0, .int .i64 0, .int .i64 0] 39)) y1).heap.size := Nat.lt_of_lt_of_le hb2 (kept_le hk)
          have cl2 : ∀ j, j < 11 → (ext (w.alloc (.cells #[.int .i64 0, .int .i64 0, .int .i64 0, .int .i64 0, .int .i64 0, .int .i64 0, .int .i64 0, .int .i64 0, .int .i64 0, .int .i64 0, .int .i64 0] 39)) y1).cell? ⟨b, j, none⟩ = some (.int .i64 (V j)) := fun j hj => cell_old (HCL.out j hj) hb2 hk
          have h0' : (ext (w.alloc (.cells #[.int .i64 0, .int .i64 0, .int .i64 0, .int .i64 0, .int .i64 0, .int .i64 0, .int .i64 0, .int .i64 0, .int .i64 0, .int .i64 0, .int .i64 0] 39)) y1).heap[g]? = some (.cells (cellsA (stepF V (5 + 0))) 39 (0, 0)) := h0
          have HST := Lib.hid (And.intro h0' (And.intro hbl cl2))
          clear HCL c0 c1 c2 c3 c4 hb2 l0 h0 hk hbl cl2 h0' LB
          go_loopw [10] (fun i wr => ∃ (r : Nat) (y2 : More), r ≤ 6 ∧ i = .int .i64 r ∧ wr = ext (w.alloc (.cells #[.int .i64 0, .int .i64 0, .int .i64 0, .int .i64 0, .int .i64 0, .int .i64 0, .int .i64 0, .int .i64 0, .int .i64 0, .int .i64 0, .int .i64 0] 39)) y2 ∧ wr.heap[g]? = some (.cells (cellsA (stepF V (5 + r))) 39 (0, 0)) ∧ b < wr.heap.size ∧ ∀ j, j < 11 → wr.cell? ⟨b, j, none⟩ = some (.int .i64 (V j))) (fun i _ => 6 - (intOf i).toNat)
          case atStart => exact ⟨0, y1, by omega, rfl, rfl, HST.out.1, HST.out.2.1, HST.out.2.2⟩
          case round =>
            obtain ⟨r, y2, hr, rfl, rfl, hg, hbl, cl2⟩ := hrel
            have hgl := (arr_at (k := 0) hg).2.2
            have LB : Lower b (adv (w.heap.size + 1) y2.obs.size) := ⟨by rw [ext_size, World.size_alloc] at hbl; exact hbl⟩
            have LG : Lower g (adv (w.heap.size + 1) y2.obs.size) := ⟨by rw [ext_size, World.size_alloc] at hgl; exact hgl⟩
            have HG := Lib.hid hg
            have HBL := Lib.hid hbl
            have HC2 := Lib.hid cl2
            by_cases hlt : r < 6
            · have g0 : decide ((r : Int) < 6) = true := decide_eq_true (by omega)
              have g2 : ¬ (6 : Int) ≤ r := by omega
              have g3 : ¬ (11 : Int) ≤ 5 + r := by omega
              have g4 : ((5 : Int) + r).toNat = 5 + r := by omega
              have c1 := cl2 (5 + r) (by omega)
              obtain ⟨s1, s2, -⟩ := arr_at (k := 5 + r) hg
              rw [cellsA_at _ (by omega)] at s1
              clear hg hbl cl2 hgl
              go_wp2_with fail
              go_roundw
              case rel =>
                obtain ⟨y3, hy3⟩ := Kept.setCell (show Kept (w.alloc (.cells #[.int .i64 0, .int .i64 0, .int .i64 0, .int .i64 0, .int .i64 0, .int .i64 0, .int .i64 0, .int .i64 0, .int .i64 0, .int .i64 0, .int .i64 0] 39)) (ext (w.alloc (.cells #[.int .i64 0, .int .i64 0, .int .i64 0, .int .i64 0, .int .i64 0, .int .i64 0, .int .i64 0, .int .i64 0, .int .i64 0, .int .i64 0, .int .i64 0] 39)) y2) from ⟨y2, rfl⟩) (p := ⟨g, 5 + r, none⟩) hgb (.int .i64 (V (5 + r)))
                refine ⟨r + 1, y3, by omega, by go_num, hy3, ?_, ?_, fun j hj => ?_⟩
                · rw [arr_set HG.out, cellsA_set V (by omega)]; rfl
                · unfold World.setCell; simpa using HBL.out
                · rw [World.cell?_setCell_other (h := fun q => by injection q with q1; exact hbg q1.symm)]; exact HC2.out j hj
              case measure => simp [intOf]; omega
            · obtain rfl : r = 6 := by omega
              have g0 : decide (((6 : Nat) : Int) < 6) = false := rfl
              have e1 : cellsA (stepF V (5 + 6)) = #[.int .i64 (V 0), .int .i64 (V 1), .int .i64 (V 2), .int .i64 (V 3), .int .i64 (V 4), .int .i64 (V 5), .int .i64 (V 6), .int .i64 (V 7), .int .i64 (V 8), .int .i64 (V 9), .int .i64 (V 10)] := rfl
              rw [e1] at hg
              clear HG HBL HC2 cl2 e1 LG
              obtain ⟨v0, h0⟩ : ∃ v, V 0 = v := ⟨_, rfl⟩
              obtain ⟨v1, h1⟩ : ∃ v, V 1 = v := ⟨_, rfl⟩
              obtain ⟨v2, h2⟩ : ∃ v, V 2 = v := ⟨_, rfl⟩
              obtain ⟨v3, h3⟩ : ∃ v, V 3 = v := ⟨_, rfl⟩
              obtain ⟨v4, h4⟩ : ∃ v, V 4 = v := ⟨_, rfl⟩
              obtain ⟨v5, h5⟩ : ∃ v, V 5 = v := ⟨_, rfl⟩
              obtain ⟨v6, h6⟩ : ∃ v, V 6 = v := ⟨_, rfl⟩
              obtain ⟨v7, h7⟩ : ∃ v, V 7 = v := ⟨_, rfl⟩
              obtain ⟨v8, h8⟩ : ∃ v, V 8 = v := ⟨_, rfl⟩
              obtain ⟨v9, h9⟩ : ∃ v, V 9 = v := ⟨_, rfl⟩
              obtain ⟨v10, h10⟩ : ∃ v, V 10 = v := ⟨_, rfl⟩
              simp only [h0, h1, h2, h3, h4, h5, h6, h7, h8, h9, h10] at hg
              obtain ⟨M, hM⟩ : ∃ M : Mo, M = ⟨v0, v1, v2, v3, v4, v5, v6, v7, v8, v9, v10⟩ := ⟨_, rfl⟩
              have hcut : ∀ m, okM m = true → l = jn (mL m) → m = M := fun m hm e => by
                have k := HCUT.out m hm e
                rw [hM]
                have k0 := k 0 (by omega); have k1 := k 1 (by omega); have k2 := k 2 (by omega); have k3 := k 3 (by omega); have k4 := k 4 (by omega); have k5 := k 5 (by omega); have k6 := k 6 (by omega); have k7 := k 7 (by omega); have k8 := k 8 (by omega); have k9 := k 9 (by omega); have k10 := k 10 (by omega)
                rw [← h0, k0, ← h1, k1, ← h2, k2, ← h3, k3, ← h4, k4, ← h5, k5, ← h6, k6, ← h7, k7, ← h8, k8, ← h9, k9, ← h10, k10]
                rfl
              have hf : ∀ w', Kept w w' → _ := fun w' hk => r4Fmt_any v0 v1 v2 v3 v4 v5 v6 v7 v8 v9 v10 w' (HL.out.on hk)
              rw [← hM] at hf
              have HCUT2 := Lib.hid hcut
              have HM := Lib.hid hM
              obtain ⟨i1, rfl, -, t1, d1, f1⟩ := late_at hg hgb
              clear hg hgb hgl hbl hbg hcut hM h0 h1 h2 h3 h4 h5 h6 h7 h8 h9 h10
              cases hv : okM M
              · have e2 : vmS M = 1 := by unfold vmS; rw [hv]; rfl
                rw [e2] at hf
                have hbad : ParseM l (.returned (.tuple #[.agg #[.int .i64 0, .int .i64 0, .int .i64 0, .int .i64 0, .int .i64 0, .int .i64 0, .int .i64 0, .int .i64 0, .int .i64 0, .int .i64 0, .int .i64 0], .int .i64 3])) := .inr ⟨fun m hm e => (by rw [HCUT2.out m hm e, hv] at hm; cases hm), rfl⟩
                have HBAD := Lib.hid hbad
                have HF := Lib.hid hf
                clear hf hv e2 hbad
                go_wp2_with (go_at_call 14; refine (HF.out _ (by (repeat (first | exact Kept.refl _ | assumption | refine Kept.alloc ?_ _ | refine Kept.ext ?_ _ | refine Kept.drew ?_ | refine Kept.drewN ?_ _)))).mono ?_; rintro e w1 ⟨rfl, x4, rfl⟩)
                refine bodyPost_ret (by simp only [results, Tryd.results16]; go_simp; rfl) rfl ?_
                exact ⟨HBAD.out, by (repeat (first | exact Kept.refl _ | assumption | refine Kept.alloc ?_ _ | refine Kept.ext ?_ _ | refine Kept.drew ?_ | refine Kept.drewN ?_ _))⟩
              · have e2 : vmS M = 0 := by unfold vmS; rw [hv]; rfl
                have e3 : fmtM M = jn (mL M) := by unfold fmtM; rw [hv]; rfl
                rw [e2, e3] at hf
                have HF := Lib.hid hf
                have HV := Lib.hid hv
                clear hf hv e2 e3
                go_wp2_with (go_at_call 14; refine (HF.out _ (by (repeat (first | exact Kept.refl _ | assumption | refine Kept.alloc ?_ _ | refine Kept.ext ?_ _ | refine Kept.drew ?_ | refine Kept.drewN ?_ _)))).mono ?_; rintro e w1 ⟨rfl, x4, rfl⟩)
                · rename_i hq
                  refine bodyPost_ret (by simp only [results, Tryd.results16]; go_simp; rfl) rfl ?_
                  refine ⟨.inr ⟨fun m hm e => ?_, rfl⟩, by (repeat (first | exact Kept.refl _ | assumption | refine Kept.alloc ?_ _ | refine Kept.ext ?_ _ | refine Kept.drew ?_ | refine Kept.drewN ?_ _))⟩
                  have e5 := HCUT2.out m hm e
                  rw [e5] at e
                  rw [e] at hq
                  simp at hq
                · rename_i hq
                  refine bodyPost_ret (by simp only [results, Tryd.results16]; go_simp; rfl) rfl ?_
                  refine ⟨.inl ⟨M, HV.out, ?_, by rw [HM.out]⟩, by (repeat (first | exact Kept.refl _ | assumption | refine Kept.alloc ?_ _ | refine Kept.ext ?_ _ | refine Kept.drew ?_ | refine Kept.drewN ?_ _))⟩
                  simp at hq
                  exact hq.symm
      · have g1 : ((n : Int) == 11) = false := beq_eq_false_iff_ne.2 (by omega)
        have HER := Lib.hid (HBD.out fun m hm e => h11 (by rw [← hn, ← HW.out]; exact (HKEY.out m hm e).1))
        rw [hn]
        clear hn h11
        go_wp2_with fail
        refine bodyPost_ret (by simp only [results, Tryd.results16]; go_simp; rfl) rfl ?_
        exact ⟨HER.out, by (repeat (first | exact Kept.refl _ | assumption | refine Kept.alloc ?_ _ | refine Kept.ext ?_ _ | refine Kept.drew ?_ | refine Kept.drewN ?_ _))⟩
end Go.Proofs.YtbefphfgcbbcpaaDoor

/- Contract: the forms of orders, of the program: a map from first words. No conditions. -/
import Derived.Test.YtnbjealpcjfllaaGreatDoorJd
import Derived.Maps.OwnSet
namespace Go.Proofs.YtnbjealpcjfllaaGreatDoor
set_option linter.unusedVariables false
set_option linter.unusedSimpArgs false
open Go.Maps Go.RowKit
/-- A form: its kind, how many names and numbers, and whether more numbers may follow. -/
abbrev Fm := Nat × Nat × Nat × Bool
def fmV (x : Fm) : Value := .agg #[.int .i64 x.1, .int .i64 x.2.1, .int .i64 x.2.2.1, .bool x.2.2.2]
def fmD (x : Fm) : DataW Unit := .agg [.lit (.int .i64 x.1), .lit (.int .i64 x.2.1), .lit (.int .i64 x.2.2.1), .lit (.bool x.2.2.2)]
theorem fmV_inj {x y : Fm} (h : fmV x = fmV y) : x = y := by
  obtain ⟨a, b, c, d⟩ := x
  obtain ⟨a', b', c', d'⟩ := y
  simp only [fmV, Value.agg.injEq, Array.mk.injEq, List.cons.injEq, Value.int.injEq, Value.bool.injEq, true_and, and_true, Int.natCast_inj] at h
  obtain ⟨rfl, rfl, rfl, rfl⟩ := h
  rfl
theorem fmD_inj {x y : Fm} (h : fmD x = fmD y) : x = y := by
  obtain ⟨a, b, c, d⟩ := x
  obtain ⟨a', b', c', d'⟩ := y
  simp only [fmD, DataW.agg.injEq, List.cons.injEq, DataW.lit.injEq, Lit.int.injEq, Lit.bool.injEq, true_and, and_true, Int.natCast_inj] at h
  obtain ⟨rfl, rfl, rfl, rfl⟩ := h
  rfl
open Classical in
noncomputable def fmR (v : Value) : Option (DataW Unit × List MemPlace) := if h : ∃ x, v = fmV x then some (fmD h.choose, []) else none
theorem fmR_mk (x : Fm) : fmR (fmV x) = some (fmD x, []) := by
  have h : ∃ y, fmV x = fmV y := ⟨x, rfl⟩
  unfold fmR
  rw [dif_pos h, ← fmV_inj h.choose_spec]
theorem fmR_inv {v : Value} {x : Fm} {ps : List MemPlace} (h : fmR v = some (fmD x, ps)) : v = fmV x := by
  unfold fmR at h
  split at h
  · rename_i q
    simp only [Option.some.injEq, Prod.mk.injEq] at h
    rw [← fmD_inj h.1]
    exact q.choose_spec
  · cases h
/-- Block b is a map from texts that has what c tells. -/
def MapF (w : World) (b n : Nat) (c : List UInt8 → Option Fm) : Prop :=
  ∃ D : DataW Unit, w.ownsMap Tryz.prog 9 fmR b n D ∧ Maps.IsMap D ∧ ∀ i kl, keyOf Tryz.prog 9 (strV i) = some kl → Maps.has D kl = (c i).isSome ∧ D.atKey kl (fmD (0, 0, 0, false)) = fmD ((c i).getD (0, 0, 0, false))
theorem MapF.made (w : World) : MapF (w.alloc (.map #[] 0)) w.heap.size 0 fun _ => none :=
  ⟨_, World.ownsMap_made w Tryz.prog 9 _, ⟨_, rfl⟩, fun _ _ _ => ⟨rfl, rfl⟩⟩
theorem MapF.kept {w w' : World} {b n : Nat} {c : List UInt8 → Option Fm} (h : MapF w b n c) (hk : Kept w w') : MapF w' b n c := by
  obtain ⟨D, h1, h2, h3⟩ := h
  exact ⟨D, h1.kept hk.grown (by simp), h2, h3⟩
theorem key_str (l : List UInt8) (hl : l.length ≤ maxLen) : ∃ kl, keyOf Tryz.prog 9 (strV l) = some kl := ⟨.string l, by
  simp only [keyOf, Tryz.underlying9, mapKey, strV]
  exact if_pos hl⟩
theorem strV_inj {a b : List UInt8} (h : strV a = strV b) : a = b := by
  simpa [strV] using h
theorem MapF.run_look {w : World} {b n : Nat} {c : List UInt8 → Option Fm} (hM : MapF w b n c) (i : List UInt8) (hi : i.length ≤ maxLen) (hz : (zeroValue 120).run Tryz.prog w = .ok (fmV (0, 0, 0, false)) w) :
    (Instr.lookup 182 (.map (some b)) (strV i) true).run Tryz.prog w = .ok (.tuple #[fmV ((c i).getD (0, 0, 0, false)), .bool (c i).isSome]) w := by
  obtain ⟨D, h1, -, h3⟩ := hM
  obtain ⟨kl, hkl⟩ := key_str i hi
  obtain ⟨v, ps, hrun, hv⟩ := h1.look_ok (string_keyed Tryz.underlying9) Tryz.underlying182 hz (fmR_mk (0, 0, 0, false)) hkl
  obtain ⟨e1, e2⟩ := h3 i kl hkl
  rw [e2] at hv
  rw [hrun, e1, fmR_inv hv]
/-- The map while it is made. -/
def FS (W w : World) (b n : Nat) (c : List UInt8 → Option Fm) : Prop := Kept W w ∧ W.heap.size ≤ b ∧ MapF w b n c
theorem FS.put {W w : World} {b n : Nat} {c : List UInt8 → Option Fm} (hM : FS W w b n c) (hn : n < maxLen) (i : List UInt8) (hi : i.length ≤ maxLen) (z : Fm) :
    ∃ w', (Instr.mapUpdate 182 (.map (some b)) (strV i) (fmV z)).run Tryz.prog w = .ok () w' ∧ FS W w' b (n + 1) (fun j => if j = i then some z else c j) := by
  obtain ⟨hk, hb, D, h1, h2, h3⟩ := hM
  obtain ⟨kl, hkl⟩ := key_str i hi
  have K := string_keyed (P := Tryz.prog) Tryz.underlying9
  obtain ⟨w', hrun, h1', hg'⟩ := h1.update K Tryz.underlying182 hn hkl (fmR_mk z)
  refine ⟨w', hrun, hk.map_store hb hg', hb, _, h1', h2.put _ _, fun j kl' hkj => ?_⟩
  dsimp only
  by_cases hji : j = i
  · subst hji
    rw [if_pos rfl]
    rw [hkl] at hkj
    injection hkj with e1
    subst e1
    exact ⟨Maps.has_put_same h2 (K.key hkl) _, Maps.atKey_put_same h2 (K.key hkl) _ _⟩
  · have hne := fun e1 => hji (strV_inj (K.inj (hkj.trans (congrArg some e1)) hkl))
    rw [if_neg hji, Maps.has_put_other hne, Maps.atKey_put_other hne]
    exact h3 j kl' hkj
theorem forms_eq (j : List UInt8) : (if j = [100, 97, 121] then some (12, 0, 0, false) else (if j = [105, 109, 112, 114, 111, 118, 101] then some (11, 1, 1, false) else (if j = [112, 114, 111, 118, 101] then some (10, 1, 2, true) else (if j = [101, 118, 101, 110] then some (9, 1, 1, false) else (if j = [117, 110, 105, 116, 101] then some (8, 2, 0, false) else (if j = [102, 105, 110, 101, 114] then some (7, 1, 0, false) else (if j = [109, 105, 114, 114, 111, 114] then some (6, 1, 0, false) else (if j = [116, 117, 114, 110] then some (5, 1, 0, false) else (if j = [115, 99, 97, 108, 101] then some (4, 1, 1, false) else (if j = [109, 111, 118, 101] then some (3, 1, 3, false) else (if j = [99, 111, 112, 121] then some (2, 2, 0, false) else (if j = [111, 99, 116, 97] then some (1, 1, 1, false) else (if j = [98, 108, 111, 99, 107] then some (0, 1, 3, false) else none))))))))))))) = formB j := by
  unfold formB
  by_cases h0 : j = [98, 108, 111, 99, 107]
  · subst h0; rfl
  by_cases h1 : j = [111, 99, 116, 97]
  · subst h1; rfl
  by_cases h2 : j = [99, 111, 112, 121]
  · subst h2; rfl
  by_cases h3 : j = [109, 111, 118, 101]
  · subst h3; rfl
  by_cases h4 : j = [115, 99, 97, 108, 101]
  · subst h4; rfl
  by_cases h5 : j = [116, 117, 114, 110]
  · subst h5; rfl
  by_cases h6 : j = [109, 105, 114, 114, 111, 114]
  · subst h6; rfl
  by_cases h7 : j = [102, 105, 110, 101, 114]
  · subst h7; rfl
  by_cases h8 : j = [117, 110, 105, 116, 101]
  · subst h8; rfl
  by_cases h9 : j = [101, 118, 101, 110]
  · subst h9; rfl
  by_cases h10 : j = [112, 114, 111, 118, 101]
  · subst h10; rfl
  by_cases h11 : j = [105, 109, 112, 114, 111, 118, 101]
  · subst h11; rfl
  by_cases h12 : j = [100, 97, 121]
  · subst h12; rfl
  simp only [if_neg h0, if_neg h1, if_neg h2, if_neg h3, if_neg h4, if_neg h5, if_neg h6, if_neg h7, if_neg h8, if_neg h9, if_neg h10, if_neg h11, if_neg h12]
set_option maxRecDepth 100000 in
set_option maxHeartbeats 8000000 in
theorem dforms_any (w : World) :
    Calls Tryz.prog 108 #[] w fun e w' => ∃ b, e = .returned (.map (some b)) ∧ Kept w w' ∧ MapF w' b 13 formB := by
  have hmk := fun W => run_makeMap (P := Tryz.prog) 182 W
  have h0 : FS w (w.alloc (.map #[] 0)) w.heap.size 0 fun _ => none := ⟨by (repeat (first | exact Kept.refl _ | assumption | refine Kept.alloc ?_ _ | refine Kept.ext ?_ _ | refine Kept.drew ?_ | refine Kept.drewN ?_ _)), Nat.le_refl _, MapF.made w⟩
  obtain ⟨w1, r1, h1⟩ := h0.put (by unfold maxLen; omega) [98, 108, 111, 99, 107] (by unfold maxLen; decide) (0, 1, 3, false)
  have r1 : (Instr.mapUpdate 182 (.map (some w.heap.size)) (.string ⟨#[98, 108, 111, 99, 107]⟩) (.agg #[.int .i64 0, .int .i64 1, .int .i64 3, .bool false])).run Tryz.prog (w.alloc (.map #[] 0)) = .ok () w1 := r1
  obtain ⟨w2, r2, h2⟩ := h1.put (by unfold maxLen; omega) [111, 99, 116, 97] (by unfold maxLen; decide) (1, 1, 1, false)
  have r2 : (Instr.mapUpdate 182 (.map (some w.heap.size)) (.string ⟨#[111, 99, 116, 97]⟩) (.agg #[.int .i64 1, .int .i64 1, .int .i64 1, .bool false])).run Tryz.prog w1 = .ok () w2 := r2
  obtain ⟨w3, r3, h3⟩ := h2.put (by unfold maxLen; omega) [99, 111, 112, 121] (by unfold maxLen; decide) (2, 2, 0, false)
  have r3 : (Instr.mapUpdate 182 (.map (some w.heap.size)) (.string ⟨#[99, 111, 112, 121]⟩) (.agg #[.int .i64 2, .int .i64 2, .int .i64 0, .bool false])).run Tryz.prog w2 = .ok () w3 := r3
  obtain ⟨w4, r4, h4⟩ := h3.put (by unfold maxLen; omega) [109, 111, 118, 101] (by unfold maxLen; decide) (3, 1, 3, false)
  have r4 : (Instr.mapUpdate 182 (.map (some w.heap.size)) (.string ⟨#[109, 111, 118, 101]⟩) (.agg #[.int .i64 3, .int .i64 1, .int .i64 3, .bool false])).run Tryz.prog w3 = .ok () w4 := r4
  obtain ⟨w5, r5, h5⟩ := h4.put (by unfold maxLen; omega) [115, 99, 97, 108, 101] (by unfold maxLen; decide) (4, 1, 1, false)
  have r5 : (Instr.mapUpdate 182 (.map (some w.heap.size)) (.string ⟨#[115, 99, 97, 108, 101]⟩) (.agg #[.int .i64 4, .int .i64 1, .int .i64 1, .bool false])).run Tryz.prog w4 = .ok () w5 := r5
  obtain ⟨w6, r6, h6⟩ := h5.put (by unfold maxLen; omega) [116, 117, 114, 110] (by unfold maxLen; decide) (5, 1, 0, false)
  have r6 : (Instr.mapUpdate 182 (.map (some w.heap.size)) (.string ⟨#[116, 117, 114, 110]⟩) (.agg #[.int .i64 5, .int .i64 1, .int .i64 0, .bool false])).run Tryz.prog w5 = .ok () w6 := r6
  obtain ⟨w7, r7, h7⟩ := h6.put (by unfold maxLen; omega) [109, 105, 114, 114, 111, 114] (by unfold maxLen; decide) (6, 1, 0, false)
  have r7 : (Instr.mapUpdate 182 (.map (some w.heap.size)) (.string ⟨#[109, 105, 114, 114, 111, 114]⟩) (.agg #[.int .i64 6, .int .i64 1, .int .i64 0, .bool false])).run Tryz.prog w6 = .ok () w7 := r7
  obtain ⟨w8, r8, h8⟩ := h7.put (by unfold maxLen; omega) [102, 105, 110, 101, 114] (by unfold maxLen; decide) (7, 1, 0, false)
  have r8 : (Instr.mapUpdate 182 (.map (some w.heap.size)) (.string ⟨#[102, 105, 110, 101, 114]⟩) (.agg #[.int .i64 7, .int .i64 1, .int .i64 0, .bool false])).run Tryz.prog w7 = .ok () w8 := r8
  obtain ⟨w9, r9, h9⟩ := h8.put (by unfold maxLen; omega) [117, 110, 105, 116, 101] (by unfold maxLen; decide) (8, 2, 0, false)
  have r9 : (Instr.mapUpdate 182 (.map (some w.heap.size)) (.string ⟨#[117, 110, 105, 116, 101]⟩) (.agg #[.int .i64 8, .int .i64 2, .int .i64 0, .bool false])).run Tryz.prog w8 = .ok () w9 := r9
  obtain ⟨w10, r10, h10⟩ := h9.put (by unfold maxLen; omega) [101, 118, 101, 110] (by unfold maxLen; decide) (9, 1, 1, false)
  have r10 : (Instr.mapUpdate 182 (.map (some w.heap.size)) (.string ⟨#[101, 118, 101, 110]⟩) (.agg #[.int .i64 9, .int .i64 1, .int .i64 1, .bool false])).run Tryz.prog w9 = .ok () w10 := r10
  obtain ⟨w11, r11, h11⟩ := h10.put (by unfold maxLen; omega) [112, 114, 111, 118, 101] (by unfold maxLen; decide) (10, 1, 2, true)
  have r11 : (Instr.mapUpdate 182 (.map (some w.heap.size)) (.string ⟨#[112, 114, 111, 118, 101]⟩) (.agg #[.int .i64 10, .int .i64 1, .int .i64 2, .bool true])).run Tryz.prog w10 = .ok () w11 := r11
  obtain ⟨w12, r12, h12⟩ := h11.put (by unfold maxLen; omega) [105, 109, 112, 114, 111, 118, 101] (by unfold maxLen; decide) (11, 1, 1, false)
  have r12 : (Instr.mapUpdate 182 (.map (some w.heap.size)) (.string ⟨#[105, 109, 112, 114, 111, 118, 101]⟩) (.agg #[.int .i64 11, .int .i64 1, .int .i64 1, .bool false])).run Tryz.prog w11 = .ok () w12 := r12
  obtain ⟨w13, r13, h13⟩ := h12.put (by unfold maxLen; omega) [100, 97, 121] (by unfold maxLen; decide) (12, 0, 0, false)
  have r13 : (Instr.mapUpdate 182 (.map (some w.heap.size)) (.string ⟨#[100, 97, 121]⟩) (.agg #[.int .i64 12, .int .i64 0, .int .i64 0, .bool false])).run Tryz.prog w12 = .ok () w13 := r13
  have HS12 := Lib.hid h13
  clear h0 h1 h2 h3 h4 h5 h6 h7 h8 h9 h10 h11 h12 h13
  go_enter Tryz.func108, Tryz.ntmps108
  go_wp2_with fail
  go_ret
  obtain ⟨k1, -, k2⟩ := HS12.out
  refine ⟨_, rfl, k1, ?_⟩
  have e : (fun j => (if j = [100, 97, 121] then some (12, 0, 0, false) else (if j = [105, 109, 112, 114, 111, 118, 101] then some (11, 1, 1, false) else (if j = [112, 114, 111, 118, 101] then some (10, 1, 2, true) else (if j = [101, 118, 101, 110] then some (9, 1, 1, false) else (if j = [117, 110, 105, 116, 101] then some (8, 2, 0, false) else (if j = [102, 105, 110, 101, 114] then some (7, 1, 0, false) else (if j = [109, 105, 114, 114, 111, 114] then some (6, 1, 0, false) else (if j = [116, 117, 114, 110] then some (5, 1, 0, false) else (if j = [115, 99, 97, 108, 101] then some (4, 1, 1, false) else (if j = [109, 111, 118, 101] then some (3, 1, 3, false) else (if j = [99, 111, 112, 121] then some (2, 2, 0, false) else (if j = [111, 99, 116, 97] then some (1, 1, 1, false) else (if j = [98, 108, 111, 99, 107] then some (0, 1, 3, false) else none)))))))))))))) = formB := funext forms_eq
  rw [e] at k2
  exact k2
end Go.Proofs.YtnbjealpcjfllaaGreatDoor

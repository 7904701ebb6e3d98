/- For every input the statement MomentEncloses returns true and leaves its arguments as they were. No conditions. -/
import Derived.Test.YtodmdicegkjicaaZo
import Derived.Test.YtodmdicegkjicaaZi
namespace Go.Proofs.Ytodmdicegkjicaa
set_option linter.unusedVariables false
set_option linter.unusedSimpArgs false
open Go.ChangeShapes Go.WideShapes Go.ChangeAt Go.RowKit Go.Deep
/-- The spans that the statement looks at. -/
def SpE (n : Nat) (f : Nat → Nat → Int) (c0 c1 c2 u0 u1 u2 d lo hi : Int) : Prop :=
  (∃ k : Nat, (farV (momF f c0 c1 c2 n) (radF f c0 c1 c2 n) u0 u1 u2 k).e = 0 ∧ lo = (farV (momF f c0 c1 c2 n) (radF f c0 c1 c2 n) u0 u1 u2 k).lo ∧ hi = (farV (momF f c0 c1 c2 n) (radF f c0 c1 c2 n) u0 u1 u2 k).hi) ∨
  ((potA n f d (c0 + u0) (c1 + u1) (c2 + u2)).e = 0 ∧ lo = (potA n f d (c0 + u0) (c1 + u1) (c2 + u2)).lo ∧ hi = (potA n f d (c0 + u0) (c1 + u1) (c2 + u2)).hi)
theorem potV_valid {n : Nat} {f : Nat → Nat → Int} {d : Nat} {x0 x1 x2 : Int} (h : (potV n f d x0 x1 x2).e = 0) : validB (potV n f d x0 x1 x2).lo (potV n f d x0 x1 x2).hi = true := by
  unfold potV at h ⊢
  split at h
  · rename_i q
    rw [if_pos q]
    unfold sumsS at h ⊢
    split at h
    · rename_i q2
      rw [if_pos q2]
      obtain ⟨r1, r2⟩ := res_e h
      rw [r1]
      exact r2
    · rename_i q2
      exact absurd h q2
  · rename_i q
    exact absurd h q
theorem potA_parts {n : Nat} {f : Nat → Nat → Int} {d x0 x1 x2 : Int} (h : (potA n f d x0 x1 x2).e = 0) : potA n f d x0 x1 x2 = potV n f d.toNat x0 x1 x2 ∧ d.toNat ≤ 3 ∧ (potV n f d.toNat x0 x1 x2).e = 0 := by
  unfold potA at h ⊢
  split at h
  · rename_i q1
    rw [if_pos q1]
    split at h
    · rename_i q2
      rw [if_pos q2]
      simp only [Bool.and_eq_true] at q2
      have := frB_true q2.2
      exact ⟨rfl, by omega, h⟩
    · cases h
  · rename_i q1
    exact absurd h q1
theorem spE_meet {n : Nat} {f : Nat → Nat → Int} {c0 c1 c2 u0 u1 u2 d a b x y : Int} (hg : givE n f c0 c1 c2 = 0) (h1 : SpE n f c0 c1 c2 u0 u1 u2 d a b) (h2 : SpE n f c0 c1 c2 u0 u1 u2 d x y) :
    (meetS a b x y).ok = true ∧ (meetS a b x y).e = 0 := by
  have key : validB a b = true ∧ validB x y = true ∧ a ≤ y ∧ x ≤ b := by
    have vb : ∀ {p q : Int}, validB p q = true → p ≤ q := fun h => by
      have := of_decide_eq_true h
      omega
    rcases h1 with ⟨j, j1, rfl, rfl⟩ | ⟨j1, rfl, rfl⟩ <;> rcases h2 with ⟨k, k1, rfl, rfl⟩ | ⟨k1, rfl, rfl⟩
    · have vj := (far_parts j1).2.2.2.2.2.2.2.1
      have vk := (far_parts k1).2.2.2.2.2.2.2.1
      exact ⟨vj, vk, (all_meet (d := 0) (by omega) hg j1).1 k k1, (all_meet (d := 0) (by omega) hg k1).1 j j1⟩
    · have vj := (far_parts j1).2.2.2.2.2.2.2.1
      obtain ⟨e, hd, hp⟩ := potA_parts k1
      rw [e]
      have := (all_meet hd hg j1).2 hp
      exact ⟨vj, potV_valid hp, this.1, this.2⟩
    · have vk := (far_parts k1).2.2.2.2.2.2.2.1
      obtain ⟨e, hd, hp⟩ := potA_parts j1
      rw [e]
      have := (all_meet hd hg k1).2 hp
      exact ⟨potV_valid hp, vk, this.2, this.1⟩
    · obtain ⟨e, hd, hp⟩ := potA_parts j1
      rw [e]
      have v := potV_valid hp
      exact ⟨v, v, vb v, vb v⟩
  obtain ⟨v1, v2, v3, v4⟩ := key
  have w1 := of_decide_eq_true v1
  have w2 := of_decide_eq_true v2
  unfold meetS
  rw [v1, v2]
  simp only [Bool.and_self, if_true]
  rw [if_pos (by omega)]
  exact ⟨rfl, rfl⟩
def spE2 (lo hi : Int) (G : Nat → Nat → Int) (L : Nat) : Nat → Nat → Int := fun k j => if k < L then G k j else if j = 0 then lo else hi
theorem spE2_row (lo hi : Int) (G : Nat → Nat → Int) (L : Nat) : rowC 2 (spE2 lo hi G L) (L + 1) = rowC 2 G L ++ [.int .i64 lo, .int .i64 hi] := by
  have h : ∀ k, k ≤ L → rowC 2 (spE2 lo hi G L) k = rowC 2 G k := fun k => by
    induction k with
    | zero => exact fun _ => rfl
    | succ k ih =>
      intro hk
      show rowC 2 _ k ++ _ = rowC 2 _ k ++ _
      rw [ih (by omega)]
      have e : ∀ j, spE2 lo hi G L k j = G k j := fun j => if_pos (by omega)
      simp only [e]
  show rowC 2 (spE2 lo hi G L) L ++ [.int .i64 (spE2 lo hi G L L 0), .int .i64 (spE2 lo hi G L L 1)] = _
  rw [h L (Nat.le_refl _)]
  have e0 : spE2 lo hi G L L 0 = lo := by unfold spE2; rw [if_neg (by omega), if_pos rfl]
  have e1 : spE2 lo hi G L L 1 = hi := by unfold spE2; rw [if_neg (by omega), if_neg (by decide)]
  rw [e0, e1]
theorem spE_I {n : Nat} {f : Nat → Nat → Int} {c0 c1 c2 u0 u1 u2 d a b : Int} (h : SpE n f c0 c1 c2 u0 u1 u2 d a b) : I64 a ∧ I64 b := by
  have key : validB a b = true := by
    rcases h with ⟨j, j1, rfl, rfl⟩ | ⟨j1, rfl, rfl⟩
    · exact (far_parts j1).2.2.2.2.2.2.2.1
    · obtain ⟨e, hd, hp⟩ := potA_parts j1
      rw [e]
      exact potV_valid hp
  have := of_decide_eq_true key
  unfold I64
  omega
set_option maxRecDepth 100000 in
set_option maxHeartbeats 16000000 in
theorem encloses_law (A : Option Addr) (n cap : Nat) (f : Nat → Nat → Int) (c0 c1 c2 u0 u1 u2 d : Int) (w : World) (h : n ≤ cap ∧ cap ≤ maxLen ∧ RowsAt w A n 10 f) :
    Calls Try.prog 3 #[.slice A n cap, .agg #[.int .i64 c0, .int .i64 c1, .int .i64 c2, .int .i64 u0, .int .i64 u1, .int .i64 u2, .int .i64 d]] w fun r w' => r = .returned (.bool true) ∧ Kept w w' := by
  obtain ⟨hn1, hn2, hs⟩ := h
  unfold maxLen at hn2
  have HS := Lib.hid hs
  clear hs
  by_cases h40 : 40 < n
  · have l1 : (40 : Int) < n := by omega
    go_enter Try.func3, Try.ntmps3
    go_wp2_with (first | (go_at_call 5; refine (sane_any _).mono ?_; rintro e w1 ⟨rfl, x, rfl⟩))
    go_ret
    exact ⟨rfl, by (repeat (first | exact Kept.refl _ | assumption | refine Kept.alloc ?_ _ | refine Kept.ext ?_ _ | refine Kept.drew ?_ | refine Kept.drewN ?_ _))⟩
  have l1 : ¬ (40 : Int) < n := by omega
  have q1 : ∀ w', _ := fun w' => small_any c0 c1 c2 64 w' (by omega)
  have q2 : ∀ w', _ := fun w' => small_any u0 u1 u2 384 w' (by omega)
  cases hb1 : inB c0 c1 c2 64
  · rw [hb1] at q1
    have Q1 := Lib.hid q1
    clear q1 q2 hb1
    go_enter Try.func3, Try.ntmps3
    go_wp2_with (first | (go_at_call 4; (with_reducible refine (Q1.out _).mono ?_); rintro e w1 ⟨rfl, y1, rfl⟩) | (go_at_call 5; refine (sane_any _).mono ?_; rintro e w1 ⟨rfl, x, rfl⟩))
    go_ret
    exact ⟨rfl, by (repeat (first | exact Kept.refl _ | assumption | refine Kept.alloc ?_ _ | refine Kept.ext ?_ _ | refine Kept.drew ?_ | refine Kept.drewN ?_ _))⟩
  cases hb2 : inB u0 u1 u2 384
  · rw [hb1] at q1
    rw [hb2] at q2
    have Q1 := Lib.hid q1
    have Q2 := Lib.hid q2
    clear q1 q2 hb1 hb2
    go_enter Try.func3, Try.ntmps3
    go_wp2_with (first | (go_at_call 4; (with_reducible refine (Q1.out _).mono ?_); rintro e w1 ⟨rfl, y1, rfl⟩) | (go_at_call 4; (with_reducible refine (Q2.out _).mono ?_); rintro e w1 ⟨rfl, y2, rfl⟩) | (go_at_call 5; refine (sane_any _).mono ?_; rintro e w1 ⟨rfl, x, rfl⟩))
    go_ret
    exact ⟨rfl, by (repeat (first | exact Kept.refl _ | assumption | refine Kept.alloc ?_ _ | refine Kept.ext ?_ _ | refine Kept.drew ?_ | refine Kept.drewN ?_ _))⟩
  rw [hb1] at q1
  rw [hb2] at q2
  have q3 : ∀ w', Kept w w' → _ := fun w' hk => mof_any A n cap f c0 c1 c2 w' (by omega) (HS.out.of hk)
  have q4 : ∀ w', Kept w w' → _ := fun w' hk => mrad_any A n cap f c0 c1 c2 w' (by omega) (HS.out.of hk)
  by_cases g1 : givE n f c0 c1 c2 = 0
  case neg =>
    have e1 : (ofM n f c0 c1 c2).e = givE n f c0 c1 c2 := by unfold ofM; rw [if_neg g1]
    obtain ⟨ge, hge⟩ : ∃ x, givE n f c0 c1 c2 = x := ⟨_, rfl⟩
    rw [e1, hge] at q3
    rw [hge] at q4 g1
    have g2 : (ge != 0) = true := by simpa using g1
    have Q1 := Lib.hid q1
    have Q2 := Lib.hid q2
    have Q3 := Lib.hid q3
    have Q4 := Lib.hid q4
    clear q1 q2 q3 q4 hb1 hb2 e1 hge g1
    go_enter Try.func3, Try.ntmps3
    go_wp2_with (first | (go_at_call 4; (with_reducible refine (Q1.out _).mono ?_); rintro e w1 ⟨rfl, y1, rfl⟩) | (go_at_call 4; (with_reducible refine (Q2.out _).mono ?_); rintro e w1 ⟨rfl, y2, rfl⟩) | (go_at_call 6; (with_reducible refine (Q3.out _ (by (repeat (first | exact Kept.refl _ | assumption | refine Kept.alloc ?_ _ | refine Kept.ext ?_ _ | refine Kept.drew ?_ | refine Kept.drewN ?_ _)))).mono ?_); rintro e w1 ⟨rfl, y3, rfl⟩) | (go_at_call 7; (with_reducible refine (Q4.out _ (by (repeat (first | exact Kept.refl _ | assumption | refine Kept.alloc ?_ _ | refine Kept.ext ?_ _ | refine Kept.drew ?_ | refine Kept.drewN ?_ _)))).mono ?_); rintro e w1 ⟨rfl, y4, rfl⟩) | (go_at_call 5; refine (sane_any _).mono ?_; rintro e w1 ⟨rfl, x, rfl⟩))
    go_ret
    exact ⟨rfl, by (repeat (first | exact Kept.refl _ | assumption | refine Kept.alloc ?_ _ | refine Kept.ext ?_ _ | refine Kept.drew ?_ | refine Kept.drewN ?_ _))⟩
  have e1 : ofM n f c0 c1 c2 = ⟨momF f c0 c1 c2 n, 0⟩ := if_pos g1
  have e2 : radV n f c0 c1 c2 = radF f c0 c1 c2 n := if_pos g1
  have hsp : ∀ a b x y, SpE n f c0 c1 c2 u0 u1 u2 d a b → SpE n f c0 c1 c2 u0 u1 u2 d x y → (meetS a b x y).ok = true ∧ (meetS a b x y).e = 0 := fun a b x y h1 h2 => spE_meet g1 h1 h2
  rw [e1] at q3
  rw [e2, g1] at q4
  have hfs : ∀ k : Nat, (farV (momF f c0 c1 c2 n) (radF f c0 c1 c2 n) u0 u1 u2 k).e = 0 → SpE n f c0 c1 c2 u0 u1 u2 d (farV (momF f c0 c1 c2 n) (radF f c0 c1 c2 n) u0 u1 u2 k).lo (farV (momF f c0 c1 c2 n) (radF f c0 c1 c2 n) u0 u1 u2 k).hi := fun k h => .inl ⟨k, h, rfl, rfl⟩
  have hps : (potA n f d (c0 + u0) (c1 + u1) (c2 + u2)).e = 0 → SpE n f c0 c1 c2 u0 u1 u2 d (potA n f d (c0 + u0) (c1 + u1) (c2 + u2)).lo (potA n f d (c0 + u0) (c1 + u1) (c2 + u2)).hi := fun h => .inr ⟨h, rfl, rfl⟩
  obtain ⟨m, hm⟩ : ∃ m, momF f c0 c1 c2 n = m := ⟨_, rfl⟩
  obtain ⟨g, hg⟩ : ∃ g, radF f c0 c1 c2 n = g := ⟨_, rfl⟩
  rw [hm] at q3 hfs
  rw [hg] at q4 hfs
  have q5 : ∀ (k : Nat) w', Calls Try.prog 10 #[.agg #[.int .i64 m.q, .int .i64 m.t, .int .i64 m.x, .int .i64 m.y, .int .i64 m.z, .int .i64 m.a, .int .i64 m.b, .int .i64 m.c, .int .i64 m.d, .int .i64 m.e, .int .i64 m.f], .int .i64 g, .agg #[.int .i64 u0, .int .i64 u1, .int .i64 u2], .int .i64 k] w' fun e w'' => e = .returned (.tuple #[.agg #[.int .i64 (farV m g u0 u1 u2 k).lo, .int .i64 (farV m g u0 u1 u2 k).hi], .int .i64 (farV m g u0 u1 u2 k).e]) ∧ Kept w' w'' := fun k w' => mFar_any m.q m.t m.x m.y m.z m.a m.b m.c m.d m.e m.f g u0 u1 u2 k w'
  obtain ⟨k1, k2, k3, k4, k5, k6⟩ := inB_true hb1
  obtain ⟨k7, k8, k9, k10, k11, k12⟩ := inB_true hb2
  have q6 : ∀ w', Calls Try.prog 9 #[.agg #[.int .i64 c0, .int .i64 c1, .int .i64 c2], .agg #[.int .i64 u0, .int .i64 u1, .int .i64 u2]] w' _ := fun w' => r4plus_any c0 c1 c2 u0 u1 u2 w' (by omega)
  have q7 : ∀ w', Kept w w' → _ := fun w' hk => fPot_any A n cap f d (c0 + u0) (c1 + u1) (c2 + u2) w' (by omega) (HS.out.of hk)
  obtain ⟨pl, hpl⟩ : ∃ x, (potA n f d (c0 + u0) (c1 + u1) (c2 + u2)).lo = x := ⟨_, rfl⟩
  obtain ⟨ph, hph⟩ : ∃ x, (potA n f d (c0 + u0) (c1 + u1) (c2 + u2)).hi = x := ⟨_, rfl⟩
  obtain ⟨pe, hpe⟩ : ∃ x, (potA n f d (c0 + u0) (c1 + u1) (c2 + u2)).e = x := ⟨_, rfl⟩
  rw [hpl, hph, hpe] at q7
  rw [hpl, hph, hpe] at hps
  obtain ⟨SP, hSP⟩ : ∃ SP, SP = fun lo hi : Int => SpE n f c0 c1 c2 u0 u1 u2 d lo hi := ⟨_, rfl⟩
  have HIa : ∀ a b, SP a b → I64 a ∧ I64 b := fun a b h => by
    rw [hSP] at h
    exact spE_I h
  have hsp' : ∀ a b x y, SP a b → SP x y → (meetS a b x y).ok = true ∧ (meetS a b x y).e = 0 := by rw [hSP]; exact hsp
  have hfs' : ∀ k : Nat, (farV m g u0 u1 u2 k).e = 0 → SP (farV m g u0 u1 u2 k).lo (farV m g u0 u1 u2 k).hi := by rw [hSP]; exact hfs
  have hps' : pe = 0 → SP pl ph := by rw [hSP]; exact hps
  obtain ⟨ti, hti, hte⟩ := Option.map_eq_some_iff.1 info_Sp
  simp only [Prod.mk.injEq] at hte
  have HI := Lib.hid (And.intro hti hte)
  have Q1 := Lib.hid q1
  have Q2 := Lib.hid q2
  have Q3 := Lib.hid q3
  have Q4 := Lib.hid q4
  have Q5 := Lib.hid q5
  have Q6 := Lib.hid q6
  have Q7 := Lib.hid q7
  have HSP := Lib.hid hsp'
  have HFS := Lib.hid hfs'
  have HPS := Lib.hid hps'
  have HII := Lib.hid HIa
  clear q1 q2 q3 q4 q5 q6 q7 hb1 hb2 e1 e2 g1 hsp hfs hps hm hg hpl hph hpe hSP hsp' hfs' hps' HIa hti hte k1 k2 k3 k4 k5 k6 k7 k8 k9 k10 k11 k12
  go_enter Try.func3, Try.ntmps3
  go_wp2_with (first | (go_at_call 4; (with_reducible refine (Q1.out _).mono ?_); rintro e w1 ⟨rfl, y1, rfl⟩) | (go_at_call 4; (with_reducible refine (Q2.out _).mono ?_); rintro e w1 ⟨rfl, y2, rfl⟩) | (go_at_call 6; (with_reducible refine (Q3.out _ (by (repeat (first | exact Kept.refl _ | assumption | refine Kept.alloc ?_ _ | refine Kept.ext ?_ _ | refine Kept.drew ?_ | refine Kept.drewN ?_ _)))).mono ?_); rintro e w1 ⟨rfl, y3, rfl⟩) | (go_at_call 7; (with_reducible refine (Q4.out _ (by (repeat (first | exact Kept.refl _ | assumption | refine Kept.alloc ?_ _ | refine Kept.ext ?_ _ | refine Kept.drew ?_ | refine Kept.drewN ?_ _)))).mono ?_); rintro e w1 ⟨rfl, y4, rfl⟩))
  refine wp_gen (fun W1 hW1 => ?_)
  have hk1 : Kept w W1 := by rw [hW1]; (repeat (first | exact Kept.refl _ | assumption | refine Kept.alloc ?_ _ | refine Kept.ext ?_ _ | refine Kept.drew ?_ | refine Kept.drewN ?_ _))
  have hxb : W1.heap[w.heap.size]? = some (.cells #[.int .i64 c0, .int .i64 c1, .int .i64 c2, .int .i64 u0, .int .i64 u1, .int .i64 u2, .int .i64 d] 26 (0, 0)) := by rw [hW1]; exact heap_kp (alloc_now w _ w.heap.size) (by (repeat (first | exact Kept.refl _ | assumption | refine Kept.alloc ?_ _ | refine Kept.ext ?_ _ | refine Kept.drew ?_ | refine Kept.drewN ?_ _)))
  have hmb : W1.heap[(adv (adv (adv (w.heap.size + 1) y1.obs.size) y2.obs.size) y3.obs.size)]? = some (.cells #[.int .i64 m.q, .int .i64 m.t, .int .i64 m.x, .int .i64 m.y, .int .i64 m.z, .int .i64 m.a, .int .i64 m.b, .int .i64 m.c, .int .i64 m.d, .int .i64 m.e, .int .i64 m.f] 31 (0, 0)) := by rw [hW1]; exact heap_kp (alloc_now (ext (ext (ext (w.alloc (.cells #[.int .i64 c0, .int .i64 c1, .int .i64 c2, .int .i64 u0, .int .i64 u1, .int .i64 u2, .int .i64 d] 26)) y1) y2) y3) _ (adv (adv (adv (w.heap.size + 1) y1.obs.size) y2.obs.size) y3.obs.size)) (by (repeat (first | exact Kept.refl _ | assumption | refine Kept.alloc ?_ _ | refine Kept.ext ?_ _ | refine Kept.drew ?_ | refine Kept.drewN ?_ _)))
  clear hW1
  revert hmb
  generalize (adv (adv (adv (w.heap.size + 1) y1.obs.size) y2.obs.size) y3.obs.size) = bm
  intro hmb
  have hx : ∀ W, Kept W1 W → W.heap[w.heap.size]? = some (.cells #[.int .i64 c0, .int .i64 c1, .int .i64 c2, .int .i64 u0, .int .i64 u1, .int .i64 u2, .int .i64 d] 26 (0, 0)) := fun W hk => heap_kp hxb hk
  have hmo : ∀ W, Kept W1 W → W.heap[bm]? = some (.cells #[.int .i64 m.q, .int .i64 m.t, .int .i64 m.x, .int .i64 m.y, .int .i64 m.z, .int .i64 m.a, .int .i64 m.b, .int .i64 m.c, .int .i64 m.d, .int .i64 m.e, .int .i64 m.f] 31 (0, 0)) := fun W hk => heap_kp hmb hk
  have ca : ∀ j (h : j < 7), W1.cell? ⟨w.heap.size, j, none⟩ = (#[Value.int .i64 c0, .int .i64 c1, .int .i64 c2, .int .i64 u0, .int .i64 u1, .int .i64 u2, .int .i64 d])[j]? := fun j h => by
    rcases (show j = 0 ∨ j = 1 ∨ j = 2 ∨ j = 3 ∨ j = 4 ∨ j = 5 ∨ j = 6 by omega) with rfl | rfl | rfl | rfl | rfl | rfl | rfl <;> exact cell_blk hxb rfl
  have a0 : W1.cell? ⟨w.heap.size, 0, none⟩ = some (.int .i64 c0) := ca 0 (by omega)
  have a1 : W1.cell? ⟨w.heap.size, 1, none⟩ = some (.int .i64 c1) := ca 1 (by omega)
  have a2 : W1.cell? ⟨w.heap.size, 2, none⟩ = some (.int .i64 c2) := ca 2 (by omega)
  have a3 : W1.cell? ⟨w.heap.size, 3, none⟩ = some (.int .i64 u0) := ca 3 (by omega)
  have a4 : W1.cell? ⟨w.heap.size, 4, none⟩ = some (.int .i64 u1) := ca 4 (by omega)
  have a5 : W1.cell? ⟨w.heap.size, 5, none⟩ = some (.int .i64 u2) := ca 5 (by omega)
  have a6 : W1.cell? ⟨w.heap.size, 6, none⟩ = some (.int .i64 d) := ca 6 (by omega)
  haveI : Lower w.heap.size W1.heap.size := ⟨cell_lt a0⟩
  have K1 := Lib.hid hk1
  have HX := Lib.hid hx
  have HMO := Lib.hid hmo
  have q8 : ∀ w', Kept W1 w' → _ := fun w' hk => Q7.out w' (hk1.trans hk)
  have Q8 := Lib.hid q8
  clear hk1 hxb hmb hx hmo ca q8
  have hF : frsB [.q, .q, .q, .q, .q, .q, .q, .q, .q, .q, .q, .q, .s, .s, .q] [⟨12, 13, 39, #[.int .i64 0, .int .i64 0], #[.int .i64 pl, .int .i64 ph]⟩] = true := by kernel_rfl
  refine wp_region_frs _ _ (by kernel_rfl) (by kernel_rfl) hF (fun b => by kernel_rfl) ?_
  apply Exists.intro
  refine ⟨?_, ?_, ?_, ?_⟩
  · rintro b' W9 ⟨yy, rfl⟩
    simp only [swapL, Nat.reduceAdd]
    repeat (go_big_quiet_step (first | (go_at_call 9; exact Calls.kept_of (Q6.out _)) | (go_at_call 8; exact Calls.kept_of (Q8.out _ (by (repeat (first | exact Kept.refl _ | assumption | refine Kept.alloc ?_ _ | refine Kept.ext ?_ _ | refine Kept.drew ?_ | refine Kept.drewN ?_ _)))))))
    refine wpQuiet_nil ?_
    rfl
  · simp only [EachS, and_true]
    refine ⟨?_, ?_⟩
    · exact fun L b' w' hd hL hI => FI.tells_alloc hF 0 rfl hI hL (by go_simp)
    · exact fun L b' w' hd hL hI => FI.tells_store hF 0 rfl hI hL (hd { on := 12, ground := .data } (by simp) rfl) 39 (.tmp 10) (.tmp 67) rfl rfl rfl (by kernel_rfl) rfl (by kernel_rfl)
  · intro b1 b2 d9 hd
    simp [callSlots, dullOp] at hd
    all_goals (first | (rcases hd with rfl | rfl <;> rfl) | (subst hd; rfl))
  intro L b' W2 hL hI
  obtain ⟨kl, ekl, lkl, hk1x⟩ := hI.ends 0 rfl (hL 12 (by decide)) (hL 13 (by decide))
  have ekl' : b' 12 = _ := ekl
  clear hF
  have hk2 := hI.kept
  clear hI hL ekl
  simp only [ekl']
  clear ekl'
  have b0 : W2.cell? ⟨kl, 0, none⟩ = some (.int .i64 pl) := cell_blk hk1x rfl
  have b1 : W2.cell? ⟨kl, 1, none⟩ = some (.int .i64 ph) := cell_blk hk1x rfl
  haveI : Lower kl W2.heap.size := ⟨cell_lt b0⟩
  have K2 := Lib.hid hk2
  clear hk1x hk2 a0 a1 a2 a3 a4 a5 a6
  go_upto_if 70 with fail
  go_cut [9] from 71 to 75 (fun s9 wx => ∃ (L : Nat) (G : Nat → Nat → Int), Kept W2 wx ∧ wx.ownsRow W2.heap.size 39 2 s9 L (rowC 2 G L) ∧ L ≤ 1 ∧ ∀ k, k < L → SP (G k 0) (G k 1))
  case first =>
    by_cases hp0 : pe = 0
    · have HP1 := Lib.hid (HPS.out hp0)
      subst hp0
      obtain ⟨A9, k9, c9, hz, hk9⟩ : ∃ (A9 : Option Addr) (k9 c9 : Nat), Value.slice none 0 0 = Value.slice A9 k9 c9 ∧ k9 = 0 := ⟨none, 0, 0, rfl, rfl⟩
      have ho : W2.ownsRow W2.heap.size 39 2 (.slice A9 k9 c9) k9 (rowC 2 (fun _ _ => 0) k9) := by rw [← hz, hk9]; exact World.ownsRow_nil _ _ _ _
      rw [hz]
      have HK9 := Lib.hid hk9
      have l9 : k9 ≤ 1 := by omega
      have HO := Lib.hid ho
      clear hz hk9 ho
      go_wp2_with (at_builtin; refine wpList_append_lies _ rfl _ _ _ rfl W2.heap.size 39 ti _ 2 16 Try.underlying37 HI.out.1 HI.out.2.1 HI.out.2.2.1 HI.out.2.2.2 rfl (by omega) _ k9 (rowC 2 (fun _ _ => 0) k9) rfl (owns_kept HO.out (by (repeat (first | exact Kept.refl _ | assumption | refine Kept.alloc ?_ _ | refine Kept.ext ?_ _ | refine Kept.drew ?_ | refine Kept.drewN ?_ _)))) _ 1 1 [.int .i64 pl, .int .i64 ph] rfl rfl (World.news_of_block (alloc_now _ _ _)) (by simp [Value.oneCell']) (by omega) (by unfold maxLen; omega) (by omega) (by first | (simp [adv]; done) | (simp [adv]; omega)) _ rfl ?_; intro g9 cp9 w4 hown2 hg2 hat hlt2)
      go_meet
      have hk3 : Kept W2 w4 := kept_grown (base := W2.heap.size) (by (repeat (first | exact Kept.refl _ | assumption | refine Kept.alloc ?_ _ | refine Kept.ext ?_ _ | refine Kept.drew ?_ | refine Kept.drewN ?_ _))) (owns_kept HO.out (by (repeat (first | exact Kept.refl _ | assumption | refine Kept.alloc ?_ _ | refine Kept.ext ?_ _ | refine Kept.drew ?_ | refine Kept.drewN ?_ _)))) (Nat.le_refl _) hg2
      have hk0 := HK9.out
      refine ⟨k9 + 1, spE2 pl ph (fun _ _ => 0) k9, hk3, by rw [spE2_row]; exact hown2, by omega, fun k hk => ?_⟩
      have e0 : spE2 pl ph (fun _ _ => 0) k9 k 0 = pl := by unfold spE2; rw [if_neg (by omega), if_pos rfl]
      have e1 : spE2 pl ph (fun _ _ => 0) k9 k 1 = ph := by unfold spE2; rw [if_neg (by omega), if_neg (by decide)]
      rw [e0, e1]
      exact HP1.out
    · have g2 : (pe == 0) = false := by simpa using hp0
      go_wp2_with fail
      go_meet
      exact ⟨0, fun _ _ => 0, by (repeat (first | exact Kept.refl _ | assumption | refine Kept.alloc ?_ _ | refine Kept.ext ?_ _ | refine Kept.drew ?_ | refine Kept.drewN ?_ _)), World.ownsRow_nil _ _ _ _, by omega, fun k hk => absurd hk (by omega)⟩
  case rest =>
  obtain ⟨L0, G0, hk3, hown, hl0, hsp0⟩ := hcut
  have K3 := Lib.hid hk3
  have O0 := Lib.hid hown
  have S0 := Lib.hid hsp0
  clear hk3 hown hsp0 b0 b1
  go_wp2_with fail
  go_loopw [9, 12] (fun o i wr => ∃ (j L : Nat) (G : Nat → Nat → Int), j ≤ 3 ∧ i = .int .i64 j ∧ Kept W2 wr ∧ wr.ownsRow W2.heap.size 39 2 o L (rowC 2 G L) ∧ L ≤ j + 1 ∧ ∀ k, k < L → SP (G k 0) (G k 1)) (fun _ i _ => 3 - (intOf i).toNat)
  case atStart => exact ⟨0, L0, G0, by omega, rfl, K3.out, O0.out, by omega, S0.out⟩
  case round =>
    obtain ⟨j, L, G, hj, rfl, hkw, hown, hL, hsp⟩ := hrel
    obtain ⟨A2, cp2, rfl⟩ := own_slice2 hown
    have kk := K2.out.trans hkw
    have hx := HX.out _ kk
    have hm := HMO.out _ kk
    have x0 : wr.cell? ⟨w.heap.size, 3, none⟩ = some (.int .i64 u0) := cell_blk hx rfl
    have x1 : wr.cell? ⟨w.heap.size, 4, none⟩ = some (.int .i64 u1) := cell_blk hx rfl
    have x2 : wr.cell? ⟨w.heap.size, 5, none⟩ = some (.int .i64 u2) := cell_blk hx rfl
    have m0 : wr.cell? ⟨bm, 0, none⟩ = some (.int .i64 m.q) := cell_blk hm rfl
    have m1 : wr.cell? ⟨bm, 1, none⟩ = some (.int .i64 m.t) := cell_blk hm rfl
    have m2 : wr.cell? ⟨bm, 2, none⟩ = some (.int .i64 m.x) := cell_blk hm rfl
    have m3 : wr.cell? ⟨bm, 3, none⟩ = some (.int .i64 m.y) := cell_blk hm rfl
    have m4 : wr.cell? ⟨bm, 4, none⟩ = some (.int .i64 m.z) := cell_blk hm rfl
    have m5 : wr.cell? ⟨bm, 5, none⟩ = some (.int .i64 m.a) := cell_blk hm rfl
    have m6 : wr.cell? ⟨bm, 6, none⟩ = some (.int .i64 m.b) := cell_blk hm rfl
    have m7 : wr.cell? ⟨bm, 7, none⟩ = some (.int .i64 m.c) := cell_blk hm rfl
    have m8 : wr.cell? ⟨bm, 8, none⟩ = some (.int .i64 m.d) := cell_blk hm rfl
    have m9 : wr.cell? ⟨bm, 9, none⟩ = some (.int .i64 m.e) := cell_blk hm rfl
    have m10 : wr.cell? ⟨bm, 10, none⟩ = some (.int .i64 m.f) := cell_blk hm rfl
    haveI : Lower w.heap.size wr.heap.size := ⟨cell_lt x0⟩
    haveI : Lower bm wr.heap.size := ⟨cell_lt m0⟩
    have HKW := Lib.hid hkw
    have HO := Lib.hid hown
    have HS1 := Lib.hid hsp
    have lv := hkw.below.size
    have KW := Lib.hid (K1.out.trans kk)
    clear hkw hown hsp kk hx hm
    by_cases hlt : j < 3
    · have q5 := fun w' => Q5.out j w'
      have hfs := HFS.out j
      obtain ⟨fl, hfl⟩ : ∃ x, (farV m g u0 u1 u2 j).lo = x := ⟨_, rfl⟩
      obtain ⟨fh, hfh⟩ : ∃ x, (farV m g u0 u1 u2 j).hi = x := ⟨_, rfl⟩
      obtain ⟨fe, hfe⟩ : ∃ x, (farV m g u0 u1 u2 j).e = x := ⟨_, rfl⟩
      rw [hfl, hfh, hfe] at q5 hfs
      have F5 := Lib.hid q5
      have FS := Lib.hid hfs
      clear q5 hfs hfl hfh hfe
      by_cases hf0 : fe = 0
      · have FS1 := Lib.hid (FS.out hf0)
        subst hf0
        clear FS
        go_wp2_with (first | (go_at_call 10; (with_reducible refine (F5.out _).mono ?_); rintro e w1 ⟨rfl, y5, rfl⟩) | (at_builtin; refine wpList_append_lies _ rfl _ _ _ rfl W2.heap.size 39 ti _ 2 16 Try.underlying37 HI.out.1 HI.out.2.1 HI.out.2.2.1 HI.out.2.2.2 rfl (by omega) _ L (rowC 2 G L) rfl (owns_kept HO.out (by (repeat (first | exact Kept.refl _ | assumption | refine Kept.alloc ?_ _ | refine Kept.ext ?_ _ | refine Kept.drew ?_ | refine Kept.drewN ?_ _)))) _ 1 1 [.int .i64 fl, .int .i64 fh] rfl rfl (World.news_of_block (alloc_now _ _ _)) (by simp [Value.oneCell']) (by omega) (by unfold maxLen; omega) (by omega) (by first | (simp [adv]; done) | (simp [adv]; omega)) _ rfl ?_; intro g9 cp9 w4 hown2 hg2 hat hlt2))
        have hk3 : Kept W2 w4 := kept_grown (base := W2.heap.size) (HKW.out.trans (by (repeat (first | exact Kept.refl _ | assumption | refine Kept.alloc ?_ _ | refine Kept.ext ?_ _ | refine Kept.drew ?_ | refine Kept.drewN ?_ _)))) (owns_kept HO.out (by (repeat (first | exact Kept.refl _ | assumption | refine Kept.alloc ?_ _ | refine Kept.ext ?_ _ | refine Kept.drew ?_ | refine Kept.drewN ?_ _)))) (Nat.le_refl _) hg2
        go_roundw
        case rel =>
          refine ⟨j + 1, L + 1, spE2 fl fh G L, by omega, by go_num, hk3, by rw [spE2_row]; exact hown2, by omega, fun k hk => ?_⟩
          by_cases hkl : k < L
          · have e : ∀ j, spE2 fl fh G L k j = G k j := fun j => if_pos hkl
            rw [e, e]
            exact HS1.out k hkl
          · have e0 : spE2 fl fh G L k 0 = fl := by unfold spE2; rw [if_neg hkl, if_pos rfl]
            have e1 : spE2 fl fh G L k 1 = fh := by unfold spE2; rw [if_neg hkl, if_neg (by decide)]
            rw [e0, e1]
            exact FS1.out
        case measure =>
          simp [intOf]
          omega
      · have g2 : (fe == 0) = false := by simpa using hf0
        clear FS hf0
        go_wp2_with (first | (go_at_call 10; (with_reducible refine (F5.out _).mono ?_); rintro e w1 ⟨rfl, y5, rfl⟩))
        go_roundw
        case rel => exact ⟨j + 1, L, G, by omega, by go_num, HKW.out.trans (by (repeat (first | exact Kept.refl _ | assumption | refine Kept.alloc ?_ _ | refine Kept.ext ?_ _ | refine Kept.drew ?_ | refine Kept.drewN ?_ _))), owns_kept HO.out (by (repeat (first | exact Kept.refl _ | assumption | refine Kept.alloc ?_ _ | refine Kept.ext ?_ _ | refine Kept.drew ?_ | refine Kept.drewN ?_ _))), by omega, HS1.out⟩
        case measure =>
          simp [intOf]
          omega
    · clear x0 x1 x2 m0 m1 m2 m3 m4 m5 m6 m7 m8 m9 m10
      have hrows := rows_of_owns HO.out (fun i hi j hj => by
        have := HII.out _ _ (HS1.out i hi)
        rcases (show j = 0 ∨ j = 1 by omega) with rfl | rfl
        · exact this.1
        · exact this.2)
      have hl5 : L ≤ 5 := by omega
      have HRW := Lib.hid hrows
      clear hrows
      go_wp2_with fail
      obtain ⟨W7, rfl⟩ : ∃ x, x = wr := ⟨_, rfl⟩
      go_loopw [15] (fun i wt => ∃ a : Nat, a ≤ L ∧ i = .int .i64 a ∧ Kept W7 wt) (fun i _ => L - (intOf i).toNat)
      case atStart => exact ⟨0, by omega, rfl, show Kept _ _ by (repeat (first | exact Kept.refl _ | assumption | refine Kept.alloc ?_ _ | refine Kept.ext ?_ _ | refine Kept.drew ?_ | refine Kept.drewN ?_ _))⟩
      case round =>
        obtain ⟨a, ha, rfl, hkt⟩ := hrel
        have HKT := Lib.hid hkt
        clear hkt
        by_cases hla : a < L
        · go_wp2_with fail
          obtain ⟨W8, rfl⟩ : ∃ x, x = wr := ⟨_, rfl⟩
          go_loopw [16] (fun i wt => ∃ b : Nat, b ≤ a ∧ i = .int .i64 b ∧ Kept W7 wt) (fun i _ => a - (intOf i).toNat)
          case atStart => exact ⟨0, by omega, rfl, HKT.out.trans (by (repeat (first | exact Kept.refl _ | assumption | refine Kept.alloc ?_ _ | refine Kept.ext ?_ _ | refine Kept.drew ?_ | refine Kept.drewN ?_ _)))⟩
          case round =>
            obtain ⟨b, hb, rfl, hkv⟩ := hrel
            have HKV := Lib.hid hkv
            by_cases hba : b < a
            · obtain ⟨rb, ro, rfl, hrb, hcell⟩ := (HRW.out.of hkv) (by omega)
              have c0 := (hcell a hla 0 (by omega)).1
              have c1 := (hcell a hla 1 (by omega)).1
              have d0 := (hcell b (by omega) 0 (by omega)).1
              have d1 := (hcell b (by omega) 1 (by omega)).1
              rw [Nat.add_zero] at c0 d0
              haveI : Lower rb wr.heap.size := ⟨hrb⟩
              obtain ⟨s1, s2⟩ := HSP.out _ _ _ _ (HS1.out a hla) (HS1.out b (by omega))
              have hmt := fun w' => meet_any (G a 0) (G a 1) (G b 0) (G b 1) w'
              rw [s1, s2] at hmt
              obtain ⟨g0, hg0⟩ : ∃ x, G a 0 = x := ⟨_, rfl⟩
              obtain ⟨g1, hg1⟩ : ∃ x, G a 1 = x := ⟨_, rfl⟩
              obtain ⟨h0, hh0⟩ : ∃ x, G b 0 = x := ⟨_, rfl⟩
              obtain ⟨h1, hh1⟩ : ∃ x, G b 1 = x := ⟨_, rfl⟩
              rw [hg0] at c0
              rw [hg1] at c1
              rw [hh0] at d0
              rw [hh1] at d1
              rw [hg0, hg1, hh0, hh1] at hmt
              obtain ⟨ml, hml⟩ : ∃ x, (meetS g0 g1 h0 h1).lo = x := ⟨_, rfl⟩
              obtain ⟨mh, hmh⟩ : ∃ x, (meetS g0 g1 h0 h1).hi = x := ⟨_, rfl⟩
              rw [hml, hmh] at hmt
              have HMT := Lib.hid hmt
              have l2 : (b : Int) < L := by omega
              have l3 : (a : Int) < L := by omega
              clear hmt hml hmh hg0 hg1 hh0 hh1 s1 s2 hcell hkv
              go_wp2_with fail
              have hF : frsB [.q, .q, .q, .q, .q, .q, .q, .q, .q, .q, .q, .q, .q, .s, .s, .q, .q] [⟨13, 14, 39, #[.int .i64 0, .int .i64 0], #[.int .i64 ml, .int .i64 mh]⟩] = true := by kernel_rfl
              refine wp_region_frs _ _ (by kernel_rfl) (by kernel_rfl) hF (fun b => by kernel_rfl) ?_
              apply Exists.intro
              refine ⟨?_, ?_, ?_, ?_⟩
              · rintro b' W9 ⟨yy, rfl⟩
                simp only [swapL, Nat.reduceAdd]
                repeat (go_big_quiet_step (first | (go_at_call 11; exact Calls.kept_of (HMT.out _))))
                refine wpQuiet_nil ?_
                rfl
              · simp only [EachS, and_true]
                refine ⟨?_, ?_⟩
                · exact fun L b' w' hd hL hI => FI.tells_alloc hF 0 rfl hI hL (by go_simp)
                · exact fun L b' w' hd hL hI => FI.tells_store hF 0 rfl hI hL (hd { on := 13, ground := .data } (by simp) rfl) 39 (.tmp 17) (.tmp 115) rfl rfl rfl (by kernel_rfl) rfl (by kernel_rfl)
              · intro b1 b2 d9 hd
                simp [callSlots, dullOp] at hd
                all_goals (first | (rcases hd with rfl | rfl <;> rfl) | (subst hd; rfl))
              intro L9 b' w9 hL9 hI9
              have hk9 := hI9.kept
              obtain ⟨kl9, ekl9, lkl9, -⟩ := hI9.ends 0 rfl (hL9 13 (by decide)) (hL9 14 (by decide))
              have ekl9' : b' 13 = _ := ekl9
              simp only [ekl9']
              have HK9 := Lib.hid hk9
              clear hF hI9 hL9 ekl9 ekl9' hk9
              go_wp2_with fail
              go_roundw
              case rel => exact ⟨b + 1, by omega, by go_num, HKV.out.trans (HK9.out.trans (by (repeat (first | exact Kept.refl _ | assumption | refine Kept.alloc ?_ _ | refine Kept.ext ?_ _ | refine Kept.drew ?_ | refine Kept.drewN ?_ _))))⟩
              case measure =>
                simp [intOf]
                omega
            · clear hkv
              go_wp2_with fail
              go_roundw
              case rel => exact ⟨a + 1, by omega, by go_num, HKV.out.trans (by (repeat (first | exact Kept.refl _ | assumption | refine Kept.alloc ?_ _ | refine Kept.ext ?_ _ | refine Kept.drew ?_ | refine Kept.drewN ?_ _)))⟩
              case measure =>
                simp [intOf]
                omega
        · go_wp2_with (go_at_call 5; refine (sane_any _).mono ?_; rintro e w1 ⟨rfl, x, rfl⟩)
          go_ret
          exact ⟨rfl, KW.out.trans (HKT.out.trans (by (repeat (first | exact Kept.refl _ | assumption | refine Kept.alloc ?_ _ | refine Kept.ext ?_ _ | refine Kept.drew ?_ | refine Kept.drewN ?_ _))))⟩
theorem len7 {zs : List Int} (h : zs.length = 7) : ∃ a0 a1 a2 a3 a4 a5 a6, zs = [a0, a1, a2, a3, a4, a5, a6] :=
  match zs, h with
  | [a0, a1, a2, a3, a4, a5, a6], _ => ⟨a0, a1, a2, a3, a4, a5, a6, rfl⟩
theorem ownMomentEncloses : ownKnob Try.prog.godebug = none := by kernel_rfl
theorem laidOutMomentEncloses : laidOutB Try.prog = true := by kernel_rfl
set_option linter.unusedVariables false in
set_option maxRecDepth 100000 in
theorem liftedMomentEncloses (os : Os) (started : os.Started) (H : Type) (enc : TypeId × Value → H) :
    ReturnsInHanded {} Try.checked os 3 .any (Rows.momentEnclosesSpec.pre6 enc Try.prog Try.f3 Rows.momentEnclosesRow.domain false) (Rows.momentEnclosesSpec.post enc Try.prog Try.f3 false true false false) := by
  refine returnsInHanded_of_change (C := Try.checked) ownMomentEncloses started (by kernel_rfl) Try.func3
    (ChangeSpec.witness6 (enc := enc) (C := Try.checked) false ⟨#[], #[.slice none 0 0, .agg #[.int .i64 0, .int .i64 0, .int .i64 0, .int .i64 0, .int .i64 0, .int .i64 0, .int .i64 0]], []⟩ 8 (by kernel_rfl) (by kernel_rfl) (by kernel_rfl) (by kernel_rfl)) ?_
  intro W base args ds gs before hval0 hW hcnd _
  have hval : ∀ (j : Nat) t v, Try.f3.params[j]? = some t → args[j]? = some v → Value.okWide Try.prog W .any base t v := hval0
  have hW' := hW
  obtain ⟨p, q, hA0, hV, rfl, hfz, hnd⟩ := hW
  have hA : DataW.TrodAll enc Try.prog W 0 (fun _ => true) true Try.f3.params.toList args.toList ds p := hA0
  rw [Try.params3] at hA hval
  obtain ⟨v0, vs0, d0, ds0, p0, q0, hargs, rfl, rfl, h0, r0⟩ := trodAll_cons hA
  obtain ⟨v1, vs1, d1, ds1, p1, q1, rfl, rfl, rfl, h1, r1⟩ := trodAll_cons r0
  obtain ⟨rfl, rfl, rfl⟩ := trodAll_nil r1
  obtain rfl : args = #[v0, v1] := by cases args; simp_all
  obtain ⟨rfl, rfl⟩ := trodVars_none hV
  have lt0 : ∀ x ∈ p0, x.block < W.heap.size := by obtain ⟨m, hm⟩ := h0; exact DataW.trod_lt m _ _ _ hm
  obtain ⟨A0, n0, cap0, f0, rfl, hl0, hm0, hr0⟩ := open_rows 10 Try.underlying22 (by kernel_rfl) (by decide) (by kernel_rfl) (hval 0 22 v0 rfl rfl) h0 lt0
  have lt1 : ∀ x ∈ p1, x.block < W.heap.size := by obtain ⟨m, hm⟩ := h1; exact DataW.trod_lt m _ _ _ hm
  obtain ⟨l1, rfl, e1, b1⟩ := open_agg_ints 7 (by kernel_rfl) (by kernel_rfl) (ts := [3, 3, 3, 3, 3, 3, 3]) (by kernel_rfl) (by intro u hu; simp at hu; subst hu; exact Try.underlying3) (hval 1 26 v1 rfl rfl)
  obtain ⟨z1_0, z1_1, z1_2, z1_3, z1_4, z1_5, z1_6, rfl⟩ := len7 e1
  simp only [List.map_cons, List.map_nil] at *
  simp only [List.mem_cons, List.not_mem_nil, or_false, forall_eq_or_imp, forall_eq] at b1
  clear hA0 hval0
  refine (encloses_law A0 n0 cap0 f0 z1_0 z1_1 z1_2 z1_3 z1_4 z1_5 z1_6 W ⟨hl0, hm0, hr0⟩).mono fun e W' ⟨he, hk⟩ => ?_
  subst he
  have bel := hk.below
  exact ⟨_, rfl, _, _, _, [], _, [], hW', trodAll_mk1 (shut_bool Try.underlying4 _), (trodAll_cons_mk (Below.trod laidOutMomentEncloses (by kernel_rfl) (of_decide_eq_true (by kernel_rfl)) h0 bel lt0) (trodAll_cons_mk (Below.trod laidOutMomentEncloses (by kernel_rfl) (of_decide_eq_true (by kernel_rfl)) h1 bel lt1) trodAll_mk0)), rfl, bel.frame _, fun h => by cases h⟩
/-- For every input the statement MomentEncloses returns true, and each argument reads afterwards as it read before. -/
theorem momentEncloses_holds : Rows.MomentEnclosesSaid :=
  OpenClaim.holds_of_wide 3 Try.f3 rfl rfl rfl rfl rfl rfl rfl ⟨rfl, rfl, rfl, rfl, rfl⟩ rfl rfl rfl rfl rfl (by kernel_rfl) Try.func3 (by kernel_rfl)
    (of_decide_eq_true (by kernel_rfl)) (by unfold Func.isWrapper; first | (rw [if_pos (by decide +kernel)]; kernel_rfl) | (rw [if_neg (by decide +kernel)]; exact ⟨rfl, rfl⟩))
    (fun os started H enc _ => liftedMomentEncloses os started H enc)
#print axioms momentEncloses_holds

end Go.Proofs.Ytodmdicegkjicaa


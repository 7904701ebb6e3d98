/- Contracts: equal lists of texts, of the reference; two notebooks compared, of the program and of the reference. Conditions: the texts are short. -/
import Derived.Test.YtnbjealpcjfllaaGreatDoorJb
namespace Go.Proofs.YtnbjealpcjfllaaGreatDoor
set_option linter.unusedVariables false
set_option linter.unusedSimpArgs false
open Go.ChangeShapes Go.WideShapes Go.ChangeAt Go.RowKit Go.Deep
theorem tx_of_owns {w : World} {base n cap : Nat} {e : TypeId} {A : Option Addr} {l : List (List UInt8)} (h : w.ownsRow base e 1 (.slice A n cap) n (l.map strV)) (hn : n = l.length) : TxAt w A l := by
  intro h0
  rcases h.2 with ⟨-, hn'⟩ | ⟨g, cap', cur, hv, hb, hg, h1, h2, h3, h4⟩
  · omega
  · simp only [Value.slice.injEq] at hv
    obtain ⟨rfl, -, rfl⟩ := hv
    refine ⟨g, 0, rfl, (Array.getElem?_eq_some_iff.1 hg).1, fun k hk => ?_⟩
    have : (l.map strV)[k]? = some (strV l[k]) := by rw [List.getElem?_map, List.getElem?_eq_getElem hk]; rfl
    rw [← h4, List.getElem?_take, if_pos (by omega)] at this
    unfold World.cell?
    simp only [hg]
    simpa using this
/-- The first place where two lists differ. -/
def firstNe : List (List UInt8) → List (List UInt8) → Nat → Option Nat
  | x :: l, y :: m, k => if x = y then firstNe l m (k + 1) else some k
  | _, _, _ => none
theorem first_next {l m : List (List UInt8)} {k : Nat} {R : Option Nat} (h1 : k < l.length) (h2 : k < m.length) (he : l[k] = m[k]) (h : firstNe (l.drop k) (m.drop k) k = R) : firstNe (l.drop (k + 1)) (m.drop (k + 1)) (k + 1) = R := by
  rw [List.drop_eq_getElem_cons h1, List.drop_eq_getElem_cons h2] at h
  rw [← h]
  show _ = if l[k] = m[k] then firstNe (l.drop (k + 1)) (m.drop (k + 1)) (k + 1) else some k
  rw [if_pos he]
theorem first_here {l m : List (List UInt8)} {k : Nat} {R : Option Nat} (h1 : k < l.length) (h2 : k < m.length) (he : l[k] ≠ m[k]) (h : firstNe (l.drop k) (m.drop k) k = R) : R = some k := by
  rw [List.drop_eq_getElem_cons h1, List.drop_eq_getElem_cons h2] at h
  rw [← h]
  exact if_neg he
theorem first_end {l m : List (List UInt8)} {k : Nat} {R : Option Nat} (h1 : ¬ (k < l.length ∧ k < m.length)) (h : firstNe (l.drop k) (m.drop k) k = R) : R = none := by
  rw [← h]
  by_cases a : k < l.length
  · rw [List.drop_of_length_le (l := m) (by omega)]
    cases l.drop k <;> rfl
  · rw [List.drop_of_length_le (l := l) (by omega)]
    rfl
def mergeB (a b : List UInt8) : List UInt8 × Int × Int :=
  if (readB 100 0 a).2 ≠ [] ∨ (readB 100 0 b).2 ≠ [] then ([], 0, 14)
  else match firstNe (readB 100 0 a).1 (readB 100 0 b).1 0 with
    | some k => ([], k, 12)
    | none => if (readB 100 0 a).1.length < (readB 100 0 b).1.length then (b, (readB 100 0 b).1.length, 0) else (a, (readB 100 0 a).1.length, 0)
theorem rd_len (b : List UInt8) : (readB 100 0 b).1.length ≤ 100 := (read_spec 100 0 b).2.2
set_option maxRecDepth 100000 in
set_option maxHeartbeats 8000000 in
theorem dmerge_any (a b : List UInt8) (w : World) (hl : a.length ≤ 1000000 ∧ b.length ≤ 1000000) (h : Ld w) :
    Calls Tryz.prog 27 #[strV a, strV b] w fun e w' => e = .returned (.tuple #[strV (mergeB a b).1, .int .i64 (mergeB a b).2.1, .int .i64 (mergeB a b).2.2]) ∧ Kept w w' := by
  have q1 : ∀ w', Kept w w' → Calls Tryz.prog 24 #[.string ⟨a.toArray⟩] w' (fun e w'' => ∃ A cp, e = .returned (.tuple #[.slice A (readB 100 0 a).1.length cp, .string ⟨(readB 100 0 a).2.toArray⟩]) ∧ Kept w' w'' ∧ TxAt w'' A (readB 100 0 a).1) := fun w' hk => (dread_any a w' hl.1 (h.on hk)).mono fun e w'' ⟨v, h1, h2, h3⟩ => by
    obtain ⟨A, cp, rfl⟩ := own_slice2 h3
    exact ⟨A, cp, h1, h2, tx_of_owns h3 rfl⟩
  have q2 : ∀ w', Kept w w' → Calls Tryz.prog 24 #[.string ⟨b.toArray⟩] w' (fun e w'' => ∃ A cp, e = .returned (.tuple #[.slice A (readB 100 0 b).1.length cp, .string ⟨(readB 100 0 b).2.toArray⟩]) ∧ Kept w' w'' ∧ TxAt w'' A (readB 100 0 b).1) := fun w' hk => (dread_any b w' hl.2 (h.on hk)).mono fun e w'' ⟨v, h1, h2, h3⟩ => by
    obtain ⟨A, cp, rfl⟩ := own_slice2 h3
    exact ⟨A, cp, h1, h2, tx_of_owns h3 rfl⟩
  have hla := rd_len a
  have hlb := rd_len b
  obtain ⟨R, hR⟩ : ∃ R, mergeB a b = R := ⟨_, rfl⟩
  rw [hR]
  have hR2 := hR
  unfold mergeB at hR2
  obtain ⟨l, hl1⟩ : ∃ x, (readB 100 0 a).1 = x := ⟨_, rfl⟩
  obtain ⟨r, hr1⟩ : ∃ x, (readB 100 0 a).2 = x := ⟨_, rfl⟩
  obtain ⟨m, hm1⟩ : ∃ x, (readB 100 0 b).1 = x := ⟨_, rfl⟩
  obtain ⟨s, hs1⟩ : ∃ x, (readB 100 0 b).2 = x := ⟨_, rfl⟩
  rw [hl1, hr1] at q1
  rw [hm1, hs1] at q2
  rw [hl1] at hla
  rw [hm1] at hlb
  rw [hl1, hr1, hm1, hs1] at hR2
  have Q1 := Lib.hid q1
  have Q2 := Lib.hid q2
  have HR := Lib.hid hR2
  clear q1 q2 hR hR2 hl1 hr1 hm1 hs1 h hl
  unfold strV
  by_cases hrs : r ≠ [] ∨ s ≠ []
  · have eR : R = ([], 0, 14) := by rw [← HR.out, if_pos hrs]
    subst eR
    by_cases hr : r = []
    · subst hr
      have hs : s.isEmpty = false := by
        rcases hrs with q | q
        · exact absurd rfl q
        · cases s with
          | nil => exact absurd rfl q
          | cons x l => rfl
      clear hrs HR
      go_enter Tryz.func27, Tryz.ntmps27
      go_wp2_with (first | (go_at_call 24; (with_reducible refine (Q1.out _ (by (repeat (first | exact Kept.refl _ | assumption | refine Kept.alloc ?_ _ | refine Kept.ext ?_ _ | refine Kept.drew ?_ | refine Kept.drewN ?_ _)))).mono ?_); rintro e w1 ⟨A, cp, rfl, ⟨y1, rfl⟩, t1⟩; have T1 := Lib.hid t1; clear t1) | (go_at_call 24; (with_reducible refine (Q2.out _ (by (repeat (first | exact Kept.refl _ | assumption | refine Kept.alloc ?_ _ | refine Kept.ext ?_ _ | refine Kept.drew ?_ | refine Kept.drewN ?_ _)))).mono ?_); rintro e w2 ⟨B, cp2, rfl, ⟨y2, rfl⟩, t2⟩; have T2 := Lib.hid t2; clear t2))
      refine bodyPost_ret (by simp only [results, Tryz.results27]; go_simp; rfl) rfl ?_
      exact ⟨rfl, by (repeat (first | exact Kept.refl _ | assumption | refine Kept.alloc ?_ _ | refine Kept.ext ?_ _ | refine Kept.drew ?_ | refine Kept.drewN ?_ _))⟩
    · have hr2 : r.isEmpty = false := by
        cases r with
        | nil => exact absurd rfl hr
        | cons x l => rfl
      clear hrs HR hr
      go_enter Tryz.func27, Tryz.ntmps27
      go_wp2_with (first | (go_at_call 24; (with_reducible refine (Q1.out _ (by (repeat (first | exact Kept.refl _ | assumption | refine Kept.alloc ?_ _ | refine Kept.ext ?_ _ | refine Kept.drew ?_ | refine Kept.drewN ?_ _)))).mono ?_); rintro e w1 ⟨A, cp, rfl, ⟨y1, rfl⟩, t1⟩; have T1 := Lib.hid t1; clear t1) | (go_at_call 24; (with_reducible refine (Q2.out _ (by (repeat (first | exact Kept.refl _ | assumption | refine Kept.alloc ?_ _ | refine Kept.ext ?_ _ | refine Kept.drew ?_ | refine Kept.drewN ?_ _)))).mono ?_); rintro e w2 ⟨B, cp2, rfl, ⟨y2, rfl⟩, t2⟩; have T2 := Lib.hid t2; clear t2))
      refine bodyPost_ret (by simp only [results, Tryz.results27]; go_simp; rfl) rfl ?_
      exact ⟨rfl, by (repeat (first | exact Kept.refl _ | assumption | refine Kept.alloc ?_ _ | refine Kept.ext ?_ _ | refine Kept.drew ?_ | refine Kept.drewN ?_ _))⟩
  · have hr : r = [] := Classical.byContradiction fun q => hrs (.inl q)
    have hs : s = [] := Classical.byContradiction fun q => hrs (.inr q)
    have hR2 := HR.out
    rw [if_neg hrs] at hR2
    subst hr hs
    have HR2 := Lib.hid hR2
    clear hR2 HR hrs
    go_enter Tryz.func27, Tryz.ntmps27
    go_wp2_with (first | (go_at_call 24; (with_reducible refine (Q1.out _ (by (repeat (first | exact Kept.refl _ | assumption | refine Kept.alloc ?_ _ | refine Kept.ext ?_ _ | refine Kept.drew ?_ | refine Kept.drewN ?_ _)))).mono ?_); rintro e w1 ⟨A, cp, rfl, ⟨y1, rfl⟩, t1⟩; have T1 := Lib.hid t1; clear t1) | (go_at_call 24; (with_reducible refine (Q2.out _ (by (repeat (first | exact Kept.refl _ | assumption | refine Kept.alloc ?_ _ | refine Kept.ext ?_ _ | refine Kept.drew ?_ | refine Kept.drewN ?_ _)))).mono ?_); rintro e w2 ⟨B, cp2, rfl, ⟨y2, rfl⟩, t2⟩; have T2 := Lib.hid t2; clear t2))
    refine wp_gen (fun W2 hW2 => ?_)
    have k2 : Kept w W2 := by rw [hW2]; (repeat (first | exact Kept.refl _ | assumption | refine Kept.alloc ?_ _ | refine Kept.ext ?_ _ | refine Kept.drew ?_ | refine Kept.drewN ?_ _))
    have t1 : TxAt W2 A l := by rw [hW2]; exact T1.out.of (by (repeat (first | exact Kept.refl _ | assumption | refine Kept.alloc ?_ _ | refine Kept.ext ?_ _ | refine Kept.drew ?_ | refine Kept.drewN ?_ _)))
    have t2 : TxAt W2 B m := by rw [hW2]; exact T2.out.of (by (repeat (first | exact Kept.refl _ | assumption | refine Kept.alloc ?_ _ | refine Kept.ext ?_ _ | refine Kept.drew ?_ | refine Kept.drewN ?_ _)))
    have K2 := Lib.hid k2
    have U1 := Lib.hid t1
    have U2 := Lib.hid t2
    clear hW2 k2 t1 t2 T1 T2
    go_loopw [33] (fun i wr => ∃ k : Nat, (k ≤ l.length ∧ k ≤ m.length) ∧ i = .int .i64 k ∧ (∃ y, wr = ext W2 y) ∧ firstNe (l.drop k) (m.drop k) k = firstNe l m 0) (fun i _ => l.length - (intOf i).toNat)
    case atStart => exact ⟨0, by omega, rfl, show Kept _ _ by (repeat (first | exact Kept.refl _ | assumption | refine Kept.alloc ?_ _ | refine Kept.ext ?_ _ | refine Kept.drew ?_ | refine Kept.drewN ?_ _)), rfl⟩
    case round =>
      obtain ⟨k, hk, rfl, ⟨y, rfl⟩, hT⟩ := hrel
      have HTK := Lib.hid hT
      clear hT
      by_cases hlt : k < l.length ∧ k < m.length
      · obtain ⟨hlt1, hlt2⟩ := hlt
        obtain ⟨bb, off, rfl, hb1, f0⟩ := U1.out.at hlt1
        obtain ⟨b', off', rfl, hb2, f1⟩ := U2.out.at hlt2
        have LB : Lower bb W2.heap.size := ⟨hb1⟩
        have LB' : Lower b' W2.heap.size := ⟨hb2⟩
        obtain ⟨p, hp⟩ : ∃ p, l[k] = p := ⟨_, rfl⟩
        obtain ⟨q, hq⟩ : ∃ q, m[k] = q := ⟨_, rfl⟩
        rw [hp] at f0
        rw [hq] at f1
        unfold strV at f0 f1
        have gmin : (k : Int) < min (l.length : Int) (m.length : Int) := by omega
        by_cases hpq : p = q
        · have hn := first_next hlt1 hlt2 (by rw [hp, hq, hpq]) HTK.out
          have HN := Lib.hid hn
          subst hpq
          clear hn hp hq
          go_wp2_with fail
          ((first | (with_reducible refine wp_region_kept2 (by kernel_rfl) (by kernel_rfl) ?_) | refine wp_region_kept (by kernel_rfl) (by kernel_rfl) ?_); (repeat (go_big_quiet_step (first | fail))); refine wpQuiet_nil ?_; intro x)
          go_wp2_with fail
          go_roundw
          case rel => exact ⟨k + 1, by omega, by go_num, show Kept _ _ by (repeat (first | exact Kept.refl _ | assumption | refine Kept.alloc ?_ _ | refine Kept.ext ?_ _ | refine Kept.drew ?_ | refine Kept.drewN ?_ _)), HN.out⟩
          case measure => simp [intOf]; omega
        · have er := first_here hlt1 hlt2 (by rw [hp, hq]; exact hpq) HTK.out
          have eR : R = ([], (k : Int), 12) := by rw [← HR2.out, er]
          subst eR
          have gq : (p == q) = false := beq_eq_false_iff_ne.2 hpq
          clear hp hq er HR2
          go_wp2_with fail
          ((first | (with_reducible refine wp_region_kept2 (by kernel_rfl) (by kernel_rfl) ?_) | refine wp_region_kept (by kernel_rfl) (by kernel_rfl) ?_); (repeat (go_big_quiet_step (first | fail))); refine wpQuiet_nil ?_; intro x)
          go_wp2_with fail
          refine bodyPost_ret (by simp only [results, Tryz.results27]; go_simp; rfl) rfl ?_
          exact ⟨rfl, K2.out.trans (by (repeat (first | exact Kept.refl _ | assumption | refine Kept.alloc ?_ _ | refine Kept.ext ?_ _ | refine Kept.drew ?_ | refine Kept.drewN ?_ _)))⟩
      · have er := first_end hlt HTK.out
        have hR2 := HR2.out
        rw [er] at hR2
        have gmin : ¬ (k : Int) < min (l.length : Int) (m.length : Int) := by omega
        by_cases hlm : l.length < m.length
        · have eR : R = (b, (m.length : Int), 0) := by
            rw [← hR2]
            exact if_pos hlm
          subst eR
          have gk : ¬ (k : Int) < (l.length : Int) := by omega
          have gg : (l.length : Int) < (m.length : Int) := by omega
          clear hR2 HR2 er hlt
          go_wp2_with fail
          refine bodyPost_ret (by simp only [results, Tryz.results27]; go_simp; rfl) rfl ?_
          exact ⟨rfl, K2.out.trans (by (repeat (first | exact Kept.refl _ | assumption | refine Kept.alloc ?_ _ | refine Kept.ext ?_ _ | refine Kept.drew ?_ | refine Kept.drewN ?_ _)))⟩
        · have eR : R = (a, (l.length : Int), 0) := by
            rw [← hR2]
            exact if_neg hlm
          subst eR
          have gg : (m.length : Int) ≤ (l.length : Int) := by omega
          have gk2 : (m.length : Int) ≤ (k : Int) := by omega
          clear hR2 HR2 er
          by_cases gk : k < l.length
          · have gk3 : (k : Int) < (l.length : Int) := by omega
            clear hlt
            go_wp2_with fail
            refine bodyPost_ret (by simp only [results, Tryz.results27]; go_simp; rfl) rfl ?_
            exact ⟨rfl, K2.out.trans (by (repeat (first | exact Kept.refl _ | assumption | refine Kept.alloc ?_ _ | refine Kept.ext ?_ _ | refine Kept.drew ?_ | refine Kept.drewN ?_ _)))⟩
          · have gk3 : (l.length : Int) ≤ (k : Int) := by omega
            clear hlt
            go_wp2_with fail
            refine bodyPost_ret (by simp only [results, Tryz.results27]; go_simp; rfl) rfl ?_
            exact ⟨rfl, K2.out.trans (by (repeat (first | exact Kept.refl _ | assumption | refine Kept.alloc ?_ _ | refine Kept.ext ?_ _ | refine Kept.drew ?_ | refine Kept.drewN ?_ _)))⟩
end Go.Proofs.YtnbjealpcjfllaaGreatDoor

/- Contracts: whether a point may be asked about, checks, the mean of 1/r over a right panel, and the potential of charged panels, of the program. Conditions: those of each theorem. -/
import Derived.Test.YtodmdicegkjicaaZn
namespace Go.Proofs.Ytodmdicegkjicaa
set_option linter.unusedVariables false
set_option linter.unusedSimpArgs false
open Go.ChangeShapes Go.WideShapes Go.ChangeAt Go.RowKit Go.Deep
theorem fseen_any (x y z : Int) (w : World) :
    Calls Try.prog 19 #[.agg #[.int .i64 x, .int .i64 y, .int .i64 z]] w fun e w' => e = .returned (.bool (inB x y z 256)) ∧ Kept w w' := by
  unfold inB
  cases h1 : frB x (-256) 256
  · go_enter Try.func19, Try.ntmps19
    go_wp2_with (first | (go_at_call 20; refine (fwithin_any _ _ _ _).mono ?_; rintro e w1 ⟨rfl, rfl⟩))
    go_ret
    exact ⟨rfl, by (repeat (first | exact Kept.refl _ | assumption | refine Kept.alloc ?_ _ | refine Kept.ext ?_ _ | refine Kept.drew ?_ | refine Kept.drewN ?_ _))⟩
  cases h2 : frB y (-256) 256
  · go_enter Try.func19, Try.ntmps19
    go_wp2_with (first | (go_at_call 20; refine (fwithin_any _ _ _ _).mono ?_; rintro e w1 ⟨rfl, rfl⟩))
    go_ret
    exact ⟨rfl, by (repeat (first | exact Kept.refl _ | assumption | refine Kept.alloc ?_ _ | refine Kept.ext ?_ _ | refine Kept.drew ?_ | refine Kept.drewN ?_ _))⟩
  · go_enter Try.func19, Try.ntmps19
    go_wp2_with (first | (go_at_call 20; refine (fwithin_any _ _ _ _).mono ?_; rintro e w1 ⟨rfl, rfl⟩))
    go_ret
    exact ⟨rfl, by (repeat (first | exact Kept.refl _ | assumption | refine Kept.alloc ?_ _ | refine Kept.ext ?_ _ | refine Kept.drew ?_ | refine Kept.drewN ?_ _))⟩
set_option maxRecDepth 100000 in
set_option maxHeartbeats 4000000 in
theorem fcheck_ok (p : Pn) (x0 x1 x2 d : Int) (w : World) (hv : vpanS p.a0 p.a1 p.a2 p.b0 p.b1 p.b2 p.c0 p.c1 p.c2 = 0) (hx : inB x0 x1 x2 256 = true) (hd : frB d 0 3 = true) :
    Calls Try.prog 34 #[p.val, .agg #[.int .i64 x0, .int .i64 x1, .int .i64 x2], .int .i64 d] w fun e w' => e = .returned (.int .i64 0) ∧ Kept w w' := by
  have h1 : ∀ w', _ := fun w' => svpan_any p.a0 p.a1 p.a2 p.b0 p.b1 p.b2 p.c0 p.c1 p.c2 w'
  rw [hv] at h1
  have h2 : ∀ w', _ := fun w' => fseen_any x0 x1 x2 w'
  rw [hx] at h2
  have h3 : ∀ w', _ := fun w' => fwithin_any d 0 3 w'
  rw [hd] at h3
  unfold Pn.val
  have H1 := Lib.hid h1
  have H2 := Lib.hid h2
  have H3 := Lib.hid h3
  clear h1 h2 h3 hv hx hd
  go_enter Try.func34, Try.ntmps34
  go_wp2_with (first | (go_at_call 33; (with_reducible refine (H1.out _).mono ?_); rintro e w1 ⟨rfl, y1, rfl⟩) | (go_at_call 19; (with_reducible refine (H2.out _).mono ?_); rintro e w1 ⟨rfl, y2, rfl⟩) | (go_at_call 20; (with_reducible refine (H3.out _).mono ?_); rintro e w1 ⟨rfl, rfl⟩))
  go_ret
  exact ⟨rfl, by (repeat (first | exact Kept.refl _ | assumption | refine Kept.alloc ?_ _ | refine Kept.ext ?_ _ | refine Kept.drew ?_ | refine Kept.drewN ?_ _))⟩
set_option maxRecDepth 100000 in
set_option maxHeartbeats 4000000 in
theorem fMean_ok (p : Pn) (x0 x1 x2 : Int) (d : Nat) (w : World) (hv : vpanS p.a0 p.a1 p.a2 p.b0 p.b1 p.b2 p.c0 p.c1 p.c2 = 0) (hp : p.bd 64) (hx : inB x0 x1 x2 256 = true) (hd : d ≤ 3) :
    Calls Try.prog 21 #[p.val, .agg #[.int .i64 x0, .int .i64 x1, .int .i64 x2], .int .i64 d] w fun e w' => e = .returned (.tuple #[.agg #[.int .i64 (meanX d x0 x1 x2 p).lo, .int .i64 (meanX d x0 x1 x2 p).hi], .int .i64 (meanX d x0 x1 x2 p).e]) ∧ Kept w w' := by
  obtain ⟨a0, a1, b0, b1, c0, c1⟩ := inB_true hx
  have h1 : ∀ w', _ := fun w' => fcheck_ok p x0 x1 x2 d w' hv hx (by unfold frB; exact decide_eq_true (by omega))
  have h2 : ∀ w', _ := fun w' => fmean_inv p x0 x1 x2 d w' hd hp ⟨a0, a1⟩ ⟨b0, b1⟩ ⟨c0, c1⟩
  obtain ⟨M, hM⟩ : ∃ M, meanX d x0 x1 x2 p = M := ⟨_, rfl⟩
  rw [hM] at h2 ⊢
  unfold Pn.val at *
  have H1 := Lib.hid h1
  have H2 := Lib.hid h2
  clear h1 h2 hv hx hM hp
  go_enter Try.func21, Try.ntmps21
  go_wp2_with (first | (go_at_call 34; (with_reducible refine (H1.out _).mono ?_); rintro e w1 ⟨rfl, y1, rfl⟩) | (go_at_call 35; (with_reducible refine (H2.out _).mono ?_); rintro e w1 ⟨rfl, y2, rfl⟩))
  refine bodyPost_ret (by simp only [results, Try.results21]; go_simp; rfl) rfl ?_
  exact ⟨rfl, by (repeat (first | exact Kept.refl _ | assumption | refine Kept.alloc ?_ _ | refine Kept.ext ?_ _ | refine Kept.drew ?_ | refine Kept.drewN ?_ _))⟩
theorem potE_no {f : Nat → Nat → Int} {d : Nat} {x0 x1 x2 : Int} {n k : Nat} (hk : k < n) (h0 : potE f d x0 x1 x2 k = 0) (h1 : (ptS d x0 x1 x2 (f k)).e ≠ 0) : potE f d x0 x1 x2 n = (ptS d x0 x1 x2 (f k)).e := by
  induction n with
  | zero => omega
  | succ n ih =>
    unfold potE
    by_cases e : k = n
    · subst e
      rw [if_pos h0]
    · rw [ih (by omega), if_neg h1]
theorem potE_succ {f : Nat → Nat → Int} {d : Nat} {x0 x1 x2 : Int} {k : Nat} (h0 : potE f d x0 x1 x2 k = 0) (h1 : (ptS d x0 x1 x2 (f k)).e = 0) : potE f d x0 x1 x2 (k + 1) = 0 := by
  unfold potE
  rw [if_pos h0]
  exact h1
def ptF2 (d : Nat) (x0 x1 x2 : Int) (f : Nat → Nat → Int) (k j : Nat) : Int := if j = 0 then (ptS d x0 x1 x2 (f k)).lo else (ptS d x0 x1 x2 (f k)).hi
theorem scale_I (a b q : Int) : I64 (scaleS a b q).lo ∧ I64 (scaleS a b q).hi := by
  unfold scaleS resultS validB I64
  split
  · split
    · rename_i h
      have := of_decide_eq_true h
      simp only
      omega
    · simp
  · simp
theorem ptS_I (d : Nat) (x0 x1 x2 : Int) (g : Nat → Int) : I64 (ptS d x0 x1 x2 g).lo ∧ I64 (ptS d x0 x1 x2 g).hi := by
  unfold ptS
  split
  · exact scale_I _ _ _
  · simp [I64]
/-- The potential of charged panels, with all errors. -/
def potA (n : Nat) (f : Nat → Nat → Int) (d x0 x1 x2 : Int) : R := if vchS n f = 0 then (if (inB x0 x1 x2 256 && frB d 0 3) = true then potV n f d.toNat x0 x1 x2 else ⟨0, 0, 1⟩) else ⟨0, 0, vchS n f⟩
set_option maxRecDepth 100000 in
set_option maxHeartbeats 8000000 in
theorem fPot_any (A : Option Addr) (n cap : Nat) (f : Nat → Nat → Int) (d x0 x1 x2 : Int) (w : World) (hn : n ≤ 9223372036854775807) (hs : RowsAt w A n 10 f) :
    Calls Try.prog 8 #[.slice A n cap, .agg #[.int .i64 x0, .int .i64 x1, .int .i64 x2], .int .i64 d] w fun e w' => e = .returned (.tuple #[.agg #[.int .i64 (potA n f d x0 x1 x2).lo, .int .i64 (potA n f d x0 x1 x2).hi], .int .i64 (potA n f d x0 x1 x2).e]) ∧ Kept w w' := by
  have h1 : ∀ w', Kept w w' → _ := fun w' hk => fvch_any A n cap f w' hn (hs.of hk)
  have h2 : ∀ w', _ := fun w' => fseen_any x0 x1 x2 w'
  have h3 : ∀ w', _ := fun w' => fwithin_any d 0 3 w'
  obtain ⟨ve, hve⟩ : ∃ v, vchS n f = v := ⟨_, rfl⟩
  rw [hve] at h1
  by_cases hv0 : ve = 0
  case neg =>
    have e : potA n f d x0 x1 x2 = ⟨0, 0, ve⟩ := by unfold potA; rw [hve, if_neg hv0]
    rw [e]
    have g1 : (ve != 0) = true := by simpa using hv0
    have H1 := Lib.hid h1
    clear h1 h2 h3 hve e hv0
    go_enter Try.func8, Try.ntmps8
    go_wp2_with (first | (go_at_call 18; (with_reducible refine (H1.out _ (by (repeat (first | exact Kept.refl _ | assumption | refine Kept.alloc ?_ _ | refine Kept.ext ?_ _ | refine Kept.drew ?_ | refine Kept.drewN ?_ _)))).mono ?_); rintro e w1 ⟨rfl, y1, rfl⟩))
    refine bodyPost_ret (by simp only [results, Try.results8]; go_simp; rfl) rfl ?_
    exact ⟨rfl, by (repeat (first | exact Kept.refl _ | assumption | refine Kept.alloc ?_ _ | refine Kept.ext ?_ _ | refine Kept.drew ?_ | refine Kept.drewN ?_ _))⟩
  subst hv0
  obtain ⟨bs, hbs⟩ : ∃ b, inB x0 x1 x2 256 = b := ⟨_, rfl⟩
  obtain ⟨bd, hbd⟩ : ∃ b, frB d 0 3 = b := ⟨_, rfl⟩
  rw [hbs] at h2
  rw [hbd] at h3
  cases bs
  case false =>
    have e : potA n f d x0 x1 x2 = ⟨0, 0, 1⟩ := by unfold potA; rw [hve, if_pos rfl, hbs]; rfl
    rw [e]
    have H1 := Lib.hid h1
    have H2 := Lib.hid h2
    clear h1 h2 h3 hve e hbs hbd
    go_enter Try.func8, Try.ntmps8
    go_wp2_with (first | (go_at_call 18; (with_reducible refine (H1.out _ (by (repeat (first | exact Kept.refl _ | assumption | refine Kept.alloc ?_ _ | refine Kept.ext ?_ _ | refine Kept.drew ?_ | refine Kept.drewN ?_ _)))).mono ?_); rintro e w1 ⟨rfl, y1, rfl⟩) | (go_at_call 19; (with_reducible refine (H2.out _).mono ?_); rintro e w1 ⟨rfl, y2, rfl⟩))
    refine bodyPost_ret (by simp only [results, Try.results8]; go_simp; rfl) rfl ?_
    exact ⟨rfl, by (repeat (first | exact Kept.refl _ | assumption | refine Kept.alloc ?_ _ | refine Kept.ext ?_ _ | refine Kept.drew ?_ | refine Kept.drewN ?_ _))⟩
  cases bd
  case true.false =>
    have e : potA n f d x0 x1 x2 = ⟨0, 0, 1⟩ := by unfold potA; rw [hve, if_pos rfl, hbs, hbd]; rfl
    rw [e]
    have H1 := Lib.hid h1
    have H2 := Lib.hid h2
    have H3 := Lib.hid h3
    clear h1 h2 h3 hve e hbs hbd
    go_enter Try.func8, Try.ntmps8
    go_wp2_with (first | (go_at_call 18; (with_reducible refine (H1.out _ (by (repeat (first | exact Kept.refl _ | assumption | refine Kept.alloc ?_ _ | refine Kept.ext ?_ _ | refine Kept.drew ?_ | refine Kept.drewN ?_ _)))).mono ?_); rintro e w1 ⟨rfl, y1, rfl⟩) | (go_at_call 19; (with_reducible refine (H2.out _).mono ?_); rintro e w1 ⟨rfl, y2, rfl⟩) | (go_at_call 20; (with_reducible refine (H3.out _).mono ?_); rintro e w1 ⟨rfl, rfl⟩))
    refine bodyPost_ret (by simp only [results, Try.results8]; go_simp; rfl) rfl ?_
    exact ⟨rfl, by (repeat (first | exact Kept.refl _ | assumption | refine Kept.alloc ?_ _ | refine Kept.ext ?_ _ | refine Kept.drew ?_ | refine Kept.drewN ?_ _))⟩
  have e : potA n f d x0 x1 x2 = potV n f d.toNat x0 x1 x2 := by unfold potA; rw [hve, if_pos rfl, hbs, hbd]; rfl
  rw [e]
  obtain ⟨dn, rfl⟩ : ∃ k : Nat, d = k := ⟨d.toNat, by have := frB_true hbd; omega⟩
  have hd3 : dn ≤ 3 := by have := frB_true hbd; omega
  rw [Int.toNat_natCast]
  obtain ⟨hn96, hf⟩ : n ≤ 96 ∧ firstE f n = 0 := by
    unfold vchS at hve
    split at hve
    · cases hve
    · exact ⟨by omega, hve⟩
  have hch : ∀ k, k < n → chE (f k) = 0 := first_each hf
  have hmean : ∀ k w', k < n → Calls Try.prog 21 #[.agg #[.int .i64 (f k 0), .int .i64 (f k 1), .int .i64 (f k 2), .int .i64 (f k 3), .int .i64 (f k 4), .int .i64 (f k 5), .int .i64 (f k 6), .int .i64 (f k 7), .int .i64 (f k 8)], .agg #[.int .i64 x0, .int .i64 x1, .int .i64 x2], .int .i64 dn] w' fun e w'' => e = .returned (.tuple #[.agg #[.int .i64 (meanX dn x0 x1 x2 (rowP (f k))).lo, .int .i64 (meanX dn x0 x1 x2 (rowP (f k))).hi], .int .i64 (meanX dn x0 x1 x2 (rowP (f k))).e]) ∧ Kept w' w'' := fun k w' hk => by
    have hc := hch k hk
    have hv : vpanS (f k 0) (f k 1) (f k 2) (f k 3) (f k 4) (f k 5) (f k 6) (f k 7) (f k 8) = 0 := by
      unfold chE at hc
      split at hc
      · rename_i q; exact q
      · rename_i q; exact absurd hc q
    obtain ⟨b0, b1, b2, b3, b4, b5, b6, b7, b8, -⟩ := chE_bd hc
    exact fMean_ok (rowP (f k)) x0 x1 x2 dn w' hv ⟨⟨b0, b1, b2⟩, ⟨b3, b4, b5⟩, b6, b7, b8⟩ hbs hd3
  obtain ⟨ti, hti, hte⟩ := Option.map_eq_some_iff.1 info_Sp
  simp only [Prod.mk.injEq] at hte
  have HI := Lib.hid (And.intro hti hte)
  have H1 := Lib.hid h1
  have H2 := Lib.hid h2
  have H3 := Lib.hid h3
  have HM := Lib.hid hmean
  have HR := Lib.hid hs
  clear h1 h2 h3 hve e hbs hbd hf hch hmean hs hti hte
  go_enter Try.func8, Try.ntmps8
  go_wp2_with (first | (go_at_call 18; (with_reducible refine (H1.out _ (by (repeat (first | exact Kept.refl _ | assumption | refine Kept.alloc ?_ _ | refine Kept.ext ?_ _ | refine Kept.drew ?_ | refine Kept.drewN ?_ _)))).mono ?_); rintro e w1 ⟨rfl, y1, rfl⟩) | (go_at_call 19; (with_reducible refine (H2.out _).mono ?_); rintro e w1 ⟨rfl, y2, rfl⟩) | (go_at_call 20; (with_reducible refine (H3.out _).mono ?_); rintro e w1 ⟨rfl, rfl⟩))
  refine wp_gen (fun W1 hW1 => ?_)
  have hk1 : Kept w W1 := by rw [hW1]; (repeat (first | exact Kept.refl _ | assumption | refine Kept.alloc ?_ _ | refine Kept.ext ?_ _ | refine Kept.drew ?_ | refine Kept.drewN ?_ _))
  have hxb : W1.heap[w.heap.size]? = some (.cells #[.int .i64 x0, .int .i64 x1, .int .i64 x2] 24 (0, 0)) := by rw [hW1]; exact heap_kp (alloc_now w _ w.heap.size) (by (repeat (first | exact Kept.refl _ | assumption | refine Kept.alloc ?_ _ | refine Kept.ext ?_ _ | refine Kept.drew ?_ | refine Kept.drewN ?_ _)))
  have hrb : W1.heap[w.heap.size + 1]? = some (.cells #[.int .i64 0, .int .i64 0] 39 (0, 0)) := by rw [hW1]; exact heap_kp (alloc_now (w.alloc (.cells #[.int .i64 x0, .int .i64 x1, .int .i64 x2] 24)) _ (w.heap.size + 1)) (by (repeat (first | exact Kept.refl _ | assumption | refine Kept.alloc ?_ _ | refine Kept.ext ?_ _ | refine Kept.drew ?_ | refine Kept.drewN ?_ _)))
  have K1 := Lib.hid hk1
  have XB := Lib.hid hxb
  have RB := Lib.hid hrb
  clear hW1 hk1 hxb hrb
  go_loopw [9, 31] (fun o i wr => ∃ k : Nat, k ≤ n ∧ i = .int .i64 k ∧ Kept W1 wr ∧ potE f dn x0 x1 x2 k = 0 ∧ wr.ownsRow W1.heap.size 39 2 o k (rowC 2 (ptF2 dn x0 x1 x2 f) k)) (fun _ i _ => n - (intOf i).toNat)
  case atStart => exact ⟨0, by omega, rfl, Kept.refl _, rfl, World.ownsRow_nil _ _ _ _⟩
  case round =>
    obtain ⟨k, hk, rfl, hkw, hpe, hown⟩ := hrel
    obtain ⟨A2, cp2, rfl⟩ := own_slice2 hown
    have HKW := Lib.hid hkw
    have HO := Lib.hid hown
    have HPE := Lib.hid hpe
    have hx := heap_kp XB.out hkw
    have hr := heap_kp RB.out hkw
    have cx0 : wr.cell? ⟨w.heap.size, 0, none⟩ = some (.int .i64 x0) := cell_blk hx rfl
    have cx1 : wr.cell? ⟨w.heap.size, 1, none⟩ = some (.int .i64 x1) := cell_blk hx rfl
    have cx2 : wr.cell? ⟨w.heap.size, 2, none⟩ = some (.int .i64 x2) := cell_blk hx rfl
    have cr0 : wr.cell? ⟨w.heap.size + 1, 0, none⟩ = some (.int .i64 0) := cell_blk hr rfl
    have cr1 : wr.cell? ⟨w.heap.size + 1, 1, none⟩ = some (.int .i64 0) := cell_blk hr rfl
    have fr0 : wr.frozen? ⟨w.heap.size + 1, 0, none⟩ = false := frozen_blk hr
    have fr1 : wr.frozen? ⟨w.heap.size + 1, 1, none⟩ = false := frozen_blk hr
    haveI : Lower w.heap.size wr.heap.size := ⟨cell_lt cx0⟩
    haveI : Lower (w.heap.size + 1) wr.heap.size := ⟨cell_lt cr0⟩
    have lv := hkw.below.size
    have BW := Lib.hid (K1.out.below.trans (hkw.below.mono K1.out.below.size))
    clear hkw hown hpe hx hr
    by_cases hlt : k < n
    · have hms := fun w' => HM.out k w' hlt
      obtain ⟨b, off, rfl, hb, hcell⟩ := (HR.out.of (K1.out.trans HKW.out)) (by omega)
      have c0 := (hcell k hlt 0 (by omega)).1
      have c1 := (hcell k hlt 1 (by omega)).1
      have c2 := (hcell k hlt 2 (by omega)).1
      have c3 := (hcell k hlt 3 (by omega)).1
      have c4 := (hcell k hlt 4 (by omega)).1
      have c5 := (hcell k hlt 5 (by omega)).1
      have c6 := (hcell k hlt 6 (by omega)).1
      have c7 := (hcell k hlt 7 (by omega)).1
      have c8 := (hcell k hlt 8 (by omega)).1
      have c9 := (hcell k hlt 9 (by omega)).1
      rw [Nat.add_zero] at c0
      have LB : Lower b wr.heap.size := ⟨hb⟩
      clear hcell
      obtain ⟨ml, hml⟩ : ∃ m, (meanX dn x0 x1 x2 (rowP (f k))).lo = m := ⟨_, rfl⟩
      obtain ⟨mh, hmh⟩ : ∃ m, (meanX dn x0 x1 x2 (rowP (f k))).hi = m := ⟨_, rfl⟩
      obtain ⟨me, hme⟩ : ∃ m, (meanX dn x0 x1 x2 (rowP (f k))).e = m := ⟨_, rfl⟩
      rw [hml, hmh, hme] at hms
      have HMS := Lib.hid hms
      clear hms
      by_cases hm0 : me = 0
      case neg =>
        have e1 : (ptS dn x0 x1 x2 (f k)).e = me := by unfold ptS; rw [hme, if_neg hm0]
        have e2 := potE_no hlt HPE.out (by rw [e1]; exact hm0)
        rw [e1] at e2
        have e3 : potV n f dn x0 x1 x2 = ⟨0, 0, me⟩ := by unfold potV; rw [e2, if_neg hm0]
        have g1 : (me != 0) = true := by simpa using hm0
        have E3 := Lib.hid e3
        clear hml hmh hme e1 e2 e3 hm0
        have kb : Kept w ((wr.setCell ⟨w.heap.size + 1, 0, none⟩ (.int .i64 0)).setCell ⟨w.heap.size + 1, 1, none⟩ (.int .i64 0)) := Kept.of_below ((BW.out.setCell (p := ⟨w.heap.size + 1, 0, none⟩) (Nat.le_succ _) _).setCell (p := ⟨w.heap.size + 1, 1, none⟩) (Nat.le_succ _) _)
        go_wp2_with (first | (go_at_call 21; (with_reducible refine (HMS.out _).mono ?_); rintro e w1 ⟨rfl, y3, rfl⟩))
        rw [E3.out]
        refine bodyPost_ret (by simp only [results, Try.results8]; go_simp; rfl) rfl ?_
        exact ⟨rfl, by (repeat (first | exact Kept.refl _ | assumption | refine Kept.alloc ?_ _ | refine Kept.ext ?_ _ | refine Kept.drew ?_ | refine Kept.drewN ?_ _))⟩
      case pos =>
        subst hm0
        have ep : ptS dn x0 x1 x2 (f k) = scaleS ml mh (f k 9) := by unfold ptS; rw [hme, if_pos rfl, hml, hmh]
        have hsc := fun w' => scale_any ml mh (f k 9) w'
        obtain ⟨sl, hsl⟩ : ∃ m, (scaleS ml mh (f k 9)).lo = m := ⟨_, rfl⟩
        obtain ⟨sh, hsh⟩ : ∃ m, (scaleS ml mh (f k 9)).hi = m := ⟨_, rfl⟩
        obtain ⟨se, hse⟩ : ∃ m, (scaleS ml mh (f k 9)).e = m := ⟨_, rfl⟩
        rw [hsl, hsh, hse] at hsc
        have HSC := Lib.hid hsc
        clear hsc hml hmh hme
        by_cases hs0 : se = 0
        case neg =>
          have e2 := potE_no hlt HPE.out (by rw [ep, hse]; exact hs0)
          rw [ep, hse] at e2
          have e3 : potV n f dn x0 x1 x2 = ⟨0, 0, se⟩ := by unfold potV; rw [e2, if_neg hs0]
          have g1 : (se != 0) = true := by simpa using hs0
          have E3 := Lib.hid e3
          clear hsl hsh hse ep e2 e3 hs0
          have kb : Kept w ((wr.setCell ⟨w.heap.size + 1, 0, none⟩ (.int .i64 0)).setCell ⟨w.heap.size + 1, 1, none⟩ (.int .i64 0)) := Kept.of_below ((BW.out.setCell (p := ⟨w.heap.size + 1, 0, none⟩) (Nat.le_succ _) _).setCell (p := ⟨w.heap.size + 1, 1, none⟩) (Nat.le_succ _) _)
          go_wp2_with (first | (go_at_call 21; (with_reducible refine (HMS.out _).mono ?_); rintro e w1 ⟨rfl, y3, rfl⟩) | (go_at_call 22; (with_reducible refine (HSC.out _).mono ?_); rintro e w1 ⟨rfl, y4, rfl⟩))
          rw [E3.out]
          refine bodyPost_ret (by simp only [results, Try.results8]; go_simp; rfl) rfl ?_
          exact ⟨rfl, by (repeat (first | exact Kept.refl _ | assumption | refine Kept.alloc ?_ _ | refine Kept.ext ?_ _ | refine Kept.drew ?_ | refine Kept.drewN ?_ _))⟩
        case pos =>
          subst hs0
          have hp1 := potE_succ HPE.out (by rw [ep]; exact hse)
          have q0 : ptF2 dn x0 x1 x2 f k 0 = sl := by unfold ptF2; rw [if_pos rfl, ep, hsl]
          have q1 : ptF2 dn x0 x1 x2 f k 1 = sh := by unfold ptF2; rw [if_neg (by decide), ep, hsh]
          have HP1 := Lib.hid hp1
          have Q01 := Lib.hid (And.intro q0 q1)
          clear hsl hsh hse ep hp1 q0 q1
          go_wp2_with (first | (go_at_call 21; (with_reducible refine (HMS.out _).mono ?_); rintro e w1 ⟨rfl, y3, rfl⟩) | (go_at_call 22; (with_reducible refine (HSC.out _).mono ?_); rintro e w1 ⟨rfl, y4, rfl⟩) | (at_builtin; refine wpList_append_lies _ rfl _ _ _ rfl W1.heap.size 39 ti _ 2 16 Try.underlying37 HI.out.1 HI.out.2.1 HI.out.2.2.1 HI.out.2.2.2 rfl (by omega) _ k (rowC 2 (ptF2 dn x0 x1 x2 f) k) rfl (owns_kept HO.out (by (repeat (first | exact Kept.refl _ | assumption | refine Kept.alloc ?_ _ | refine Kept.ext ?_ _ | refine Kept.drew ?_ | refine Kept.drewN ?_ _)))) _ 1 1 [.int .i64 sl, .int .i64 sh] rfl rfl (World.news_of_block (alloc_now _ _ _)) (by simp [Value.oneCell']) (by omega) (by unfold maxLen; omega) (by omega) (by simp [adv]; omega) _ rfl ?_; intro g9 cp9 w4 hown2 hg2 hat hlt2))
          have hk3 : Kept W1 w4 := kept_grown (base := W1.heap.size) (HKW.out.trans (by (repeat (first | exact Kept.refl _ | assumption | refine Kept.alloc ?_ _ | refine Kept.ext ?_ _ | refine Kept.drew ?_ | refine Kept.drewN ?_ _)))) (owns_kept HO.out (by (repeat (first | exact Kept.refl _ | assumption | refine Kept.alloc ?_ _ | refine Kept.ext ?_ _ | refine Kept.drew ?_ | refine Kept.drewN ?_ _)))) (Nat.le_refl _) hg2
          go_roundw
          case rel =>
            refine ⟨k + 1, by omega, by go_num, hk3, HP1.out, ?_⟩
            have er : rowC 2 (ptF2 dn x0 x1 x2 f) (k + 1) = rowC 2 (ptF2 dn x0 x1 x2 f) k ++ [.int .i64 sl, .int .i64 sh] := by
              show rowC 2 (ptF2 dn x0 x1 x2 f) k ++ [.int .i64 (ptF2 dn x0 x1 x2 f k 0), .int .i64 (ptF2 dn x0 x1 x2 f k 1)] = _
              rw [Q01.out.1, Q01.out.2]
            rw [er]
            exact hown2
          case measure =>
            simp [intOf]
            omega
    · obtain rfl : k = n := by omega
      have hrows := rows_of_owns HO.out (fun i hi j hj => by
        have := ptS_I dn x0 x1 x2 (f i)
        unfold ptF2
        split
        · exact this.1
        · exact this.2)
      have hsum : ∀ w', Kept wr w' → _ := fun w' hk => ssum_any A2 k cp2 _ _ w' (by omega) (spans_of (hrows.of hk))
      have e3 : potV k f dn x0 x1 x2 = sumsS k (fun i => ptF2 dn x0 x1 x2 f i 0) (fun i => ptF2 dn x0 x1 x2 f i 1) := by
        unfold potV
        rw [if_pos HPE.out]
        rfl
      obtain ⟨V, hV⟩ : ∃ V, sumsS k (fun i => ptF2 dn x0 x1 x2 f i 0) (fun i => ptF2 dn x0 x1 x2 f i 1) = V := ⟨_, rfl⟩
      rw [hV] at e3 hsum
      have E3 := Lib.hid e3
      have HSU := Lib.hid hsum
      have kb : ∀ u v : Value, Kept w ((wr.setCell ⟨w.heap.size + 1, 0, none⟩ u).setCell ⟨w.heap.size + 1, 1, none⟩ v) := fun u v => Kept.of_below ((BW.out.setCell (p := ⟨w.heap.size + 1, 0, none⟩) (Nat.le_succ _) _).setCell (p := ⟨w.heap.size + 1, 1, none⟩) (Nat.le_succ _) _)
      have KB := Lib.hid kb
      clear e3 hsum hV hrows kb
      go_wp2_with (first | (go_at_call 23; (with_reducible refine (HSU.out _ (by (repeat (first | exact Kept.refl _ | assumption | refine Kept.alloc ?_ _ | refine Kept.ext ?_ _ | refine Kept.drew ?_ | refine Kept.drewN ?_ _)))).mono ?_); rintro e w1 ⟨rfl, y3, rfl⟩))
      rw [E3.out]
      have kb := KB.out (.int .i64 V.lo) (.int .i64 V.hi)
      refine bodyPost_ret (by simp only [results, Try.results8]; go_simp; rfl) rfl ?_
      exact ⟨rfl, by (repeat (first | exact Kept.refl _ | assumption | refine Kept.alloc ?_ _ | refine Kept.ext ?_ _ | refine Kept.drew ?_ | refine Kept.drewN ?_ _))⟩
end Go.Proofs.Ytodmdicegkjicaa


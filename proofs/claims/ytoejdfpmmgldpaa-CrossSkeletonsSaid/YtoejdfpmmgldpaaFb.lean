/- An element appended to a list of the call's own, in a region that draws its order and reads two cells of another block meanwhile: what is known at each step. Conditions: those of each theorem. Contracts: products of skeletons, of the reference. Conditions: the lists' lengths are ints. -/
import Derived.Test.YtoejdfpmmgldpaaFa
namespace Go.Proofs.Ytoejdfpmmgldpaa
set_option linter.unusedVariables false
set_option linter.unusedSimpArgs false
open Go.RowKit Go.Deep
/-- Operation p makes the list of one element, operation a appends it. -/
structure AqI (p a : Nat) (W : World) (cb : Nat) (c0 c1 : Value) (e : TypeId) (c : Nat) (v : Value) (k : Nat) (xs : List Value) (cs : Array Value) (ys : List Value) (L : Nat → Bool) (b : Nat → Value) (w' : World) : Prop where
  kept : Kept W w'
  c0 : w'.cell? ⟨cb, 0, none⟩ = some c0
  c1 : w'.cell? ⟨cb, 1, none⟩ = some c1
  cl : cb < w'.heap.size
  ne : some cb ≠ v.ownBlock
  pa : L a = true → L p = true
  pre : L a = false → w'.ownsRow W.heap.size e c v k xs
  lit : L p = true → L a = false → ∃ g, b p = .slice (some ⟨g, 0, none⟩) 1 1 ∧ w'.heap[g]? = some (.cells cs e (0, 0))
  res : L a = true → w'.ownsRow W.heap.size e c (b a) (k + 1) ys
section
variable {p a : Nat} {W : World} {cb : Nat} {c0 c1 : Value} {e : TypeId} {c : Nat} {v : Value} {k : Nat} {xs : List Value} {cs : Array Value} {ys : List Value} {L : Nat → Bool} {b : Nat → Value} {w' w'' : World}
theorem AqI.start (hk : Kept W w') (h0 : w'.cell? ⟨cb, 0, none⟩ = some c0) (h1 : w'.cell? ⟨cb, 1, none⟩ = some c1) (hl : cb < w'.heap.size) (hne : some cb ≠ v.ownBlock) (ho : w'.ownsRow W.heap.size e c v k xs) :
    AqI p a W cb c0 c1 e c v k xs cs ys (fun _ => false) b w' :=
  ⟨hk, h0, h1, hl, hne, fun h => (by cases h), fun _ => ho, fun h => (by cases h), fun h => (by cases h)⟩
theorem cell_on {w w' : World} {a : Addr} {v : Value} (h : w.cell? a = some v) (hl : a.block < w.heap.size) (hk : Kept w w') : w'.cell? a = some v := by
  obtain ⟨x, rfl⟩ := hk
  unfold World.cell? at *
  rw [ext_block _ _ _ hl]
  exact h
theorem AqI.on (h : AqI p a W cb c0 c1 e c v k xs cs ys L b w') (hk : Kept w' w'') : AqI p a W cb c0 c1 e c v k xs cs ys L b w'' :=
  ⟨h.kept.trans hk, cell_on h.c0 h.cl hk, cell_on h.c1 h.cl hk, Nat.lt_of_lt_of_le h.cl (kept_le hk), h.ne, h.pa, fun q => owns_kept (h.pre q) hk, fun q r => by
    obtain ⟨g, e1, e2⟩ := h.lit q r
    exact ⟨g, e1, fr_kept e2 hk⟩, fun q => owns_kept (h.res q) hk⟩
theorem AqI.other (h : AqI p a W cb c0 c1 e c v k xs cs ys L b w') {i : Nat} (hp : i ≠ p) (ha : i ≠ a) : AqI p a W cb c0 c1 e c v k xs cs ys (doneAt L i) b w' := by
  have d1 : doneAt L i p = L p := if_neg (Ne.symm hp)
  have d2 : doneAt L i a = L a := if_neg (Ne.symm ha)
  exact ⟨h.kept, h.c0, h.c1, h.cl, h.ne, by rw [d1, d2]; exact h.pa, by rw [d2]; exact h.pre, by rw [d1, d2]; exact h.lit, by rw [d2]; exact h.res⟩
theorem AqI.opP (hpa : p ≠ a) (h : AqI p a W cb c0 c1 e c v k xs cs ys L b w') (hp : L p = false) : AqI p a W cb c0 c1 e c v k xs cs ys (doneAt L p) (tellAt b p (.slice (some ⟨w'.heap.size, 0, none⟩) 1 1)) (w'.alloc (.cells cs e)) := by
  have ha : L a = false := by
    cases q : L a with
    | false => rfl
    | true => rw [h.pa q] at hp; cases hp
  have h' := h.on ((Kept.refl w').alloc (.cells cs e))
  have d2 : doneAt L p a = L a := if_neg (Ne.symm hpa)
  refine ⟨h'.kept, h'.c0, h'.c1, h'.cl, h'.ne, fun _ => if_pos rfl, by rw [d2]; exact h'.pre, fun _ _ => ⟨_, if_pos rfl, heap_alloc_new w' _⟩, fun q => ?_⟩
  rw [d2, ha] at q; cases q
theorem AqI.opA (hpa : p ≠ a) (h : AqI p a W cb c0 c1 e c v k xs cs ys L b w') (hp : L p = true) (ha : L a = false) {v' : Value} (hown : w''.ownsRow W.heap.size e c v' (k + 1) ys) (hg : w'.grownBy w'' v.ownBlock) :
    AqI p a W cb c0 c1 e c v k xs cs ys (doneAt L a) (tellAt b a v') w'' := by
  have d1 : doneAt L a p = L p := if_neg hpa
  have d2 : doneAt L a a = true := if_pos rfl
  have hk2 := kept_grown h.kept (h.pre ha) (Nat.le_refl _) hg
  have hc0 : w''.cell? ⟨cb, 0, none⟩ = some c0 := by rw [hg.cell_far ⟨cb, 0, none⟩ h.cl h.ne]; exact h.c0
  have hc1 : w''.cell? ⟨cb, 1, none⟩ = some c1 := by rw [hg.cell_far ⟨cb, 1, none⟩ h.cl h.ne]; exact h.c1
  refine ⟨hk2, hc0, hc1, ?_, h.ne, fun _ => by rw [d1]; exact hp, fun q => ?_, fun _ q => ?_, fun _ => ?_⟩
  · have hcl := h.cl
    unfold World.cell? at hc0
    cases hb : w''.heap[cb]? with
    | none => simp [hb] at hc0
    | some o => exact (Array.getElem?_eq_some_iff.1 hb).1
  · rw [d2] at q; cases q
  · rw [d2] at q; cases q
  · rw [show tellAt b a v' a = v' from if_pos rfl]; exact hown
end
/-- A block of two ints is a list of one pair. -/
theorem rowsR_at {w : World} {g : Nat} {p q : Int} (h : w.heap[g]? = some (.cells #[.int .i64 p, .int .i64 q] 32 (0, 0))) (hp : I64 p) (hq : I64 q) : RowsAt w (some ⟨g, 0, none⟩) 1 2 (pr2 p q) := by
  refine rows_of_owns (base := 0) (cap := 1) (e := 32) ⟨rfl, .inr ⟨g, 1, _, rfl, Nat.zero_le _, h, Nat.le_refl _, by unfold maxLen; omega, rfl, rfl⟩⟩ (fun k _ j _ => ?_)
  unfold pr2
  split
  · exact hp
  · exact hq
end Go.Proofs.Ytoejdfpmmgldpaa
namespace Go.Proofs.Ytoejdfpmmgldpaa
set_option linter.unusedVariables false
set_option linter.unusedSimpArgs false
open Go.RowKit Go.Deep
set_option maxRecDepth 100000 in
set_option maxHeartbeats 4000000 in
theorem r6Fastno_any (A : Option Addr) (n cap : Nat) (B : Nat → Option Addr) (m cp : Nat → Nat) (f : Nat → Nat → Int) (RA : Option Addr) (rl rc : Nat) (R : Nat → Nat → Int) (CA : Option Addr) (cl cc : Nat) (C : Nat → Nat → Int) (XA : Option Addr) (xl xc : Nat) (X : Nat → Nat → Int) (w : World)
    (hn : n ≤ 9223372036854775807) (hrl : rl ≤ rc ∧ rc ≤ maxLen) (hcl : cl ≤ cc ∧ cc ≤ maxLen) (hxl : xl ≤ 9223372036854775807) (h : MatAt w A n B m cp f) (hR : RowsAt w RA rl 1 R) (hC : RowsAt w CA cl 1 C) (hX : RowsAt w XA xl 1 X) (hE : mulE n m f rl R cl C xl X ≠ 0) :
    Calls Try.prog 43 #[.slice A n cap, .slice RA rl rc, .slice CA cl cc, .slice XA xl xc] w fun e w' => e = .returned (.tuple #[.slice none 0 0, .int .i64 (mulE n m f rl R cl C xl X)]) ∧ Kept w w' := by
  have HM := Lib.hid h
  have HR := Lib.hid hR
  have HC := Lib.hid hC
  have HX := Lib.hid hX
  clear h hR hC hX
  obtain ⟨e, he⟩ : ∃ e, mulE n m f rl R cl C xl X = e := ⟨_, rfl⟩
  rw [he] at hE ⊢
  have HE := Lib.hid he
  clear he
  have hv2 : (e == 0) = false := by simpa using hE
  have hv3 : decide (e = 0) = false := by simpa using hE
  go_enter Try.func43, Try.ntmps43
  go_wp2_with (go_at_call 83; refine (r6app_any _ _ _ _ _ _ _ _ _ _ _ _ _ _ _ _ _ _ _ _ hn hrl hcl hxl (HM.out.of (by (repeat (first | exact Kept.refl _ | assumption | refine Kept.alloc ?_ _ | refine Kept.ext ?_ _ | refine Kept.drew ?_ | refine Kept.drewN ?_ _)))) (HR.out.of (by (repeat (first | exact Kept.refl _ | assumption | refine Kept.alloc ?_ _ | refine Kept.ext ?_ _ | refine Kept.drew ?_ | refine Kept.drewN ?_ _)))) (HC.out.of (by (repeat (first | exact Kept.refl _ | assumption | refine Kept.alloc ?_ _ | refine Kept.ext ?_ _ | refine Kept.drew ?_ | refine Kept.drewN ?_ _)))) (HX.out.of (by (repeat (first | exact Kept.refl _ | assumption | refine Kept.alloc ?_ _ | refine Kept.ext ?_ _ | refine Kept.drew ?_ | refine Kept.drewN ?_ _))))).mono ?_; rintro e w1 ⟨rfl, x, rfl⟩; rw [HE.out, if_neg hE])
  refine bodyPost_ret (by simp only [results, Try.results43]; go_simp; rfl) rfl ?_
  exact ⟨rfl, by (repeat (first | exact Kept.refl _ | assumption | refine Kept.alloc ?_ _ | refine Kept.ext ?_ _ | refine Kept.drew ?_ | refine Kept.drewN ?_ _))⟩
set_option maxRecDepth 100000 in
set_option maxHeartbeats 16000000 in
theorem r6Fastok_any (A : Option Addr) (n cap : Nat) (B : Nat → Option Addr) (m cp : Nat → Nat) (f : Nat → Nat → Int) (RA : Option Addr) (rl rc : Nat) (R : Nat → Nat → Int) (CA : Option Addr) (cl cc : Nat) (C : Nat → Nat → Int) (XA : Option Addr) (xl xc : Nat) (X : Nat → Nat → Int) (w : World)
    (hn : n ≤ 9223372036854775807) (hrl : rl ≤ rc ∧ rc ≤ maxLen) (hcl : cl ≤ cc ∧ cc ≤ maxLen) (hxl : xl ≤ 9223372036854775807) (h : MatAt w A n B m cp f) (hR : RowsAt w RA rl 1 R) (hC : RowsAt w CA cl 1 C) (hX : RowsAt w XA xl 1 X) (hE : mulE n m f rl R cl C xl X = 0) :
    Calls Try.prog 43 #[.slice A n cap, .slice RA rl rc, .slice CA cl cc, .slice XA xl xc] w fun e w' => ∃ v, e = .returned (.tuple #[v, .int .i64 0]) ∧ Kept w w' ∧ w'.ownsRow w.heap.size 32 2 v n (rowC 2 (fstF m f rl R C X) n) := by
  have HM := Lib.hid h
  have HR := Lib.hid hR
  have HC := Lib.hid hC
  have HX := Lib.hid hX
  clear h hR hC hX
  have HE := Lib.hid hE
  obtain ⟨hc, hf, ho⟩ := mulE_0 hE
  obtain ⟨-, hd⟩ := opnE_0 ho
  obtain ⟨hv, hs, -, rfl⟩ := choE_0 hc
  obtain ⟨-, hk⟩ := Mok.of hc
  obtain ⟨hn1, hm1, hmm, hff⟩ := valE_0 hv
  obtain ⟨rfl, hxb⟩ := facB_at hf
  have HD := Lib.hid hd
  have hdb := hk.bd
  have hden := fun i (hi : i < n) => den_bd (X := X) hk hs hi hd
  obtain ⟨dd, hdd⟩ : ∃ x, D rl (subF f R C) = x := ⟨_, rfl⟩
  rw [hdd] at hd hdb
  have HV := Lib.hid hv
  have HS := Lib.hid hs
  have HK := Lib.hid hk
  have HF := Lib.hid hf
  have HMM := Lib.hid hmm
  have HDD := Lib.hid hdd
  have HDEN := Lib.hid hden
  clear hE hc hf ho hv hs hk hmm hff hxb hdd hden
  obtain ⟨n1, n6⟩ := hn1
  obtain ⟨m1, m6⟩ := hm1
  obtain ⟨ti, hti, hte⟩ := Option.map_eq_some_iff.1 info_R
  simp only [Prod.mk.injEq] at hte
  have HT := Lib.hid hti
  have HTE := Lib.hid hte
  clear hti hte
  go_enter Try.func43, Try.ntmps43
  go_wp2_with (go_at_call 83; refine (r6app_any _ _ _ _ _ _ _ _ _ _ _ _ _ _ _ _ _ _ _ _ hn hrl hcl hxl (HM.out.of (by (repeat (first | exact Kept.refl _ | assumption | refine Kept.alloc ?_ _ | refine Kept.ext ?_ _ | refine Kept.drew ?_ | refine Kept.drewN ?_ _)))) (HR.out.of (by (repeat (first | exact Kept.refl _ | assumption | refine Kept.alloc ?_ _ | refine Kept.ext ?_ _ | refine Kept.drew ?_ | refine Kept.drewN ?_ _)))) (HC.out.of (by (repeat (first | exact Kept.refl _ | assumption | refine Kept.alloc ?_ _ | refine Kept.ext ?_ _ | refine Kept.drew ?_ | refine Kept.drewN ?_ _)))) (HX.out.of (by (repeat (first | exact Kept.refl _ | assumption | refine Kept.alloc ?_ _ | refine Kept.ext ?_ _ | refine Kept.drew ?_ | refine Kept.drewN ?_ _))))).mono ?_; rintro e w1 ⟨rfl, x, rfl⟩; rw [HE.out, if_pos rfl, HDD.out])
  refine wp_gen (fun W0 hW0 => ?_)
  have hk0 : Kept w W0 := by rw [hW0]; (repeat (first | exact Kept.refl _ | assumption | refine Kept.alloc ?_ _ | refine Kept.ext ?_ _ | refine Kept.drew ?_ | refine Kept.drewN ?_ _))
  have hbord : ∀ w', Kept W0 w' → ∀ k q : Nat, k < n → q < m 0 → Calls Try.prog 60 #[.slice A n cap, .slice RA rl rc, .slice CA rl cc, .int .i64 k, .int .i64 q] w' fun e w'' => e = .returned (.int .i64 (leftV f rl R C k q)) ∧ Kept w' w'' := fun w' hkw k q hk hq =>
    r6bord_any A n cap B m cp f RA rl rc R CA cc C k q w' HK.out HS.out (by omega) (by omega) (HM.out.of (hk0.trans hkw)) (HR.out.of (hk0.trans hkw)) (HC.out.of (hk0.trans hkw))
  have htimes : ∀ w', Kept W0 w' → ∀ k : Nat, k < n → Calls Try.prog 81 #[.slice A n cap, .slice XA (m 0) xc, .int .i64 k] w' fun e w'' => e = .returned (.int .i64 (pV f X (m 0) k)) ∧ Kept w' w'' := fun w' hkw k hk =>
    r6times_any A n cap B m cp f XA (m 0) xc X k w' HV.out HF.out hk (HM.out.of (hk0.trans hkw)) (HX.out.of (hk0.trans hkw))
  have HBORD := Lib.hid hbord
  have HTIMES := Lib.hid htimes
  have HX0 := Lib.hid (HX.out.of hk0)
  have HK0 := Lib.hid hk0
  clear hbord htimes hW0 hk0
  go_loopw [12, 13] (fun o i wr => ∃ k : Nat, k ≤ n ∧ i = .int .i64 k ∧ Kept W0 wr ∧ wr.ownsRow W0.heap.size 32 2 o k (rowC 2 (fstF m f rl R C X) k)) (fun _ i _ => n - (intOf i).toNat)
  case atStart => exact ⟨0, by omega, rfl, Kept.refl _, World.ownsRow_nil _ _ _ _⟩
  case round =>
    obtain ⟨k, hk, rfl, hkw, hO⟩ := hrel
    by_cases hlt : k < n
    · obtain ⟨y, rfl⟩ := hkw
      obtain ⟨OA, oc, rfl⟩ := own_slice2 hO
      have HO := Lib.hid hO
      clear hO
      go_wp2
      go_loopw [14, 15] (fun of j w2 => ∃ q : Nat, q ≤ m 0 ∧ j = .int .i64 q ∧ of = .int .i64 (sumZ (oTerm f rl R C X k) q) ∧ ∃ y2, w2 = ext (ext W0 y) y2) (fun _ j _ => m 0 - (intOf j).toNat)
      case atStart => exact ⟨0, by omega, rfl, rfl, show Kept _ _ by (repeat (first | exact Kept.refl _ | assumption | refine Kept.alloc ?_ _ | refine Kept.ext ?_ _ | refine Kept.drew ?_ | refine Kept.drewN ?_ _))⟩
      case round =>
        obtain ⟨q, hq, rfl, rfl, y2, rfl⟩ := hrel
        by_cases hlq : q < m 0
        · obtain ⟨xb, xo, rfl, hxb, c3, -⟩ := rows1 (k := q) HX0.out (by omega)
          have LX : Lower xb W0.heap.size := ⟨hxb⟩
          have b3 := oTerm_bd HK.out HS.out HF.out hlt hlq
          have b4 := oSum_bd HK.out HS.out HF.out hlt (q := q) (by omega)
          obtain ⟨T, hT⟩ : ∃ x, sumZ (oTerm f rl R C X k) q = x := ⟨_, rfl⟩
          obtain ⟨lv, hlv⟩ : ∃ x, leftV f rl R C k q = x := ⟨_, rfl⟩
          have e3 : oTerm f rl R C X k q = lv * X q 0 := by rw [← hlv]; rfl
          rw [e3] at b3
          obtain ⟨uu, huu⟩ : ∃ x, lv * X q 0 = x := ⟨_, rfl⟩
          have hT2 : sumZ (oTerm f rl R C X k) (q + 1) = T + uu := by rw [← hT, ← huu, ← e3]; rfl
          rw [hT] at b4 ⊢
          rw [huu] at b3
          have HT2 := Lib.hid hT2
          have hll := fun w' hkw => HBORD.out w' hkw k q hlt hlq
          rw [hlv] at hll
          have HLL := Lib.hid hll
          clear hT hT2 hlv e3 hll
          go_wp2
          ((first | (with_reducible refine wp_region_tail2 13 (by kernel_rfl) (by kernel_rfl) ?_) | refine wp_region_tail 13 (by kernel_rfl) (by kernel_rfl) ?_); simp only [List.take_succ_cons, List.take_zero, List.drop_succ_cons, List.drop_zero]; (repeat (go_big_quiet_step (first | (go_at_call 60; exact Calls.kept_of (HLL.out _ (by (repeat (first | exact Kept.refl _ | assumption | refine Kept.alloc ?_ _ | refine Kept.ext ?_ _ | refine Kept.drew ?_ | refine Kept.drewN ?_ _)))))))); refine wpQuiet_nil ?_; intro x4)
          go_wp2
          go_roundw
          case rel => exact ⟨q + 1, by omega, by go_num, by rw [HT2.out], show Kept _ _ by (repeat (first | exact Kept.refl _ | assumption | refine Kept.alloc ?_ _ | refine Kept.ext ?_ _ | refine Kept.drew ?_ | refine Kept.drewN ?_ _))⟩
          case measure => simp [intOf]; omega
        · obtain rfl : q = m 0 := by omega
          have b2 := pSum_bd HV.out HF.out hlt (q := m 0) (by omega)
          have b4 := oSum_bd HK.out HS.out HF.out hlt (q := m 0) (by omega)
          have b5 := HDEN.out k hlt
          have b6 := frN_bd b4 HD.out
          rw [show sumZ (pTerm f X k) (m 0) = pV f X (m 0) k from rfl] at b2
          rw [show sumZ (oTerm f rl R C X k) (m 0) = oV f rl R C X (m 0) k from rfl] at b4 b6 ⊢
          have hN : fstN m f rl R C X k = pV f X (m 0) k * frD (oV f rl R C X (m 0) k) (D rl (subF f R C)) - frN (oV f rl R C X (m 0) k) (D rl (subF f R C)) := rfl
          have hDn : fstD m f rl R C X k = frD (oV f rl R C X (m 0) k) (D rl (subF f R C)) := rfl
          have hoff := fr_off (p := pV f X (m 0) k) (n := oV f rl R C X (m 0) k) HD.out
          have htm := fun w' hkw => HTIMES.out w' hkw k hlt
          rw [HDD.out] at b5 b6 hN hDn hoff
          obtain ⟨pv, hpv⟩ : ∃ x, pV f X (m 0) k = x := ⟨_, rfl⟩
          obtain ⟨ov, hov⟩ : ∃ x, oV f rl R C X (m 0) k = x := ⟨_, rfl⟩
          rw [hpv] at b2 hN hoff htm
          rw [hov] at b4 b5 b6 hN hDn hoff ⊢
          have hfr : ∀ w', Calls Try.prog 59 #[.int .i64 ov, .int .i64 dd] w' fun e w'' => e = .returned (.agg #[.int .i64 (frN ov dd), .int .i64 (frD ov dd)]) ∧ Kept w' w'' := fun w' => ratio_any ov dd w' (by omega) (by omega)
          obtain ⟨fn, hfn⟩ : ∃ x, frN ov dd = x := ⟨_, rfl⟩
          obtain ⟨fd, hfd⟩ : ∃ x, frD ov dd = x := ⟨_, rfl⟩
          rw [hfn] at b6 hN hfr hoff
          rw [hfd] at b5 hN hDn hfr hoff
          have b7 := mul_abs (c := 600000) (d := 1200000000000) (a := pv) (b := fd) (by omega) (by omega) (by decide) (by decide)
          have hrw := rowC_pr2 (F := fstF m f rl R C X) (k := k) (p := pv * fd - fn) (q := fd) (by rw [← hN]; rfl) (by rw [← hDn]; rfl)
          obtain ⟨pf, hpf⟩ : ∃ x, pv * fd = x := ⟨_, rfl⟩
          rw [hpf] at b7 hrw hoff
          have hfr2 : ∀ w', Calls Try.prog 59 #[.int .i64 (pf - fn), .int .i64 fd] w' fun e w'' => e = .returned (.agg #[.int .i64 (pf - fn), .int .i64 fd]) ∧ Kept w' w'' := fun w' => by
            have := ratio2_any (pf - fn) fd w' (by omega) (by omega)
            rwa [hoff.1, hoff.2] at this
          have HRW := Lib.hid hrw
          have HFR := Lib.hid hfr
          have HFR2 := Lib.hid hfr2
          have HTM := Lib.hid htm
          clear hN hDn hpv hov hfn hfd hfr hrw hoff hfr2 htm
          go_wp2_with (first
            | (go_at_call 59; refine (HFR.out _).mono ?_; rintro e w1 ⟨rfl, x5, rfl⟩))
          refine wp_gen (fun WB hWB => ?_)
          obtain ⟨cb, hcb⟩ : ∃ cb, adv (adv (adv W0.heap.size y.obs.size) y2.obs.size) x5.obs.size = cb := ⟨_, rfl⟩
          have f0 : WB.cell? ⟨cb, 0, none⟩ = some (.int .i64 fn) := by rw [hWB, ← hcb]; go_simp
          have f1 : WB.cell? ⟨cb, 1, none⟩ = some (.int .i64 fd) := by rw [hWB, ← hcb]; go_simp
          have fl : cb < WB.heap.size := by rw [hWB, ← hcb]; exact low
          have hkB : Kept W0 WB := by rw [hWB]; (repeat (first | exact Kept.refl _ | assumption | refine Kept.alloc ?_ _ | refine Kept.ext ?_ _ | refine Kept.drew ?_ | refine Kept.drewN ?_ _))
          have hkO : Kept (ext W0 y) WB := by rw [hWB]; (repeat (first | exact Kept.refl _ | assumption | refine Kept.alloc ?_ _ | refine Kept.ext ?_ _ | refine Kept.drew ?_ | refine Kept.drewN ?_ _))
          have hne : some cb ≠ (Value.slice OA k oc).ownBlock := fun e => by
            have h1 := own_lt HO.out e.symm
            have h2 : (ext W0 y).heap.size ≤ cb := by
              rw [← hcb, ext_size]
              exact Nat.le_trans (adv_le _ _) (adv_le _ _)
            omega
          have hOB := owns_kept HO.out hkO
          have FO := Lib.hid hOB
          have FK := Lib.hid hkB
          have FN := Lib.hid hne
          rw [hcb]
          clear hWB hcb hOB hkB hkO hne
          refine wp_region_tellC (C := fun W' => Kept W0 W' ∧ W'.cell? ⟨cb, 0, none⟩ = some (.int .i64 fn) ∧ W'.cell? ⟨cb, 1, none⟩ = some (.int .i64 fd) ∧ cb < W'.heap.size) [.q, .q, .q, .q, .q, .q, .q, .q, .q, .q, .q, .q, .q, .q, .s, .s, .q] (AqI 14 15 W0 cb (.int .i64 fn) (.int .i64 fd) 32 2 (.slice OA k oc) k (rowC 2 (fstF m f rl R C X) k) #[.int .i64 (pf - fn), .int .i64 fd] (rowC 2 (fstF m f rl R C X) (k + 1))) (by kernel_rfl) (by kernel_rfl) (fun b => by kernel_rfl) ?_ ?_ ?_ ?_
          · intro b
            exact (AqI.start FK.out f0 f1 fl FN.out FO.out).on (by (repeat (first | exact Kept.refl _ | assumption | refine Kept.alloc ?_ _ | refine Kept.ext ?_ _ | refine Kept.drew ?_ | refine Kept.drewN ?_ _)))
          · intro i L b w' w'' hs hI hk
            exact (hI.on hk).other (by rintro rfl; cases hs) (by rintro rfl; cases hs)
          · exact fun _ _ _ h => ⟨h.kept, h.c0, h.c1, h.cl⟩
          apply Exists.intro
          refine ⟨?_, ?_, ?_, ?_⟩
          · rintro bv W ⟨hkw, d0, d1, d2⟩
            have LW : Lower cb W.heap.size := ⟨d2⟩
            simp only [swapL, Nat.reduceAdd]
            repeat (go_big_quiet_step (first | (go_at_call 81; exact Calls.kept_of (HTM.out _ (by (repeat (first | exact Kept.refl _ | assumption | refine Kept.alloc ?_ _ | refine Kept.ext ?_ _ | refine Kept.drew ?_ | refine Kept.drewN ?_ _))))) | (go_at_call 59; exact Calls.kept_of (HFR2.out _))))
            refine wpQuiet_nil ?_
            rfl
          · simp only [EachS, and_true]
            refine ⟨?_, ?_⟩
            · intro S b w' hd hL hI
              have h14 := hI.opP (by decide) hL
              go_simp
              exact ⟨rfl, h14⟩
            · intro S b w' hd hL hI
              have d14 : S 14 = true := hd { on := 14, ground := .data } (by simp) rfl
              obtain ⟨g, e1, e2⟩ := hI.lit d14 hL
              refine tells_append (.tmp 56) (.tmp 70) 61 rfl W0.heap.size 32 ti _ 2 16 Try.underlying61 HT.out HTE.out.1 HTE.out.2.1 HTE.out.2.2 rfl (by omega) (kept_le hI.kept) (.slice OA k oc) k _ rfl (hI.pre hL) (some ⟨g, 0, none⟩) 1 1 _ e1 (rowsR_at e2 (by unfold I64; omega) (by unfold I64; omega)) (by unfold maxLen; omega) (by omega) ?_
              intro v' w'' k1 k2 k3
              rw [HRW.out] at k1
              exact ⟨rfl, hI.opA (by decide) d14 hL k1 k2⟩
          · intro b1 b2 d hd
            simp [callSlots, dullOp] at hd
            rcases hd with rfl | rfl <;> rfl
          · intro L b w' hL hI
            have hown := hI.res (hL 15 (by decide))
            have hK := hI.kept
            obtain ⟨A2, c2, hb2⟩ := own_slice2 hown
            rw [hb2] at hown
            go_simp
            go_wp2
            go_roundw
            case rel => exact ⟨k + 1, by omega, by go_num, hK, hown⟩
            case measure => simp [intOf]; omega
    · obtain rfl : k = n := by omega
      have HO := Lib.hid hO
      have HKW := Lib.hid hkw
      clear hO hkw
      go_wp2
      refine bodyPost_ret (by simp only [results, Try.results43]; go_simp; rfl) rfl ?_
      exact ⟨_, rfl, HK0.out.trans HKW.out, own_down HO.out (kept_le HK0.out)⟩
end Go.Proofs.Ytoejdfpmmgldpaa

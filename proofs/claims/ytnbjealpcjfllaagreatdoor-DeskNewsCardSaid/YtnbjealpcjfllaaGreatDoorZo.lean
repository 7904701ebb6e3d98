/- Contract: a shape of a desk, of the program: the lock taken, a copy made, the lock given back. Conditions: the desk lies in memory, its lock is free, the shape is there. The square root by bits, and twins of the functions of capacities that take it as an argument: for evaluating at a closed input. No conditions. The capacity of the smallest octahedron with even charges at depth 0. No conditions. Contract: the sanity check of the statements of layer 9. Conditions: the library's variables hold what start-up lays. What a row's listed variables give a walk: the library's tables, errors, the type of errors as start-up lays them. The wrap that keeps the condition and the world's shape. No conditions but those of each theorem. -/
import Derived.Test.YtnbjealpcjfllaaGreatDoorZm
import Derived.Test.YtnbjealpcjfllaaGreatDoorZl
import Derived.Test.YtnbjealpcjfllaaGreatDoorZe
import Derived.Test.YtnbjealpcjfllaaGreatDoorZa
import Derived.KernelRfl
import Derived.Test.YtnbjealpcjfllaaGreatDoorZb
import Derived.Test.YtnbjealpcjfllaaGreatDoorRows
import Derived.ProofKit
import Derived.LaidMore
import Derived.LaidHandle
import Derived.OpenShut
import Derived.Stop.Joined
import Derived.Stop.LaidErr
import Derived.Lib.LaidTab
import Derived.Shelf.Vars
import Derived.Lay
namespace Go.Proofs.YtnbjealpcjfllaaGreatDoor
set_option linter.unusedVariables false
set_option linter.unusedSimpArgs false
open Go.ChangeShapes Go.WideShapes Go.ChangeAt Go.RowKit Go.Deep Go.MuLone
/-- A shape as a caller reads it. -/
def ShpAt (w : World) (v : Value) (s : Shp) : Prop :=
  ∃ A1 c1 A2 c2 A3 c3 C, v = .agg #[.string ⟨s.name.toArray⟩, .slice A1 s.n c1, .slice A2 s.m c2, .int .i64 s.lo, .int .i64 s.hi, .slice A3 s.prs.length c3] ∧ RowsAt w A1 s.n 3 s.P ∧ RowsAt w A2 s.m 3 s.F ∧ CtsAt w A3 C ∧ C.length = s.prs.length ∧ ∀ k (h : k < C.length) (h' : k < s.prs.length), (C[k]).n = (s.prs[k]).n ∧ (C[k]).d = (s.prs[k]).d ∧ (C[k]).lo = (s.prs[k]).lo ∧ (C[k]).hi = (s.prs[k]).hi ∧ RowsAt w (C[k]).A (s.prs[k]).n 1 (s.prs[k]).f
theorem ShpAt.on {w w' : World} {v : Value} {s : Shp} (h : ShpAt w v s) (hk : Kept w w') : ShpAt w' v s := by
  obtain ⟨A1, c1, A2, c2, A3, c3, C, e, h1, h2, h3, h4, h5⟩ := h
  exact ⟨A1, c1, A2, c2, A3, c3, C, e, h1.of hk, h2.of hk, h3.of hk, h4, fun k a b => by
    obtain ⟨o1, o2, o3, o4, o5⟩ := h5 k a b
    exact ⟨o1, o2, o3, o4, o5.of hk⟩⟩
/-- A copy of a shape of a desk. -/
theorem dcopied_shp {w : World} {lo : Nat} {O : Nat → Prop} {v : ShV} {s : Shp} (h : ShOk w lo O v s) :
    Calls Tryz.prog 36 #[.agg #[.string ⟨v.name.toArray⟩, .slice v.pA v.pn v.pc, .slice v.fA v.fn v.fc, .int .i64 v.lo, .int .i64 v.hi, .slice v.qA v.qn v.qc]] w fun r w' => ∃ u, r = .returned u ∧ Kept w w' ∧ ShpAt w' u s := by
  obtain ⟨C, hC⟩ := h.q
  have hvm := validE_ok h.val
  have hqn : v.qn = C.length := by
    obtain ⟨A', c', e⟩ := own_slice2 hC.own
    unfold ShV.qv at e
    simp only [Value.slice.injEq] at e
    exact e.2.1
  have hfew := h.few
  have hcl := hC.len
  have how := hC.own
  unfold ShV.qv at how
  rw [hqn] at how
  have key := dcopied_any v.name v.pA v.fA v.qA s.n v.pc s.m v.fc v.qc s.P s.F v.lo v.hi C (fun k => if h : k < s.prs.length then (s.prs[k]).f else fun _ _ => 0) w (by omega) h.p h.f (owns_cts how) (fun k hk => by
    have hk2 : k < s.prs.length := hcl ▸ hk
    have := hC.each k hk hk2
    rw [dif_pos hk2, this.n]
    exact ⟨this.sm, this.f⟩)
  rw [h.n, h.m, hqn]
  refine key.mono fun r w' ⟨A1, c1, A2, c2, A3, c3, C', e, k1, k2, k3, k4, k5, k6⟩ => ?_
  rw [h.name, h.slo, h.shi, hcl] at e
  refine ⟨_, e, k1, A1, c1, A2, c2, A3, c3, C', rfl, k2, k3, k4, by rw [k5, hcl], fun k a b => ?_⟩
  have hk3 : k < C.length := k5 ▸ a
  have h7 := hC.each k hk3 b
  obtain ⟨o1, o2, o3, o4, o5⟩ := k6 k a hk3
  rw [dif_pos b, h7.n] at o5
  exact ⟨o1.trans h7.n, o2.trans h7.d, o3.trans h7.lo, o4.trans h7.hi, o5⟩
set_option maxRecDepth 100000 in
set_option maxHeartbeats 8000000 in
theorem dShape_any (nm : List UInt8) (lo db : Nat) (D : Dsk) (sv ov : Value) (V : List ShV) (w : World) (h : DeskAt w lo 0 db D sv ov V) (i : Nat) (s : Shp) (hi : idxS D.shapes nm 0 = (i : Int)) (hs : D.shapes[i]? = some s) :
    Calls Tryz.prog 14 #[.pointer (some ⟨db, 0, none⟩), .string ⟨nm.toArray⟩] w fun r w' => ∃ A1 c1 A2 c2 A3 c3, r = .returned (.tuple #[.agg #[.string ⟨s.name.toArray⟩, .slice A1 s.n c1, .slice A2 s.m c2, .int .i64 s.lo, .int .i64 s.hi, .slice A3 s.prs.length c3], .int .i64 0]) ∧ Kept w w' := by
  obtain ⟨SA, scap, rfl⟩ := own_slice2 h.sh
  have hX := h.on (w' := w.alloc (.cells #[.string ⟨#[]⟩, .slice none 0 0, .slice none 0 0, .int .i64 0, .int .i64 0, .slice none 0 0] 47)) (by (repeat (first | exact Kept.refl _ | assumption | refine Kept.alloc ?_ _ | refine Kept.ext ?_ _ | refine Kept.drew ?_ | refine Kept.drewN ?_ _)))
  have hL := (h.lock 1).on (w' := (w.setCell ⟨db, 0, none⟩ (.int .i32 1)).alloc (.cells #[.string ⟨#[]⟩, .slice none 0 0, .slice none 0 0, .int .i64 0, .int .i64 0, .slice none 0 0] 47)) (by (repeat (first | exact Kept.refl _ | assumption | refine Kept.alloc ?_ _ | refine Kept.ext ?_ _ | refine Kept.drew ?_ | refine Kept.drewN ?_ _)))
  have hiD : i < D.shapes.length := (List.getElem?_eq_some_iff.1 hs).1
  have hiV : i < V.length := by rw [h.len]; exact hiD
  have hsi : D.shapes[i] = s := (List.getElem?_eq_some_iff.1 hs).2
  have hsok := hL.each i hiV hiD
  rw [hsi] at hsok
  have hsh := owns_shs hL.sh
  have hds : ((w.setCell ⟨db, 0, none⟩ (.int .i32 1)).alloc (.cells #[.string ⟨#[]⟩, .slice none 0 0, .slice none 0 0, .int .i64 0, .int .i64 0, .slice none 0 0] 47)).cell? ⟨db, 2, none⟩ = some (.slice SA V.length scap) := desk_cell hL.hd rfl
  have q1 : _ := dfind_any db SA V scap nm _ (by have := h.few; omega) hds hL.ltd hsh
  rw [h.idx nm, hi] at q1
  obtain ⟨v, hv⟩ : ∃ v, V[i] = v := ⟨_, rfl⟩
  rw [hv] at hsok
  have q2 : ∀ w', Kept ((w.setCell ⟨db, 0, none⟩ (.int .i32 1)).alloc (.cells #[.string ⟨#[]⟩, .slice none 0 0, .slice none 0 0, .int .i64 0, .int .i64 0, .slice none 0 0] 47)) w' → _ := fun w' hk => dcopied_shp (hsok.kb (KB.of_kept hk (S := fun _ => False)) (fun _ _ q => q.elim) (fun _ _ q => q) (fun _ _ q => q))
  obtain ⟨sb, so, eS, hsb, f0, f1, f2, f3, f4, f5⟩ := (owns_shs h.sh).at hiV
  cases eS
  have hsd : sb ≠ db := (h.ne_sv rfl).1
  have hds2 : db ≠ sb := fun e => hsd e.symm
  have LS : Lower sb w.heap.size := ⟨hsb⟩
  rw [hv] at f0 f1 f2 f3 f4 f5
  have h0 : (w.alloc (.cells #[.string ⟨#[]⟩, .slice none 0 0, .slice none 0 0, .int .i64 0, .int .i64 0, .slice none 0 0] 47)).cell? ⟨db, 0, none⟩ = some (.int .i32 0) := desk_cell hX.hd rfl
  have z0 : (w.alloc (.cells #[.string ⟨#[]⟩, .slice none 0 0, .slice none 0 0, .int .i64 0, .int .i64 0, .slice none 0 0] 47)).frozen? ⟨db, 0, none⟩ = false := desk_free hX.hd
  have LD : Lower db w.heap.size := ⟨h.ltd⟩
  have Q1 := Lib.hid q1
  have Q2 := Lib.hid q2
  have H := Lib.hid h
  have HX := Lib.hid hX
  have HL := Lib.hid hL
  have i0 : (0 : Int) ≤ i := by omega
  have i1 : (i : Int) < V.length := by omega
  clear q1 q2 hi hs hsi hsok hX hL hsh h
  go_enter_defers Tryz.func14, Tryz.ntmps14
  go_wp2_with (first | (go_at_call 30; refine (lock_free muLib ⟨db, 0, none⟩ _ h0 z0).mono ?_; rintro e w' ⟨rfl, rfl⟩) | (go_at_call 35; refine Q1.out.mono ?_; rintro e w1 ⟨rfl, y1, rfl⟩) | (go_at_call 36; (with_reducible refine (Q2.out _ (by (repeat (first | exact Kept.refl _ | assumption | refine Kept.alloc ?_ _ | refine Kept.ext ?_ _ | refine Kept.drew ?_ | refine Kept.drewN ?_ _)))).mono ?_); rintro e w2 ⟨u, rfl, ⟨y2, rfl⟩, hu⟩; have HU := Lib.hid hu; obtain ⟨A1, c1, A2, c2, A3, c3, C', rfl, hrest⟩ := hu; clear hrest))
  have g0 : (ext (ext ((w.setCell ⟨db, 0, none⟩ (.int .i32 1)).alloc (.cells #[.string ⟨s.name.toArray⟩, .slice A1 s.n c1, .slice A2 s.m c2, .int .i64 s.lo, .int .i64 s.hi, .slice A3 s.prs.length c3] 47)) y1) y2).cell? ⟨db, 0, none⟩ = some (.int .i32 1) := desk_cell (((H.out.lock 1).on (by (repeat (first | exact Kept.refl _ | assumption | refine Kept.alloc ?_ _ | refine Kept.ext ?_ _ | refine Kept.drew ?_ | refine Kept.drewN ?_ _)))).hd) rfl
  have g1 : (ext (ext ((w.setCell ⟨db, 0, none⟩ (.int .i32 1)).alloc (.cells #[.string ⟨s.name.toArray⟩, .slice A1 s.n c1, .slice A2 s.m c2, .int .i64 s.lo, .int .i64 s.hi, .slice A3 s.prs.length c3] 47)) y1) y2).frozen? ⟨db, 0, none⟩ = false := desk_free (((H.out.lock 1).on (by (repeat (first | exact Kept.refl _ | assumption | refine Kept.alloc ?_ _ | refine Kept.ext ?_ _ | refine Kept.drew ?_ | refine Kept.drewN ?_ _)))).hd)
  refine leaves_cons (f := 31) (args := #[.pointer (some ⟨db, 0, none⟩)]) (by simp) (by simp [go_sem]) ?_
  refine (unlock_deferred muLib ⟨db, 0, none⟩ .returning _ g0 g1).mono ?_
  rintro e u' w'' ⟨rfl, rfl, rfl⟩
  refine ⟨_, ?_, A1, c1, A2, c2, A3, c3, rfl, lock_off H.out.hd (by (repeat (first | exact Kept.refl _ | assumption | refine Kept.alloc ?_ _ | refine Kept.ext ?_ _ | refine Kept.drew ?_ | refine Kept.drewN ?_ _)))⟩
  have hz : w.heap.size ≠ db := by have := H.out.ltd; omega
  have hz2 : db ≠ w.heap.size := fun e => hz e.symm
  simp only [results, Tryz.results14]
  go_simp
  try rfl
end Go.Proofs.YtnbjealpcjfllaaGreatDoor

namespace Go.Proofs.YtnbjealpcjfllaaGreatDoor
set_option linter.unusedVariables false
set_option linter.unusedSimpArgs false
def isqF : Nat → Nat → Nat → Nat
  | 0, _, k => k
  | b + 1, n, k => if (k + 2 ^ b) * (k + 2 ^ b) ≤ n then isqF b n (k + 2 ^ b) else isqF b n k
theorem isqF_spec : ∀ (b n k : Nat), k * k ≤ n → n < (k + 2 ^ b) * (k + 2 ^ b) → isqF b n k * isqF b n k ≤ n ∧ n < (isqF b n k + 1) * (isqF b n k + 1)
  | 0, n, k, h1, h2 => ⟨h1, h2⟩
  | b + 1, n, k, h1, h2 => by
    unfold isqF
    split
    · rename_i h
      refine isqF_spec b n _ h ?_
      have e : k + 2 ^ b + 2 ^ b = k + 2 ^ (b + 1) := by rw [Nat.pow_succ]; omega
      rw [e]
      exact h2
    · rename_i h
      exact isqF_spec b n k h1 (by omega)
def isqN (n : Nat) : Nat := isqF (n.log2 / 2 + 1) n 0
theorem isqN_spec (n : Nat) : isqN n * isqN n ≤ n ∧ n < (isqN n + 1) * (isqN n + 1) := by
  refine isqF_spec _ n 0 (by omega) ?_
  have h : n < 2 ^ (n.log2 + 1) := Nat.lt_log2_self
  have e : (0 + 2 ^ (n.log2 / 2 + 1)) * (0 + 2 ^ (n.log2 / 2 + 1)) = 2 ^ (2 * (n.log2 / 2 + 1)) := by
    rw [Nat.zero_add, ← Nat.pow_add]
    congr 1
    omega
  rw [e]
  exact Nat.lt_of_lt_of_le h (Nat.pow_le_pow_right (by omega) (by omega))
def isqS (n : Int) : Int := isqN n.toNat
theorem sqrt_isq : sqrtS = isqS := by
  funext n
  by_cases h : 0 ≤ n
  · obtain ⟨h1, h2⟩ := isqN_spec n.toNat
    have e : ((n.toNat : Nat) : Int) = n := Int.toNat_of_nonneg h
    refine (sqrtS_unique (show 0 ≤ isqS n by unfold isqS; omega) ?_ ?_).symm
    · unfold isqS
      rw [← Int.natCast_mul]
      omega
    · unfold isqS
      have : ((isqN n.toNat : Int) + 1) * ((isqN n.toNat : Int) + 1) = (((isqN n.toNat + 1) * (isqN n.toNat + 1) : Nat) : Int) := by simp
      rw [this]
      omega
  · have e : n.toNat = 0 := by omega
    unfold sqrtS isqS
    rw [e]
    rfl
def invSG (sq : Int → Int) (t n : Int) : R := if sq (t / n) * sq (t / n) * n = t then resultS (sq (t / n)) (sq (t / n)) else resultS (sq (t / n)) (sq (t / n) + 1)
def inverseSG (sq : Int → Int) (n s : Int) : R := if (1 ≤ n ∧ n ≤ 1099511627776) ∧ (1 ≤ s ∧ s ≤ 8) then invSG sq (s * s * 1099511627776) n else ⟨0, 0, 1⟩
def lenSG (sq : Int → Int) (n : Int) : R := if 0 ≤ n ∧ n ≤ 1099511627776 then (if sq (n * 1099511627776) * sq (n * 1099511627776) = n * 1099511627776 then resultS (sq (n * 1099511627776)) (sq (n * 1099511627776)) else resultS (sq (n * 1099511627776)) (sq (n * 1099511627776) + 1)) else ⟨0, 0, 1⟩
def rimNG (sq : Int → Int) (t : Int) (d : Nat) : Int := if sq (1099511627776 * 3217 * 4 ^ d / (128 * sq t)) * sq (1099511627776 * 3217 * 4 ^ d / (128 * sq t)) * (128 * sq t) < 1099511627776 * 3217 * 4 ^ d then sq (1099511627776 * 3217 * 4 ^ d / (128 * sq t)) + 1 else sq (1099511627776 * 3217 * 4 ^ d / (128 * sq t))
def lowPG (sq : Int → Int) (d : Nat) (q x : Pn) : Int := (inverseSG sq (farI x.at q.at 3 3) (2 ^ d)).lo
def higPG (sq : Int → Int) (d : Nat) (r : Int) (q x : Pn) : Int := if 0 < nearP x.at 3 q.at 3 then min r (inverseSG sq (nearP x.at 3 q.at 3) (2 ^ d)).hi else r
def seenSG (sq : Int → Int) (d : Nat) (p q : Pn) : R := partS (sumP (lowPG sq d q) (cutL d p)) (sumP (higPG sq d (rimNG sq p.nn d) q) (cutL d p)) (4 ^ d)
def betPG (sq : Int → Int) (d : Nat) (p q : Pn) : R := seenSG sq d p (q.mul (2 ^ d))
def mutPG (sq : Int → Int) (d : Nat) (p q : Pn) : R := meanS (4 ^ d) (fun k => (seenSG sq d p ((cutL d q).getD k default)).lo) (fun k => (seenSG sq d p ((cutL d q).getD k default)).hi)
def potRG (sq : Int → Int) (P F : Nat → Nat → Int) (d m : Nat) (c : Nat → Int) (j : Nat) : R := addR (fun i => betPG sq d (pnlF P F i) (pnlF P F j)) c m
def potLG (sq : Int → Int) (P F : Nat → Nat → Int) (d m : Nat) (c : Nat → Int) : Nat → Int
  | 0 => 0
  | j + 1 => if potLG sq P F d m c j ≠ 0 then potLG sq P F d m c j else (potRG sq P F d m c j).e
def enRG (sq : Int → Int) (P F : Nat → Nat → Int) (d m : Nat) (c : Nat → Int) : R := addR (fun k => mutPG sq d (pnlF P F (k / m)) (pnlF P F (k % m))) (fun k => c (k / m) * c (k % m)) (m * m)
def belNG (sq : Int → Int) (P F : Nat → Nat → Int) (d m : Nat) (c : Nat → Int) : Int := sumC c m * 1048576 * 1048576 / mostF (fun j => (potRG sq P F d m c j).hi) m
def aboNG (sq : Int → Int) (P F : Nat → Nat → Int) (d m : Nat) (c : Nat → Int) : Int := (sumC c m * 1048576 * 1048576 + leastF (fun j => (potRG sq P F d m c j).lo) m - 1) / leastF (fun j => (potRG sq P F d m c j).lo) m
def thoNG (sq : Int → Int) (P F : Nat → Nat → Int) (d m : Nat) (c : Nat → Int) : Int := sumC c m * 1048576 * 1048576 / (((enRG sq P F d m c).hi + sumC c m - 1) / sumC c m)
def ballVG (sq : Int → Int) (n : Nat) (P : Nat → Nat → Int) : Int := (lenSG sq (farB P ((boxLo P 0 n + boxHi P 0 n) / 2) ((boxLo P 1 n + boxHi P 1 n) / 2) ((boxLo P 2 n + boxHi P 2 n) / 2) n)).hi
def bndRG (sq : Int → Int) (n : Nat) (P : Nat → Nat → Int) (m : Nat) (F : Nat → Nat → Int) (d : Nat) (c : Nat → Int) : R :=
  if potLG sq P F d m c m ≠ 0 then ⟨0, 0, potLG sq P F d m c m⟩
  else if limE (belNG sq P F d m c) ≠ 0 then ⟨0, 0, limE (belNG sq P F d m c)⟩
  else if (enRG sq P F d m c).e ≠ 0 then ⟨0, 0, (enRG sq P F d m c).e⟩
  else if limE (thoNG sq P F d m c) ≠ 0 then ⟨0, 0, limE (thoNG sq P F d m c)⟩
  else if limE (aboNG sq P F d m c) ≠ 0 then ⟨0, 0, limE (aboNG sq P F d m c)⟩
  else ⟨max (belNG sq P F d m c) (thoNG sq P F d m c), min (aboNG sq P F d m c) (ballVG sq n P), 0⟩
theorem potL_twin (P F : Nat → Nat → Int) (d m : Nat) (c : Nat → Int) : ∀ k, potL P F d m c k = potLG sqrtS P F d m c k
  | 0 => rfl
  | k + 1 => by
    unfold potL potLG
    rw [potL_twin P F d m c k]
    rfl
theorem bnd_twin (n : Nat) (P : Nat → Nat → Int) (m : Nat) (F : Nat → Nat → Int) (d : Nat) (c : Nat → Int) : bndR n P m F d c = bndRG sqrtS n P m F d c := by
  unfold bndR bndRG
  rw [potL_twin]
  rfl
end Go.Proofs.YtnbjealpcjfllaaGreatDoor

namespace Go.Proofs.YtnbjealpcjfllaaGreatDoor
set_option linter.unusedVariables false
set_option linter.unusedSimpArgs false
theorem octa_bnd : bndR 6 (octaP 1) 8 octaF 0 (fun _ => 1) = ⟨209160, 1048576, 0⟩ := by
  rw [bnd_twin, sqrt_isq]
  kernel_rfl
end Go.Proofs.YtnbjealpcjfllaaGreatDoor

namespace Go.Proofs.YtnbjealpcjfllaaGreatDoor
set_option linter.unusedVariables false
set_option linter.unusedSimpArgs false
open Go.ChangeShapes Go.WideShapes Go.ChangeAt Go.RowKit Go.Deep Go.MuLone
/-- Behind w0 a desk was made at block db, and orders were done. -/
def DA (w0 : World) (db : Nat) (D : Dsk) (w : World) : Prop :=
  Le w ∧ Kept w0 w ∧ 9 ≤ w0.heap.size ∧ ∃ sv ov V, DeskAt w w0.heap.size 0 db D sv ov V
theorem DA.on {w0 w w' : World} {db : Nat} {D : Dsk} (h : DA w0 db D w) (hk : Kept w w') : DA w0 db D w' := by
  obtain ⟨h1, h2, h3, sv, ov, V, h4⟩ := h
  exact ⟨h1.on hk, h2.trans hk, h3, sv, ov, V, h4.on hk⟩
theorem DA.step {w0 w w' : World} {db : Nat} {D D' : Dsk} {sv ov : Value} {V : List ShV} (h : DA w0 db D w) (hd : DeskAt w w0.heap.size 0 db D sv ov V) (hs : Step w w' w0.heap.size 0 db D' (own db sv ov V)) : DA w0 db D' w' := by
  obtain ⟨h1, h2, h3, -⟩ := h
  obtain ⟨sv', ov', V', d1, d2, d3⟩ := hs
  exact ⟨h1.kb d2 (fun q e => Nat.le_trans h3 (hd.own_lt e).1), KB.kept_new h2 d2 (fun k hk e => by have := (hd.own_lt e).1; omega), h3, sv', ov', V', d1⟩
/-- What doing an order returns, and the desk behind it. -/
theorem DA.do {w0 w : World} {db : Nat} {D : Dsk} (h : DA w0 db D w) (l : List UInt8) (E : Int) (D2 : Dsk) (hl : l.length ≤ 1000000)
    (hdo : ∀ sv ov V w', DeskAt w' w0.heap.size 1 db D sv ov V → Le w' → Calls Tryz.prog 33 #[.pointer (some ⟨db, 0, none⟩), .string ⟨l.toArray⟩] w' fun r w'' => Exe w' w'' r w0.heap.size 1 db (own db sv ov V) E D2) :
    Calls Tryz.prog 12 #[.pointer (some ⟨db, 0, none⟩), .string ⟨l.toArray⟩] w fun r w' => r = .returned (.int .i64 E) ∧ DA w0 db (if E = 0 then D2 else D) w' := by
  obtain ⟨sv, ov, V, hd⟩ := h.2.2.2
  refine (dDo_any l E D2 w0.heap.size db D sv ov V w hd h.1 h.2.2.1 (hdo sv ov V)).mono fun r w' ⟨e1, e2, e3⟩ => ⟨e1, ?_⟩
  by_cases hE : E = 0
  · rw [if_pos hE]
    exact h.step hd (e3 hE)
  · rw [if_neg hE]
    exact h.on (e2 hE)
def oc1 : List UInt8 := [111, 99, 116, 97, 32, 97, 32, 49]
def ev1 : List UInt8 := [101, 118, 101, 110, 32, 97, 32, 48]
def dy1 : List UInt8 := [100, 97, 121]
def sh0 : Shp := ⟨[97], 6, octaP 1, 8, octaF, 0, 0, []⟩
def dk0 : Dsk := ⟨[], 0, 200, 0, 200, []⟩
def dk1 : Dsk := ⟨[sh0], 0, 200, 0, 200, [oc1]⟩
def sh1 : Shp := ⟨[97], 6, octaP 1, 8, octaF, 209160, 1048576, [⟨8, fun _ _ => 1, 0, 209160, 1048576⟩]⟩
def dk2 : Dsk := ⟨[sh1], 0, 72, 128, 200, [oc1, ev1]⟩
def dk3 : Dsk := ⟨[sh1], 1, 200, 128, 200, [oc1, ev1, dy1]⟩
theorem octa_val : validE 6 (octaP 1) 8 octaF = 0 := by kernel_rfl
theorem octaE_1 : octaE 1 = 0 := by
  unfold octaE
  rw [if_pos (by decide)]
  exact octa_val
theorem evn0 (s : Shp) (hn : s.n = 6) (hP : s.P = octaP 1) (hm : s.m = 8) (hF : s.F = octaF) : evnB s 0 = ⟨209160, 1048576, 0⟩ := by
  unfold evnB
  rw [hn, hP, hm, hF]
  have hg : givE 6 (octaP 1) 8 octaF 8 (fun _ => 1) 0 = 0 := by
    unfold givE chE
    rw [octa_val]
    rfl
  unfold bndS
  rw [hg, if_neg (by simp)]
  exact octa_bnd
theorem wrk0 (s : Shp) (hn : s.n = 6) (hP : s.P = octaP 1) (hm : s.m = 8) (hF : s.F = octaF) : workS s.n s.P s.m s.F 0 = 128 ∧ workE s.n s.P s.m s.F 0 = 0 := by
  rw [hn, hP, hm, hF]
  constructor
  · unfold workS
    rw [if_pos ⟨octa_val, by decide⟩]
    rfl
  · unfold workE
    rw [octa_val]
    rfl
theorem rows_one {w : World} {B : Option Addr} {x : Int} {f : Nat → Nat → Int} (h : RowsAt w B 1 1 f) (e : f 0 0 = x) : RowsAt w B 1 1 (fun _ _ => x) := h.congr fun i hi j hj => by
  obtain rfl : i = 0 := by omega
  obtain rfl : j = 0 := by omega
  exact e
theorem do_oc {w0 w : World} {db : Nat} (h : DA w0 db dk0 w) : Calls Tryz.prog 12 #[.pointer (some ⟨db, 0, none⟩), .string ⟨oc1.toArray⟩] w fun r w' => r = .returned (.int .i64 0) ∧ DA w0 db dk1 w' := by
  have key := h.do oc1 0 dk1 (by decide) (fun sv ov V w' hd hle => by
    have := ddo_any oc1 ⟨1, [[97]], [1]⟩ 0 { dk0 with shapes := dk0.shapes ++ [sh0] } w0.heap.size db 1 dk0 sv ov V w' parse_octa (by decide) hd hle.ld rfl (fun w2 A B capA capB a b c hk hA hB => by
      have := dexe_octa [97] 1 w0.heap.size db 1 dk0 sv ov V A B capA capB a b c w2 (hd.on hk) hA (rows_one hB rfl) (by decide)
      have e : creE dk0 [97] (octaE 1) = 0 := by
        unfold creE
        rw [octaE_1]
        rfl
      rw [e] at this
      exact this.mono fun r w3 h3 => ⟨h3.1, fun q => absurd rfl q, fun q => h3.2.2 q⟩)
    exact this.mono fun r w3 h3 => ⟨h3.1, fun q => absurd rfl q, fun q => h3.2.2 rfl⟩)
  exact key
theorem tight1 : Tight dk1 := by unfold Tight; decide
theorem tight2 : Tight dk2 := by unfold Tight; decide
theorem prvE_at (D : Dsk) (nm : List UInt8) (k d : Int) (C : Shp → R) (i : Nat) (s : Shp) (we ws : Int) (r : R) (hi : idxS D.shapes nm 0 = (i : Int)) (hs : D.shapes[i]? = some s) (h1 : workE s.n s.P s.m s.F d = we) (h2 : workS s.n s.P s.m s.F d = ws) (h3 : C s = r) :
    prvE D nm k d C = if we ≠ 0 then we else if D.left < ws * k then 13 else if 16 ≤ s.prs.length then 4 else r.e := by
  unfold prvE
  rw [hi, if_neg (by omega), Int.toNat_natCast, hs]
  simp only [h1, h2, h3]
theorem idx1 : idxS dk1.shapes [97] 0 = ((0 : Nat) : Int) := by simp [idxS, dk1, sh0]
theorem idx2 : idxS dk2.shapes [97] 0 = ((0 : Nat) : Int) := by simp [idxS, dk2, sh1]
theorem prv1 : (prvE dk1 [97] 1 0 fun s => evnB s 0) = 0 := by
  rw [prvE_at dk1 [97] 1 0 (fun s => evnB s 0) 0 sh0 0 128 ⟨209160, 1048576, 0⟩ idx1 rfl (wrk0 sh0 rfl rfl rfl rfl).2 (wrk0 sh0 rfl rfl rfl rfl).1 (evn0 sh0 rfl rfl rfl rfl)]
  have hl : dk1.left = 200 := rfl
  have hp : sh0.prs.length = 0 := rfl
  rw [hl, hp]
  decide
theorem prv2 : (prvE dk2 [97] 1 0 fun s => evnB s 0) = 13 := by
  rw [prvE_at dk2 [97] 1 0 (fun s => evnB s 0) 0 sh1 0 128 ⟨209160, 1048576, 0⟩ idx2 rfl (wrk0 sh1 rfl rfl rfl rfl).2 (wrk0 sh1 rfl rfl rfl rfl).1 (evn0 sh1 rfl rfl rfl rfl)]
  have hl : dk2.left = 72 := rfl
  rw [hl]
  decide
theorem prvd1 : ({ prvD dk1 0 sh0 ⟨sh0.m, fun _ _ => 1, 0, (evnB sh0 0).lo, (evnB sh0 0).hi⟩ (workS sh0.n sh0.P sh0.m sh0.F 0) with orders := dk1.orders ++ [ev1] } : Dsk) = dk2 := by
  rw [(wrk0 sh0 rfl rfl rfl rfl).1, evn0 sh0 rfl rfl rfl rfl]
  rfl
theorem do_ev {w0 w : World} {db : Nat} (h : DA w0 db dk1 w) : Calls Tryz.prog 12 #[.pointer (some ⟨db, 0, none⟩), .string ⟨ev1.toArray⟩] w fun r w' => r = .returned (.int .i64 0) ∧ DA w0 db dk2 w' := by
  refine h.do ev1 0 dk2 (by decide) (fun sv ov V w' hd hle => ?_)
  have := ddo_any ev1 ⟨9, [[97]], [0]⟩ 0 (prvD dk1 0 sh0 ⟨sh0.m, fun _ _ => 1, 0, (evnB sh0 0).lo, (evnB sh0 0).hi⟩ (workS sh0.n sh0.P sh0.m sh0.F 0)) w0.heap.size db 1 dk1 sv ov V w' parse_even (by decide) hd hle.ld rfl (fun w2 A B capA capB a b c hk hA hB => by
    have := dexe_even [97] 0 w0.heap.size db 1 dk1 sv ov V A B capA capB a b c w2 (hd.on hk) tight1 hA (rows_one hB rfl) (by decide) 0 sh0 rfl rfl
    rw [prv1] at this
    exact this)
  rw [prvd1] at this
  exact this
theorem do_ev2 {w0 w : World} {db : Nat} (h : DA w0 db dk2 w) : Calls Tryz.prog 12 #[.pointer (some ⟨db, 0, none⟩), .string ⟨ev1.toArray⟩] w fun r w' => r = .returned (.int .i64 13) ∧ DA w0 db dk2 w' := by
  refine h.do ev1 13 { prvD dk2 0 sh1 ⟨sh1.m, fun _ _ => 1, 0, (evnB sh1 0).lo, (evnB sh1 0).hi⟩ (workS sh1.n sh1.P sh1.m sh1.F 0) with orders := dk2.orders ++ [ev1] } (by decide) (fun sv ov V w' hd hle => ?_)
  exact ddo_any ev1 ⟨9, [[97]], [0]⟩ 13 (prvD dk2 0 sh1 ⟨sh1.m, fun _ _ => 1, 0, (evnB sh1 0).lo, (evnB sh1 0).hi⟩ (workS sh1.n sh1.P sh1.m sh1.F 0)) w0.heap.size db 1 dk2 sv ov V w' parse_even (by decide) hd hle.ld rfl (fun w2 A B capA capB a b c hk hA hB => by
    have := dexe_even [97] 0 w0.heap.size db 1 dk2 sv ov V A B capA capB a b c w2 (hd.on hk) tight2 hA (rows_one hB rfl) (by decide) 0 sh1 rfl rfl
    rw [prv2] at this
    exact this)
theorem do_dy {w0 w : World} {db : Nat} (h : DA w0 db dk2 w) : Calls Tryz.prog 12 #[.pointer (some ⟨db, 0, none⟩), .string ⟨dy1.toArray⟩] w fun r w' => r = .returned (.int .i64 0) ∧ DA w0 db dk3 w' := by
  refine h.do dy1 0 dk3 (by decide) (fun sv ov V w' hd hle => ?_)
  exact ddo_any dy1 ⟨12, [], []⟩ 0 { dk2 with day := dk2.day + 1, left := dk2.budget } w0.heap.size db 1 dk2 sv ov V w' parse_day (by decide) hd hle.ld rfl (fun w2 A B capA capB a b c hk hA hB => dexe_day w0.heap.size db 1 dk2 sv ov V (.slice A 0 capA) (.slice B 0 capB) a b c w2 (hd.on hk) tight2)
theorem da_left {w0 w : World} {db : Nat} {D : Dsk} (h : DA w0 db D w) : Calls Tryz.prog 17 #[.pointer (some ⟨db, 0, none⟩)] w fun r w' => r = .returned (.int .i64 D.left) ∧ DA w0 db D w' := by
  obtain ⟨sv, ov, V, hd⟩ := h.2.2.2
  exact (dleft_any db sv D.day D.left D.spent D.budget ov w hd.hd).mono fun r w' ⟨e1, e2⟩ => ⟨e1, h.on e2⟩
theorem da_spent {w0 w : World} {db : Nat} {D : Dsk} (h : DA w0 db D w) : Calls Tryz.prog 18 #[.pointer (some ⟨db, 0, none⟩)] w fun r w' => r = .returned (.int .i64 D.spent) ∧ DA w0 db D w' := by
  obtain ⟨sv, ov, V, hd⟩ := h.2.2.2
  exact (dspent_any db sv D.day D.left D.spent D.budget ov w hd.hd).mono fun r w' ⟨e1, e2⟩ => ⟨e1, h.on e2⟩
theorem da_shape {w0 w : World} {db : Nat} (h : DA w0 db dk3 w) : Calls Tryz.prog 14 #[.pointer (some ⟨db, 0, none⟩), .string ⟨#[97]⟩] w fun r w' => ∃ A1 c1 A2 c2 A3 c3, r = .returned (.tuple #[.agg #[.string ⟨#[97]⟩, .slice A1 6 c1, .slice A2 8 c2, .int .i64 209160, .int .i64 1048576, .slice A3 1 c3], .int .i64 0]) ∧ Kept w w' := by
  obtain ⟨sv, ov, V, hd⟩ := h.2.2.2
  exact dShape_any [97] w0.heap.size db dk3 sv ov V w hd 0 sh1 rfl rfl
theorem da_new {w : World} (h : Le w) (h9 : 9 ≤ w.heap.size) : DA w w.heap.size dk0 (w.alloc (.cells #[.int .i32 0, .int .u32 0, .slice none 0 0, .int .i64 0, .int .i64 200, .int .i64 0, .int .i64 200, .slice none 0 0] 81)) := by
  refine ⟨h.on (by (repeat (first | exact Kept.refl _ | assumption | refine Kept.alloc ?_ _ | refine Kept.ext ?_ _ | refine Kept.drew ?_ | refine Kept.drewN ?_ _))), by (repeat (first | exact Kept.refl _ | assumption | refine Kept.alloc ?_ _ | refine Kept.ext ?_ _ | refine Kept.drew ?_ | refine Kept.drewN ?_ _)), h9, .slice none 0 0, .slice none 0 0, [], ⟨heap_alloc_new w _, Nat.le_refl _, World.ownsRow_nil _ _ _ _, World.ownsRow_nil _ _ _ _, rfl, by simp, by decide, fun k hk => absurd hk (by simp), fun i j hi => absurd hi (by simp), by decide, by decide, by decide⟩⟩
set_option maxRecDepth 100000 in
set_option maxHeartbeats 4000000 in
theorem dsane_any (w : World) (h : Le w) (h9 : 9 ≤ w.heap.size) :
    Calls Tryz.prog 7 #[] w fun r w' => r = .returned (.bool true) ∧ Kept w w' := by
  have q0 := dnew_ok 200 w (by omega)
  have d0 := da_new h h9
  have Q0 := Lib.hid q0
  have H0 := Lib.hid d0
  have q1 : ∀ w', DA w w.heap.size dk0 w' → Calls Tryz.prog 12 #[.pointer (some ⟨w.heap.size, 0, none⟩), .string ⟨#[111, 99, 116, 97, 32, 97, 32, 49]⟩] w' _ := fun w' h => do_oc h
  have q2 : ∀ w', DA w w.heap.size dk1 w' → Calls Tryz.prog 12 #[.pointer (some ⟨w.heap.size, 0, none⟩), .string ⟨#[101, 118, 101, 110, 32, 97, 32, 48]⟩] w' _ := fun w' h => do_ev h
  have q3 : ∀ w', DA w w.heap.size dk2 w' → Calls Tryz.prog 17 #[.pointer (some ⟨w.heap.size, 0, none⟩)] w' _ := fun w' h => da_left h
  have q4 : ∀ w', DA w w.heap.size dk2 w' → Calls Tryz.prog 12 #[.pointer (some ⟨w.heap.size, 0, none⟩), .string ⟨#[101, 118, 101, 110, 32, 97, 32, 48]⟩] w' _ := fun w' h => do_ev2 h
  have q5 : ∀ w', DA w w.heap.size dk2 w' → Calls Tryz.prog 12 #[.pointer (some ⟨w.heap.size, 0, none⟩), .string ⟨#[100, 97, 121]⟩] w' _ := fun w' h => do_dy h
  have q6 : ∀ w', DA w w.heap.size dk3 w' → Calls Tryz.prog 17 #[.pointer (some ⟨w.heap.size, 0, none⟩)] w' _ := fun w' h => da_left h
  have q7 : ∀ w', DA w w.heap.size dk3 w' → _ := fun w' h => da_shape h
  have q8 : ∀ w', DA w w.heap.size dk3 w' → Calls Tryz.prog 18 #[.pointer (some ⟨w.heap.size, 0, none⟩)] w' _ := fun w' h => da_spent h
  change ∀ w', DA w w.heap.size dk2 w' → Calls _ _ _ w' (fun r w'' => r = .returned (.int .i64 72) ∧ DA w w.heap.size dk2 w'') at q3
  change ∀ w', DA w w.heap.size dk3 w' → Calls _ _ _ w' (fun r w'' => r = .returned (.int .i64 200) ∧ DA w w.heap.size dk3 w'') at q6
  change ∀ w', DA w w.heap.size dk3 w' → Calls _ _ _ w' (fun r w'' => r = .returned (.int .i64 128) ∧ DA w w.heap.size dk3 w'') at q8
  have Q1 := Lib.hid q1
  have Q2 := Lib.hid q2
  have Q3 := Lib.hid q3
  have Q4 := Lib.hid q4
  have Q5 := Lib.hid q5
  have Q6 := Lib.hid q6
  have Q7 := Lib.hid q7
  have Q8 := Lib.hid q8
  clear q0 q1 q2 q3 q4 q5 q6 q7 q8 d0 h h9
  go_enter Tryz.func7, Tryz.ntmps7
  go_wp2_with (first | (go_at_call 23; refine Q0.out.mono ?_; rintro e w1 ⟨rfl, rfl⟩) | (go_at_call 12; (with_reducible refine (Q1.out _ H0.out).mono ?_); rintro e w1 ⟨rfl, h1⟩; have H1 := Lib.hid h1; clear h1) | (go_at_call 12; (with_reducible refine (Q2.out _ H1.out).mono ?_); rintro e w2 ⟨rfl, h2⟩; have H2 := Lib.hid h2; clear h2) | (go_at_call 17; (with_reducible refine (Q3.out _ H2.out).mono ?_); rintro e w3 ⟨rfl, h3⟩; have H3 := Lib.hid h3; clear h3) | (go_at_call 12; (with_reducible refine (Q4.out _ H3.out).mono ?_); rintro e w4 ⟨rfl, h4⟩; have H4 := Lib.hid h4; clear h4) | (go_at_call 12; (with_reducible refine (Q5.out _ H4.out).mono ?_); rintro e w5 ⟨rfl, h5⟩; have H5 := Lib.hid h5; clear h5) | (go_at_call 17; (with_reducible refine (Q6.out _ H5.out).mono ?_); rintro e w6 ⟨rfl, h6⟩; have H6 := Lib.hid h6; clear h6) | (go_at_call 14; (with_reducible refine (Q7.out _ H6.out).mono ?_); rintro e w7 ⟨A1, c1, A2, c2, A3, c3, rfl, ⟨y7, rfl⟩⟩) | (go_at_call 18; (with_reducible refine (Q8.out _ (H6.out.on (by (repeat (first | exact Kept.refl _ | assumption | refine Kept.alloc ?_ _ | refine Kept.ext ?_ _ | refine Kept.drew ?_ | refine Kept.drewN ?_ _))))).mono ?_); rintro e w8 ⟨rfl, h8⟩; have H8 := Lib.hid h8; clear h8))
  go_ret
  exact ⟨rfl, H8.out.2.1⟩
end Go.Proofs.YtnbjealpcjfllaaGreatDoor

namespace Go.Proofs.YtnbjealpcjfllaaGreatDoor
set_option linter.unusedVariables false
set_option linter.unusedSimpArgs false
open Go.ChangeShapes Go.WideShapes Go.ChangeAt Go.RowKit
section
variable {H : Type} {enc : TypeId × Value → H}
/-- The wrap for a row that lists variables, with the world's shape. -/
theorem returns_laid_shaped {a : Assume} {C : Checked} {os : Os} {f : FuncId} {fn : Func} {s : ChangeSpec} {conds : List PathCond} {apart fresh handsOn again : Bool} {X : World → Array Value → Prop}
    (hX : ∀ (w w' : World) (args : Array Value), w.heap = w'.heap → X w args → X w' args)
    (own : ownKnob C.prog.godebug = none) (started : os.Started) (noInit : C.prog.inits.idxOf? f = none) (hfn : C.prog.funcs[f]? = some fn)
    (witness : ∃ (w : World) (tape : Tape) (i : Input), w.os = os ∧ (w.forCall tape i).Shaped C.prog ∧ i.vars = [] ∧ Input.okWide C.prog (w.forCall tape i) .any w.heap.size f i ∧
      ((s.pre enc C.prog fn conds apart (w.forCall tape i).memory i.args ∧ X (w.forCall tape i).memory i.args) ∧ sizedMet enc C.prog fn (OpenSpec.ofChange s) apart (w.forCall tape i).memory i.args) ∧ a.holds C.prog (lone (Frame.enter C.prog f i.args .normal) [] (w.forCall tape i)))
    (contract : ∀ (W : World) (base : Nat) (args : Array Value) (ds gs : List (DataW H)) (before : List MemPlace),
      (∀ (j : Nat) t v, fn.params[j]? = some t → args[j]? = some v → Value.okWide C.prog W .any base t v) →
      DataW.Whole enc C.prog fn.params.toList s.vars apart W args.toList ds gs before → X W args → W.ShapedOpen C.prog →
      Calls C.prog f args W fun e W' => ∃ v, e = .returned v ∧ s.post enc C.prog fn apart fresh handsOn again W args v W') :
    ReturnsInHanded a C os f .any (fun w args => (s.pre enc C.prog fn conds apart w args ∧ X w args) ∧ sizedMet enc C.prog fn (OpenSpec.ofChange s) apart w args) (s.post enc C.prog fn apart fresh handsOn again) := by
  refine returnsInHanded_of_calls own started noInit witness ?_
  intro w tape i _ hsh _ hok hpre hholds
  obtain ⟨_, _, _, fn', hfn', _, _, _, _, hval⟩ := hok
  have e : fn' = fn := Option.some.inj (hfn'.symm.trans hfn)
  subst e
  obtain ⟨⟨⟨ds, gs, before, hw, hc⟩, hx⟩, hz⟩ := hpre
  have hw' := DataW.Whole.of_heap (w' := w.forCall tape i) (by rfl) hw
  refine (contract (w.forCall tape i) w.heap.size i.args ds gs before hval hw' (hX _ _ _ (by rfl) hx) hsh).mono fun e W' ⟨v, he, hp⟩ => ?_
  subst he
  exact ChangeSpec.post_blind hp
end
theorem gSyn : Tryz.prog.globalNamed "strconv.ErrSyntax" = some 2 := by kernel_rfl
theorem gRng : Tryz.prog.globalNamed "strconv.ErrRange" = some 3 := by kernel_rfl
theorem tSyn : (Tryz.prog.globals[2]?).map (·.type) = some 84 := by kernel_rfl
theorem tRng : (Tryz.prog.globals[3]?).map (·.type) = some 84 := by kernel_rfl
theorem tPow : (Tryz.prog.globals[4]?).map (·.type) = some 330 := by kernel_rfl
theorem starErr : "*" ++ "errors.errorString" = "*errors.errorString" := by decide
theorem rowErr (u : TypeId) (h : Tryz.prog.typeName? 3 u = some "*errors.errorString") : u = 336 :=
  typeName_ptr_named (nm := "errors.errorString") (by rw [starErr]; kernel_rfl) (by kernel_rfl) (by decide) u (by rw [starErr]; exact h)
theorem var_lt {P : Program} {W : World} {n : String} {g : Nat} {cs : Array Value} (hg : P.globalNamed n = some g) (h : W.var? P n = some cs) : g < W.heap.size := by
  unfold World.var? at h
  rw [hg] at h
  rcases Nat.lt_or_ge g W.heap.size with h' | h'
  · exact h'
  · simp [Array.getElem?_eq_none h'] at h
/-- The variables that this program's rows list. -/
def laidAll : List (String × DataW Unit) := [("math/bits.deBruijn32tab", Rows.laid_math_bits_deBruijn32tab), ("math/bits.deBruijn64tab", Rows.laid_math_bits_deBruijn64tab), ("internal/strconv.uint64pow10", Rows.laid_internal_strconv_uint64pow10), ("unicode/utf8.acceptRanges", Rows.laid_unicode_utf8_acceptRanges), ("errors.errorType", Rows.laid_errors_errorType), ("strconv.ErrRange", Rows.laid_strconv_ErrRange), ("strconv.ErrSyntax", Rows.laid_strconv_ErrSyntax), ("unicode/utf8.first", Rows.laid_unicode_utf8_first)]
/-- Those of them that are no types. -/
def laidRest : List (String × DataW Unit) := [("math/bits.deBruijn32tab", Rows.laid_math_bits_deBruijn32tab), ("math/bits.deBruijn64tab", Rows.laid_math_bits_deBruijn64tab), ("internal/strconv.uint64pow10", Rows.laid_internal_strconv_uint64pow10), ("unicode/utf8.acceptRanges", Rows.laid_unicode_utf8_acceptRanges), ("strconv.ErrRange", Rows.laid_strconv_ErrRange), ("strconv.ErrSyntax", Rows.laid_strconv_ErrSyntax), ("unicode/utf8.first", Rows.laid_unicode_utf8_first)]
theorem laid_rest : (laidAll.filter fun x => x.2.handleName?.isNone) = laidRest := by rfl
theorem laid_type : (laidAll.filter fun x => x.2.handleName?.isSome) = [("errors.errorType", Rows.laid_errors_errorType)] := by rfl
theorem gAcc : Tryz.prog.globalNamed "unicode/utf8.acceptRanges" = some 6 := by kernel_rfl
theorem gDb : Tryz.prog.globalNamed "math/bits.deBruijn64tab" = some 8 := by kernel_rfl
theorem gEt : Tryz.prog.globalNamed "errors.errorType" = some 0 := by kernel_rfl
theorem tRt : (Tryz.prog.cutTypes.find? (·.1 == "internal/reflectlite.rtype")).map (·.2) = some 225 := by kernel_rfl
theorem oneErr : ((List.range Tryz.prog.types.size).filter fun t => Tryz.prog.rowNamed t [101, 114, 114, 111, 114]) = [84] := by kernel_rfl
theorem laid_parts {W : World} (h : laidMetH Tryz.prog laidAll W) : laidMet Tryz.prog laidRest W ∧ handlesMet Tryz.prog [("errors.errorType", Rows.laid_errors_errorType)] W := by
  unfold laidMetH at h
  rw [laid_type, laid_rest] at h
  exact h
theorem et_of_laid {W : World} (h : laidMetH Tryz.prog laidAll W) : W.cell? ⟨0, 0, none⟩ = some (.iface 225 (.agg #[.pointer (some ⟨9, 84, none⟩)])) := by
  obtain ⟨name, u, ty, e1, e2, e3, e4, e5⟩ := (laid_parts h).2 _ (List.mem_singleton.2 rfl)
  have en : name = [101, 114, 114, 111, 114] := (Option.some.inj e1).symm
  subst en
  obtain rfl := Option.some.inj (tRt.symm.trans e2)
  have hm : ty ∈ (List.range Tryz.prog.types.size).filter fun t => Tryz.prog.rowNamed t [101, 114, 114, 111, 114] := List.mem_filter.2 ⟨List.mem_range.2 e3, e4⟩
  rw [oneErr] at hm
  obtain rfl := List.mem_singleton.1 hm
  have hh : typeHandle Tryz.prog 84 = .pointer (some ⟨9, 84, none⟩) := by kernel_rfl
  rw [hh] at e5
  simpa using World.var?_cell gEt e5 0
theorem Le.of {W : World} (h : laidMetH Tryz.prog laidAll W) (hs : W.ShapedOpen Tryz.prog) : Le W ∧ 9 ≤ W.heap.size := by
  have h0 := (laid_parts h).1
  have h1 := laidMet.tail h0
  have h2 := laidMet.tail h1
  have h3 := laidMet.tail h2
  have h4 := laidMet.tail h3
  have h5 := laidMet.tail h4
  have hsz : 9 ≤ W.heap.size := by
    first
    | (obtain ⟨ps, ⟨g', t', cs, fuel, p, q, hg', ht', hvar, -⟩, -⟩ := h3
       exact var_lt gAcc hvar)
    | (obtain ⟨ps, ⟨g', t', cs, fuel, p, q, hg', ht', hvar, -⟩, -⟩ := h1
       exact var_lt gDb hvar)
  refine ⟨⟨⟨?_, by omega, ?_, ?_, ?_⟩, et_of_laid h⟩, hsz⟩
  · exact Lib.tabIs_of_head gPow tPow Tryz.underlying330 Tryz.underlying293 (by kernel_rfl) (by kernel_rfl) (rest := [("unicode/utf8.acceptRanges", Rows.laid_unicode_utf8_acceptRanges), ("strconv.ErrRange", Rows.laid_strconv_ErrRange), ("strconv.ErrSyntax", Rows.laid_strconv_ErrSyntax), ("unicode/utf8.first", Rows.laid_unicode_utf8_first)]) h2
  · exact cell_of_shapedOpen_int (zero := #[.int .i64 0]) (t := 3) hs (of_decide_eq_true (by kernel_rfl)) (by kernel_rfl) rfl (by kernel_rfl) (by kernel_rfl) Tryz.underlying3
  · obtain ⟨a, s, hv, -⟩ := laid_sentinel h5 gSyn tSyn Tryz.underlying84 rowErr Tryz.underlying336 Tryz.underlying338 rfl rfl Tryz.underlying9 (by kernel_rfl) (by kernel_rfl)
    exact ⟨_, _, by simpa using World.var?_cell gSyn hv 0⟩
  · obtain ⟨a, s, hv, -⟩ := laid_sentinel h4 gRng tRng Tryz.underlying84 rowErr Tryz.underlying336 Tryz.underlying338 rfl rfl Tryz.underlying9 (by kernel_rfl) (by kernel_rfl)
    exact ⟨_, _, by simpa using World.var?_cell gRng hv 0⟩
/-- A world in which all is laid. -/
noncomputable def heldW (os : Os) : World :=
  let w0 := World.holding Tryz.prog os ⟨#[], #[], []⟩
  { w0 with heap := w0.heap.modify 0 fun
      | .cells _ t frozen => .cells #[.iface 225 (.agg #[.pointer (some ⟨9, 84, none⟩)])] t frozen
      | o => o }
noncomputable def laidW (os : Os) : World := (heldW os).layVars Tryz.prog laidRest
theorem laidW_os (os : Os) : (laidW os).os = os := World.layVars_os _ _ _
theorem door_met (os : Os) (args : Array Value) : laidMetH Tryz.prog laidAll ((laidW os).forCall (fun _ _ => 0) ⟨#[], args, []⟩).memory := by
  refine laidMetH_of_parts ?_ (by kernel_rfl)
  rw [laid_rest]
  have e1 : (laidRest.filter fun x => (laidRest.map (·.1)).contains x.1) = laidRest := List.filter_eq_self.2 fun x hx => List.contains_iff_mem.2 (List.mem_map.2 ⟨x, hx, rfl⟩)
  have e2 : (laidRest.filter fun x => !(laidRest.map (·.1)).contains x.1) = [] := List.filter_eq_nil_iff.2 fun x hx => by rw [List.contains_iff_mem.2 (List.mem_map.2 ⟨x, hx, rfl⟩)]; simp
  have h : laidMet Tryz.prog laidRest (laidW os) := laidMet_layVars (w0 := heldW os) (laidRest.map (·.1)) [] (by rw [e1]; rfl) (by rw [e1]; kernel_rfl) (by rw [e1]; kernel_rfl) (by rw [e2]; exact LaidIn.none)
  exact h.of_heap (by simp [World.memory, World.forCall, Input.heap])
end Go.Proofs.YtnbjealpcjfllaaGreatDoor


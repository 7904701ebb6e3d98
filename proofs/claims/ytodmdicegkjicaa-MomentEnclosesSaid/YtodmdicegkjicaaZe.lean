/- Spans over the rational numbers: which numbers they enclose; sums over the parts of a panel; far fields of one panel. Conditions: those of each theorem. Contracts: inverse roots and their cubes, of the program and of the reference. Under the premises of each theorem. For every input the statement SpanInverses returns true and leaves its arguments as they were. No conditions. What parts of a panel are worth, seen from a triangle: lower bounds are at most upper ones. Plain facts. Conditions: those of each theorem. What a panel is worth, seen from a triangle, as sums over its parts. Plain facts. Conditions: those of each theorem. Far fields over the rational numbers: one panel, seen from a point. Conditions: those of each theorem. Far fields over the rational numbers: what one panel is worth at a point lies within its bounds, and near what the far field says. Conditions: those of each theorem. -/
import Derived.Test.YtodmdicegkjicaaEla
import Derived.Test.YtodmdicegkjicaaZa
import Derived.Test.YtodmdicegkjicaaZc
import Derived.Test.YtodmdicegkjicaaZb
import Derived.Test.YtodmdicegkjicaaZd
namespace Go.Proofs.Ytodmdicegkjicaa
set_option linter.unusedVariables false
set_option linter.unusedSimpArgs false
theorem lin_lo {a l h Y L : Rat} (h1 : L ≤ a * l) (h2 : L ≤ a * h) (k1 : l ≤ Y) (k2 : Y ≤ h) : L ≤ a * Y := by
  rcases Rat.le_total (a := 0) (b := a) with q | q
  · have := Rat.mul_le_mul_of_nonneg_left k1 q
    grind
  · have := Rat.mul_le_mul_of_nonneg_left k2 (show 0 ≤ -a by grind)
    grind
theorem bil_lo {al ah bl bh X Y L : Rat} (h1 : L ≤ al * bl) (h2 : L ≤ al * bh) (h3 : L ≤ ah * bl) (h4 : L ≤ ah * bh) (x1 : al ≤ X) (x2 : X ≤ ah) (y1 : bl ≤ Y) (y2 : Y ≤ bh) : L ≤ X * Y := by
  refine lin_lo (l := bl) (h := bh) ?_ ?_ y1 y2
  · rw [Rat.mul_comm]
    exact lin_lo (l := al) (h := ah) (by grind) (by grind) x1 x2
  · rw [Rat.mul_comm]
    exact lin_lo (l := al) (h := ah) (by grind) (by grind) x1 x2
theorem bil_hi {al ah bl bh X Y H : Rat} (h1 : al * bl ≤ H) (h2 : al * bh ≤ H) (h3 : ah * bl ≤ H) (h4 : ah * bh ≤ H) (x1 : al ≤ X) (x2 : X ≤ ah) (y1 : bl ≤ Y) (y2 : Y ≤ bh) : X * Y ≤ H := by
  have := bil_lo (L := -H) (X := X) (Y := -Y) (al := al) (ah := ah) (bl := -bh) (bh := -bl) (by grind) (by grind) (by grind) (by grind) x1 x2 (by grind) (by grind)
  grind
/-- A number is within a span. -/
def enc (lo hi : Int) (x : Rat) : Prop := (lo : Rat) ≤ x ∧ x ≤ (hi : Rat)
theorem cast_le {a b : Int} (h : a ≤ b) : (a : Rat) ≤ (b : Rat) := Rat.intCast_le_intCast.2 h
theorem down_le (n d : Int) (hd : 0 < d) : ((n / d : Int) : Rat) * (d : Rat) ≤ (n : Rat) := by
  have h := Int.ediv_mul_le n (show d ≠ 0 by omega)
  have h2 := cast_le h
  rw [Rat.intCast_mul] at h2
  exact h2
theorem up_ge (n d : Int) (hd : 0 < d) : (n : Rat) ≤ ((-(-n / d) : Int) : Rat) * (d : Rat) := by
  have h := Int.ediv_mul_le (-n) (show d ≠ 0 by omega)
  have h2 : n ≤ (-(-n / d)) * d := by rw [Int.neg_mul]; omega
  have h3 := cast_le h2
  rw [Rat.intCast_mul] at h3
  exact h3
theorem res_e {a b : Int} (h : (resultS a b).e = 0) : resultS a b = ⟨a, b, 0⟩ ∧ validB a b = true := by
  unfold resultS at *
  split at h
  · rename_i q
    rw [if_pos q]
    exact ⟨rfl, q⟩
  · cases h
theorem prod_v {x n : Int} (h : -1099511627776 ≤ prodS x n ∧ prodS x n ≤ 1099511627776) : prodS x n = x * n := by
  unfold prodS at *
  split at h
  · omega
  · rename_i q
    rw [if_neg q]
    split at h
    · omega
    · rename_i q'
      rw [if_neg q']
theorem enc_scale {lo hi n : Int} {x : Rat} (h : (scaleS lo hi n).e = 0) (hx : enc lo hi x) : enc (scaleS lo hi n).lo (scaleS lo hi n).hi ((n : Rat) * x) := by
  unfold scaleS at *
  split at h
  · rename_i q
    rw [if_pos q]
    obtain ⟨e, v⟩ := res_e h
    rw [e]
    have v := of_decide_eq_true v
    have p1 := prod_v (x := lo) (n := n) (by omega)
    have p2 := prod_v (x := hi) (n := n) (by omega)
    have a1 : min (prodS lo n) (prodS hi n) ≤ lo * n := by omega
    have a2 : min (prodS lo n) (prodS hi n) ≤ hi * n := by omega
    have a3 : lo * n ≤ max (prodS lo n) (prodS hi n) := by omega
    have a4 : hi * n ≤ max (prodS lo n) (prodS hi n) := by omega
    have b1 := cast_le a1
    have b2 := cast_le a2
    have b3 := cast_le a3
    have b4 := cast_le a4
    rw [Rat.intCast_mul] at b1 b2 b3 b4
    obtain ⟨x1, x2⟩ := hx
    constructor
    · exact lin_lo (l := lo) (h := hi) (by grind) (by grind) x1 x2
    · have := lin_lo (a := -(n : Rat)) (l := lo) (h := hi) (Y := x) (L := -(max (prodS lo n) (prodS hi n) : Int)) (by grind) (by grind) x1 x2
      grind
  · cases h
theorem enc_mul {al ah bl bh : Int} {x y : Rat} (h : (mulS al ah bl bh).e = 0) (hx : enc al ah x) (hy : enc bl bh y) : enc (mulS al ah bl bh).lo (mulS al ah bl bh).hi (x * y / 1048576) := by
  unfold mulS at *
  split at h
  · rename_i q
    rw [if_pos q]
    obtain ⟨e, v⟩ := res_e h
    rw [e]
    obtain ⟨x1, x2⟩ := hx
    obtain ⟨y1, y2⟩ := hy
    have dn : ∀ a b : Int, ((fDown a b : Int) : Rat) * 1048576 ≤ (a : Rat) * b := fun a b => by
      have := down_le (a * b) 1048576 (by decide)
      rw [Rat.intCast_mul] at this
      exact this
    have up : ∀ a b : Int, (a : Rat) * b ≤ ((fUp a b : Int) : Rat) * 1048576 := fun a b => by
      have := up_ge (a * b) 1048576 (by decide)
      rw [Rat.intCast_mul] at this
      exact this
    have m1 : ∀ L : Int, L ≤ min4 fDown al ah bl bh → (L : Rat) * 1048576 ≤ x * y := fun L hL => by
      unfold min4 at hL
      refine bil_lo (al := al) (ah := ah) (bl := bl) (bh := bh) ?_ ?_ ?_ ?_ x1 x2 y1 y2
      · have := cast_le (show L ≤ fDown al bl by omega); have := dn al bl; grind
      · have := cast_le (show L ≤ fDown al bh by omega); have := dn al bh; grind
      · have := cast_le (show L ≤ fDown ah bl by omega); have := dn ah bl; grind
      · have := cast_le (show L ≤ fDown ah bh by omega); have := dn ah bh; grind
    have m2 : ∀ L : Int, max4 fUp al ah bl bh ≤ L → x * y ≤ (L : Rat) * 1048576 := fun L hL => by
      unfold max4 at hL
      refine bil_hi (al := al) (ah := ah) (bl := bl) (bh := bh) ?_ ?_ ?_ ?_ x1 x2 y1 y2
      · have := cast_le (show fUp al bl ≤ L by omega); have := up al bl; grind
      · have := cast_le (show fUp al bh ≤ L by omega); have := up al bh; grind
      · have := cast_le (show fUp ah bl ≤ L by omega); have := up ah bl; grind
      · have := cast_le (show fUp ah bh ≤ L by omega); have := up ah bh; grind
    have k1 := m1 _ (Int.le_refl _)
    have k2 := m2 _ (Int.le_refl _)
    have k3 : x * y / 1048576 * 1048576 = x * y := Rat.div_mul_cancel (by decide)
    constructor <;> grind
  · cases h
theorem enc_q {num den : Int} (hd : 0 < den) (h : (qmS num den).e = 0) : enc (qmS num den).lo (qmS num den).hi ((num : Rat) * 1048576 / den) := by
  unfold qmS at *
  obtain ⟨e, v⟩ := res_e h
  rw [e, Int.fdiv_eq_ediv_of_nonneg _ (by omega), Int.fdiv_eq_ediv_of_nonneg _ (by omega)]
  have k1 := down_le (num * 1048576) den hd
  have k2 := up_ge (num * 1048576) den hd
  have hdR : (0 : Rat) < den := by
    have := Rat.intCast_lt_intCast.2 hd
    exact this
  have k3 : (num : Rat) * 1048576 / den * den = (num : Rat) * 1048576 := Rat.div_mul_cancel (by grind)
  rw [Rat.intCast_mul] at k1 k2
  constructor
  · refine cancel_pos hdR ?_
    show _ * ((num * 1048576 / den : Int) : Rat) ≤ _
    rw [Rat.mul_comm, Rat.mul_comm (den : Rat), k3]
    exact k1
  · refine cancel_pos hdR ?_
    show _ ≤ _ * ((-(-(num * 1048576) / den) : Int) : Rat)
    have k4 : (den : Rat) * ((num : Rat) * 1048576 / den) = (num : Rat) * 1048576 := by rw [Rat.mul_comm]; exact k3
    rw [k4, Rat.mul_comm (den : Rat)]
    exact k2
theorem enc_part {al ah n : Int} {x : Rat} (hn : 0 < n) (h : (partS al ah n).e = 0) (hx : enc al ah x) : enc (partS al ah n).lo (partS al ah n).hi (x / n) := by
  unfold partS at *
  split at h
  · rename_i q
    rw [if_pos q]
    obtain ⟨e, v⟩ := res_e h
    rw [e]
    obtain ⟨x1, x2⟩ := hx
    have k1 := down_le al n hn
    have k2 := up_ge ah n hn
    have hdR : (0 : Rat) < n := Rat.intCast_lt_intCast.2 hn
    have k3 : x / n * n = x := Rat.div_mul_cancel (by grind)
    constructor
    · refine cancel_pos hdR ?_
      show _ * ((al / n : Int) : Rat) ≤ _
      rw [Rat.mul_comm, Rat.mul_comm (n : Rat), k3]
      exact Rat.le_trans k1 x1
    · refine cancel_pos hdR ?_
      show _ ≤ _ * ((-(-ah / n) : Int) : Rat)
      rw [Rat.mul_comm, k3, Rat.mul_comm]
      exact Rat.le_trans x2 k2
  · cases h
theorem enc_add {a b c d : Int} {x y : Rat} (h1 : enc a b x) (h2 : enc c d y) : enc (a + c) (b + d) (x + y) := by
  obtain ⟨x1, x2⟩ := h1
  obtain ⟨y1, y2⟩ := h2
  unfold enc
  rw [Rat.intCast_add, Rat.intCast_add]
  constructor <;> grind
/-- A point of a finer grid. -/
structure V3 where
  x : Int
  y : Int
  z : Int
/-- The middles of the sides, in a grid twice as fine. -/
def mids (p : Pn) : List V3 := [⟨p.a0 + p.b0, p.a1 + p.b1, p.a2 + p.b2⟩, ⟨p.b0 + p.c0, p.b1 + p.c1, p.b2 + p.c2⟩, ⟨p.c0 + p.a0, p.c1 + p.a1, p.c2 + p.a2⟩]
def sm {α : Type} (g : α → Rat) : List α → Rat
  | [] => 0
  | y :: l => g y + sm g l
theorem sm_app {α : Type} (g : α → Rat) : ∀ a b : List α, sm g (a ++ b) = sm g a + sm g b
  | [], b => by show sm g b = 0 + sm g b; grind
  | x :: a, b => by
    show g x + sm g (a ++ b) = g x + sm g a + sm g b
    rw [sm_app g a b, Rat.add_assoc]
theorem sm_add {α : Type} (g h : α → Rat) : ∀ l : List α, sm (fun y => g y + h y) l = sm g l + sm h l
  | [] => by show (0 : Rat) = 0 + 0; grind
  | x :: l => by
    show g x + h x + sm _ l = (g x + sm g l) + (h x + sm h l)
    rw [sm_add g h l]
    grind
theorem sm_mul {α : Type} (c : Rat) (g : α → Rat) : ∀ l : List α, sm (fun y => c * g y) l = c * sm g l
  | [] => by simp [sm]
  | x :: l => by
    show c * g x + sm _ l = c * (g x + sm g l)
    rw [sm_mul c g l]
    grind
theorem sm_le {α : Type} {g h : α → Rat} : ∀ {l : List α}, (∀ x ∈ l, g x ≤ h x) → sm g l ≤ sm h l
  | [], _ => Rat.le_refl
  | x :: l, k => by
    have h1 := k x (List.mem_cons_self ..)
    have h2 := sm_le (l := l) fun y hy => k y (List.mem_cons_of_mem _ hy)
    show g x + sm g l ≤ h x + sm h l
    grind
theorem sm_congr {α : Type} {g h : α → Rat} : ∀ {l : List α}, (∀ x ∈ l, g x = h x) → sm g l = sm h l
  | [], _ => rfl
  | x :: l, k => by
    show g x + sm g l = h x + sm h l
    rw [k x (List.mem_cons_self ..), sm_congr fun y hy => k y (List.mem_cons_of_mem _ hy)]
theorem sm_const {α : Type} (c : Rat) : ∀ l : List α, sm (fun _ => c) l = c * (l.length : Nat)
  | [] => by simp [sm]
  | x :: l => by
    show c + sm _ l = _
    rw [sm_const c l, List.length_cons]
    push_cast
    grind
/-- Parts by parts: a sum over the middles of all parts. -/
def qs (g : V3 → Rat) (d : Nat) (p : Pn) : Rat := sm (fun P => sm g (mids P)) (cutL d p)
theorem qs_next (g : V3 → Rat) (d : Nat) (p : Pn) : qs g (d + 1) p = qs g d p.s0 + (qs g d p.s1 + (qs g d p.s2 + qs g d p.s3)) := by
  unfold qs
  rw [show cutL (d + 1) p = cutL d p.s0 ++ (cutL d p.s1 ++ (cutL d p.s2 ++ cutL d p.s3)) from rfl, sm_app, sm_app, sm_app]
theorem qs_0 (g : V3 → Rat) (p : Pn) : qs g 0 p = sm g (mids p) + 0 := rfl
theorem qs_one : ∀ (d : Nat) (p : Pn), qs (fun _ => 1) d p = 3 * 4 ^ d
  | 0, p => by rw [qs_0]; simp [sm, mids]; grind
  | d + 1, p => by rw [qs_next, qs_one d, qs_one d, qs_one d, qs_one d, Rat.pow_succ]; grind
def lin (a b c : Rat) (v : V3) : Rat := a * v.x + b * v.y + c * v.z
theorem qs_lin (a b c : Rat) : ∀ (d : Nat) (p : Pn), qs (lin a b c) d p = 2 * 8 ^ d * (a * (p.a0 + p.b0 + p.c0) + b * (p.a1 + p.b1 + p.c1) + c * (p.a2 + p.b2 + p.c2))
  | 0, p => by rw [qs_0]; simp only [sm, mids, lin]; push_cast; grind
  | d + 1, p => by
    rw [qs_next, qs_lin a b c d, qs_lin a b c d, qs_lin a b c d, qs_lin a b c d, Rat.pow_succ]
    simp only [Pn.s0, Pn.s1, Pn.s2, Pn.s3]
    push_cast
    grind
def qua (A B C D E F : Rat) (x y z : Rat) : Rat := A * x * x + B * x * y + C * x * z + D * y * y + E * y * z + F * z * z
def quv (A B C D E F : Rat) (v : V3) : Rat := qua A B C D E F v.x v.y v.z
theorem qs_qua (A B C D E F : Rat) : ∀ (d : Nat) (p : Pn), qs (quv A B C D E F) d p = 16 ^ d * (qua A B C D E F (p.a0 + p.b0 + p.c0) (p.a1 + p.b1 + p.c1) (p.a2 + p.b2 + p.c2) + qua A B C D E F p.a0 p.a1 p.a2 + qua A B C D E F p.b0 p.b1 p.b2 + qua A B C D E F p.c0 p.c1 p.c2)
  | 0, p => by rw [qs_0]; simp only [sm, mids, quv, qua]; push_cast; grind
  | d + 1, p => by
    rw [qs_next, qs_qua A B C D E F d, qs_qua A B C D E F d, qs_qua A B C D E F d, qs_qua A B C D E F d, Rat.pow_succ]
    simp only [Pn.s0, Pn.s1, Pn.s2, Pn.s3, qua]
    push_cast
    grind
/-- The square of a length. -/
def sqv (x y z : Int) : Int := x * x + y * y + z * z
theorem isq (a : Int) : 0 ≤ a * a := by
  rcases Int.le_total 0 a with h | h
  · exact Int.mul_nonneg h h
  · exact Int.mul_nonneg_of_nonpos_of_nonpos h h
theorem sq_mid (a b : Int) : (a + b) * (a + b) ≤ 2 * (a * a) + 2 * (b * b) := by
  have := isq (a - b)
  grind
theorem sqv_mid {a0 a1 a2 b0 b1 b2 m : Int} (h1 : sqv a0 a1 a2 ≤ m) (h2 : sqv b0 b1 b2 ≤ m) : sqv (a0 + b0) (a1 + b1) (a2 + b2) ≤ 4 * m := by
  unfold sqv at *
  have := sq_mid a0 b0
  have := sq_mid a1 b1
  have := sq_mid a2 b2
  omega
theorem sqv_two {a0 a1 a2 m : Int} (h1 : sqv a0 a1 a2 ≤ m) : sqv (2 * a0) (2 * a1) (2 * a2) ≤ 4 * m := by
  unfold sqv at *
  grind
def Pn.inS (m : Int) (p : Pn) : Prop := sqv p.a0 p.a1 p.a2 ≤ m ∧ sqv p.b0 p.b1 p.b2 ≤ m ∧ sqv p.c0 p.c1 p.c2 ≤ m
theorem Pn.inS_sub {m : Int} {p : Pn} (h : p.inS m) : p.s0.inS (4 * m) ∧ p.s1.inS (4 * m) ∧ p.s2.inS (4 * m) ∧ p.s3.inS (4 * m) := by
  obtain ⟨h1, h2, h3⟩ := h
  exact ⟨⟨sqv_two h1, sqv_mid h1 h2, sqv_mid h3 h1⟩, ⟨sqv_mid h1 h2, sqv_two h2, sqv_mid h2 h3⟩, ⟨sqv_mid h3 h1, sqv_mid h2 h3, sqv_two h3⟩, ⟨sqv_mid h1 h2, sqv_mid h2 h3, sqv_mid h3 h1⟩⟩
theorem cutL_inS : ∀ (d : Nat) (p : Pn) (m : Int), p.inS m → ∀ P ∈ cutL d p, P.inS (4 ^ d * m)
  | 0, p, m, h, P, hP => by
    obtain rfl : P = p := by simpa [cutL] using hP
    simpa using h
  | d + 1, p, m, h, P, hP => by
    obtain ⟨h0, h1, h2, h3⟩ := Pn.inS_sub h
    have e : (4 : Int) ^ (d + 1) * m = 4 ^ d * (4 * m) := by rw [Int.pow_succ, Int.mul_assoc]
    rw [e]
    have hP : P ∈ cutL d p.s0 ++ (cutL d p.s1 ++ (cutL d p.s2 ++ cutL d p.s3)) := hP
    simp only [List.mem_append] at hP
    rcases hP with hP | hP | hP | hP
    · exact cutL_inS d _ _ h0 P hP
    · exact cutL_inS d _ _ h1 P hP
    · exact cutL_inS d _ _ h2 P hP
    · exact cutL_inS d _ _ h3 P hP
theorem mids_inS {m : Int} {P : Pn} (h : P.inS m) : ∀ y ∈ mids P, sqv y.x y.y y.z ≤ 4 * m := by
  obtain ⟨h1, h2, h3⟩ := h
  intro y hy
  unfold mids at hy
  simp only [List.mem_cons, List.not_mem_nil, or_false] at hy
  rcases hy with rfl | rfl | rfl
  · exact sqv_mid h1 h2
  · exact sqv_mid h2 h3
  · exact sqv_mid h3 h1
/-- A panel seen from another origin. -/
def Pn.sh (c0 c1 c2 : Int) (p : Pn) : Pn := ⟨p.a0 - c0, p.a1 - c1, p.a2 - c2, p.b0 - c0, p.b1 - c1, p.b2 - c2, p.c0 - c0, p.c1 - c1, p.c2 - c2⟩
theorem Pn.sh_sub (c0 c1 c2 : Int) (p : Pn) : (p.sh c0 c1 c2).s0 = p.s0.sh (2 * c0) (2 * c1) (2 * c2) ∧ (p.sh c0 c1 c2).s1 = p.s1.sh (2 * c0) (2 * c1) (2 * c2) ∧ (p.sh c0 c1 c2).s2 = p.s2.sh (2 * c0) (2 * c1) (2 * c2) ∧ (p.sh c0 c1 c2).s3 = p.s3.sh (2 * c0) (2 * c1) (2 * c2) := by
  simp only [sh, s0, s1, s2, s3, Pn.mk.injEq]
  omega
theorem cutL_sh : ∀ (d : Nat) (c0 c1 c2 : Int) (p : Pn), cutL d (p.sh c0 c1 c2) = (cutL d p).map (Pn.sh (2 ^ d * c0) (2 ^ d * c1) (2 ^ d * c2))
  | 0, c0, c1, c2, p => by simp [cutL]
  | d + 1, c0, c1, c2, p => by
    obtain ⟨e0, e1, e2, e3⟩ := Pn.sh_sub c0 c1 c2 p
    have e : ∀ c : Int, (2 : Int) ^ (d + 1) * c = 2 ^ d * (2 * c) := fun c => by rw [Int.pow_succ, Int.mul_assoc]
    show cutL d _ ++ (cutL d _ ++ (cutL d _ ++ cutL d _)) = (cutL d _ ++ (cutL d _ ++ (cutL d _ ++ cutL d _))).map _
    rw [e0, e1, e2, e3, cutL_sh d, cutL_sh d, cutL_sh d, cutL_sh d, e, e, e]
    simp only [List.map_append]
theorem upS_ge {n d : Int} (hd : 0 < d) : (n : Rat) ≤ ((upS n d : Int) : Rat) * d := by
  have h : n ≤ upS n d * d := by
    unfold upS
    have h1 := Int.mul_ediv_add_emod (n + d - 1) d
    have h2 := Int.emod_lt_of_pos (n + d - 1) hd
    have h3 : (n + d - 1) / d * d = d * ((n + d - 1) / d) := Int.mul_comm _ _
    omega
  have h2 := cast_le h
  rw [Rat.intCast_mul] at h2
  exact h2
theorem pow_e {t : Int} {τ : Rat} (ht0 : 0 ≤ τ) (ht : τ * 1048576 ≤ (t : Rat)) : ∀ k : Nat, τ ^ (k + 1) * 1048576 ≤ ((eS t k : Int) : Rat)
  | 0 => by
    show τ ^ (0 + 1) * 1048576 ≤ (t : Rat)
    grind
  | k + 1 => by
    have ih := pow_e ht0 ht k
    have h1 := upS_ge (n := eS t k * t) (d := 1048576) (by decide)
    rw [Rat.intCast_mul] at h1
    have h2 : (τ ^ (k + 1) * 1048576) * (τ * 1048576) ≤ (eS t k : Rat) * t := by
      refine mul_le2 ih ht ?_ ?_
      · grind
      · have : 0 ≤ τ ^ (k + 1) := Rat.pow_nonneg ht0
        grind
    show τ ^ (k + 1 + 1) * 1048576 ≤ ((upS (eS t k * t) 1048576 : Int) : Rat)
    rw [Rat.pow_succ]
    have e : (((1048576 : Int)) : Rat) = 1048576 := rfl
    rw [e] at h1
    grind
/-- The bound of the higher orders is no less than the true one. -/
theorem rest_ge {T a r : Int} {k : Nat} {f : Rat} (hT : 0 ≤ T) (ha : 0 ≤ a) (hr : a < r) (hf : (1 - (a : Rat) / r) * f = ((a : Rat) / r) ^ (k + 1)) :
    1048576 * ((T : Rat) * (f / ((r : Rat) / 1048576))) ≤ ((upS (T * eS (upS (a * 1048576) r) k * 1048576) (r - a) : Int) : Rat) := by
  have hr0 : (0 : Rat) < r := Rat.intCast_lt_intCast.2 (show (0 : Int) < r by omega)
  have hra : (0 : Rat) < (r : Rat) - a := by
    have : (a : Rat) < r := Rat.intCast_lt_intCast.2 hr
    grind
  have ha0 : (0 : Rat) ≤ a := cast_le (a := 0) ha
  have hT0 : (0 : Rat) ≤ T := cast_le (a := 0) hT
  have k1 : (a : Rat) / r * r = a := Rat.div_mul_cancel (by grind)
  have h1 := upS_ge (n := a * 1048576) (d := r) (by omega)
  rw [Rat.intCast_mul] at h1
  have e : (((1048576 : Int)) : Rat) = 1048576 := rfl
  rw [e] at h1
  have ht0 : 0 ≤ (a : Rat) / r := by
    refine cancel_pos hr0 ?_
    grind
  have h2 : (a : Rat) / r * 1048576 ≤ ((upS (a * 1048576) r : Int) : Rat) := by
    refine cancel_pos hr0 ?_
    grind
  have h3 := pow_e ht0 h2 k
  have h4 := upS_ge (n := T * eS (upS (a * 1048576) r) k * 1048576) (d := r - a) (by omega)
  rw [Rat.intCast_mul, Rat.intCast_mul, Rat.intCast_sub, e] at h4
  generalize ((upS (T * eS (upS (a * 1048576) r) k * 1048576) (r - a) : Int) : Rat) = U at *
  generalize ((eS (upS (a * 1048576) r) k : Int) : Rat) = E at *
  rw [← hf] at h3
  have k2 : f / ((r : Rat) / 1048576) * ((r : Rat) / 1048576) = f := Rat.div_mul_cancel (by grind)
  generalize f / ((r : Rat) / 1048576) = G at *
  generalize (a : Rat) / r = q at *
  have h5 := Rat.mul_le_mul_of_nonneg_left h3 hT0
  refine cancel_pos hra ?_
  have h6 : ((r : Rat) - a) * (1048576 * (T * G)) = (T : Rat) * ((1 - q) * f * 1048576) * 1048576 := by
    rw [← k2, ← k1]
    grind
  rw [h6]
  grind
def fT (t : Rat) (j : Nat) : Rat := t ^ (j + 1) / (1 - t)
def gT (t : Rat) : Rat := 1 / (1 - t) ^ 2
def cC (t R : Rat) (j : Nat) : Rat := 2 * ((4 + fT t j) * (3 + 8 * gT t)) + fT t j / R + (fT t j / R + 2 + 3 * (2 + 4 * gT t))
theorem fT_eq {t : Rat} (ht : t < 1) (j : Nat) : (1 - t) * fT t j = t ^ (j + 1) := by
  unfold fT
  rw [Rat.mul_comm]
  exact Rat.div_mul_cancel (by grind)
theorem fT_nn {t : Rat} (h0 : 0 ≤ t) (ht : t < 1) (j : Nat) : 0 ≤ fT t j := by
  refine cancel_pos (a := 1 - t) (by grind) ?_
  rw [fT_eq ht]
  have : 0 ≤ t ^ (j + 1) := Rat.pow_nonneg h0
  grind
theorem gT_eq {t : Rat} (ht : t < 1) : gT t * (1 - t) ^ 2 = 1 := by
  unfold gT
  exact Rat.div_mul_cancel (Rat.ne_of_gt (Rat.pow_pos (by grind)))
theorem gT_nn {t : Rat} (ht : t < 1) : 0 ≤ gT t := by
  refine cancel_pos (a := (1 - t) ^ 2) (Rat.pow_pos (by grind)) ?_
  have := gT_eq ht
  grind
theorem div_nn {x y : Rat} (hx : 0 ≤ x) (hy : 0 < y) : 0 ≤ x / y := by
  have : x / y * y = x := Rat.div_mul_cancel (by grind)
  refine cancel_pos hy ?_
  grind
theorem div_ps {x y : Rat} (hx : 0 < x) (hy : 0 < y) : 0 < x / y := by
  have h1 := div_nn (Rat.le_of_lt hx) hy
  have h2 : x / y * y = x := Rat.div_mul_cancel (by grind)
  by_cases h : x / y = 0
  · rw [h] at h2
    grind
  · grind
theorem cC_nn {t R : Rat} (h0 : 0 ≤ t) (ht : t < 1) (hR : 0 < R) (j : Nat) : 0 ≤ cC t R j := by
  have h1 := fT_nn h0 ht j
  have h2 := gT_nn ht
  have h3 := div_nn h1 hR
  have h4 := Rat.mul_nonneg (show 0 ≤ 4 + fT t j by grind) (show 0 ≤ 3 + 8 * gT t by grind)
  unfold cC
  grind
theorem one_pos {X M t : Rat} (hX : X ^ 2 ≤ M) (hM : M ≤ t ^ 2) (h0 : 0 ≤ t) (ht : t < 1) : 0 < 1 - 2 * X + M := by
  have h1 : X ≤ t := sqle h0 (Rat.le_trans hX hM)
  have h2 : 0 < (1 - X) ^ 2 := Rat.pow_pos (by grind)
  grind
theorem pt_off {j : Nat} (hj : j ≤ 2) {n R t d X M p z : Rat} (hn : 1 ≤ n) (hR : 0 < R) (hRn : R ^ 2 ≤ n) (h0 : 0 ≤ t) (ht : t < 1) (hX : X ^ 2 ≤ M) (hM : M ≤ t ^ 2) (hd : 0 < d) (hd2 : d ≤ 1 / 4) (hd3 : 2 * d ≤ (1 - t) ^ 2)
    (hp : 0 ≤ p) (hp1 : 1 - d ≤ p ^ 2 * n) (hp2 : p ^ 2 * n ≤ 1 + d) (hz : 0 ≤ z) (hz1 : 1 - d ≤ z ^ 2 * (n * (1 - 2 * X + M))) (hz2 : z ^ 2 * (n * (1 - 2 * X + M)) ≤ 1 + d) :
    z ≤ p * qk j X M + (fT t j / R + cC t R j * d) ∧ p * qk j X M ≤ z + (fT t j / R + cC t R j * d) := by
  have hM0 : 0 ≤ M := Rat.le_trans (sqn X) hX
  obtain ⟨-, v, -, k1, k2, k3, k4⟩ := root_near (a := 0) (b := t) (M := M) (d := d) Rat.le_refl h0 (by grind) hM hd
  have b1 : X ≤ v := sqle k1 (Rat.le_trans hX k3)
  have b2 : -X ≤ v := sqle k1 (by have e : (-X) ^ 2 = X ^ 2 := by grind
                                  rw [e]; exact Rat.le_trans hX k3)
  obtain ⟨r1, r2⟩ := far_off hj hn hR hRn ht k1 k2 b1 (by grind) k3 k4 (Rat.le_of_lt hd) hd2 hd3 hp hp1 hp2 hz hz1 hz2 (fT_eq ht j) (gT_eq ht)
  have f0 := fT_nn h0 ht j
  have g0 := gT_nn ht
  have fr := div_nn f0 hR
  have w1 := Rat.mul_nonneg (show 0 ≤ fT t j / R + 2 + 3 * (2 + 4 * gT t) by grind) (Rat.le_of_lt hd)
  have w2 := Rat.mul_nonneg (Rat.mul_nonneg (show 0 ≤ 4 + fT t j by grind) (show 0 ≤ 3 + 8 * gT t by grind)) (Rat.le_of_lt hd)
  have w3 := Rat.mul_nonneg fr (Rat.le_of_lt hd)
  unfold cC
  constructor
  · refine Rat.le_trans r1 ?_
    clear r1 r2
    grind
  · refine Rat.le_trans r2 ?_
    clear r1 r2
    grind
theorem exists_z {n X M t al bh d : Rat} (hn : 1 ≤ n) (hX : X ^ 2 ≤ M) (hM : M ≤ t ^ 2) (h0 : 0 ≤ t) (ht : t < 1) (ha : 0 ≤ al) (hab : al ≤ bh) (h1 : al ^ 2 * (n * (1 - 2 * X + M)) ≤ 1) (h2 : 1 ≤ bh ^ 2 * (n * (1 - 2 * X + M))) (hd : 0 < d) :
    ∃ z, al ≤ z ∧ z ≤ bh ∧ 1 - d ≤ z ^ 2 * (n * (1 - 2 * X + M)) ∧ z ^ 2 * (n * (1 - 2 * X + M)) ≤ 1 + d :=
  inv_near ha hab (Rat.mul_pos (by grind) (one_pos hX hM h0 ht)) h1 h2 hd
/-- Where there is no other bracket. -/
theorem big_bh {q : Rat} (hq : 0 < q) : (0 : Rat) ≤ 1 + 1 / q ∧ (0 : Rat) ^ 2 * q ≤ 1 ∧ 1 ≤ (1 + 1 / q) ^ 2 * q := by
  have h1 : 1 / q * q = 1 := Rat.div_mul_cancel (by grind)
  have h2 := div_nn (x := 1) (by decide) hq
  have h3 := Rat.mul_nonneg h2 (Rat.le_of_lt hq)
  refine ⟨by grind, by grind, ?_⟩
  have h4 : (1 + 1 / q) ^ 2 * q = q + 2 * (1 / q * q) + 1 / q * (1 / q * q) := by grind
  rw [h4, h1]
  grind
/-- The direction of a point, and its distance, against the vector's. -/
def Xy (u0 u1 u2 : Int) (s n : Rat) (y : V3) : Rat := (u0 * y.x + u1 * y.y + u2 * y.z) / (s * n)
def My (s n : Rat) (y : V3) : Rat := ((y.x : Rat) * y.x + y.y * y.y + y.z * y.z) / (s * s * n)
def tT (d : Nat) : Rat := 2 * 2 ^ d
theorem pow_48 : ∀ d : Nat, (4 : Rat) ^ d = 2 ^ d * 2 ^ d ∧ (8 : Rat) ^ d = 2 ^ d * 2 ^ d * 2 ^ d ∧ (16 : Rat) ^ d = 2 ^ d * 2 ^ d * 2 ^ d * 2 ^ d
  | 0 => by refine ⟨?_, ?_, ?_⟩ <;> simp
  | d + 1 => by
    obtain ⟨h1, h2, h3⟩ := pow_48 d
    refine ⟨?_, ?_, ?_⟩ <;> simp only [Rat.pow_succ] <;> grind
theorem p2_pos (d : Nat) : (0 : Rat) < 2 ^ d := Rat.pow_pos (by decide)
/-- The sum of what a far field says, over all middles of the parts of a panel. -/
def oneS (u0 u1 u2 : Int) (n : Rat) (p : Pn) : Nat → Rat
  | 0 => 1
  | 1 => 1 + (u0 * ((p.a0 : Rat) + p.b0 + p.c0) + u1 * ((p.a1 : Rat) + p.b1 + p.c1) + u2 * ((p.a2 : Rat) + p.b2 + p.c2)) / (3 * n)
  | _ => 1 + (u0 * ((p.a0 : Rat) + p.b0 + p.c0) + u1 * ((p.a1 : Rat) + p.b1 + p.c1) + u2 * ((p.a2 : Rat) + p.b2 + p.c2)) / (3 * n) +
    (qua (3 * u0 * u0 - n) (6 * u0 * u1) (6 * u0 * u2) (3 * u1 * u1 - n) (6 * u1 * u2) (3 * u2 * u2 - n) ((p.a0 : Rat) + p.b0 + p.c0) ((p.a1 : Rat) + p.b1 + p.c1) ((p.a2 : Rat) + p.b2 + p.c2) + qua (3 * u0 * u0 - n) (6 * u0 * u1) (6 * u0 * u2) (3 * u1 * u1 - n) (6 * u1 * u2) (3 * u2 * u2 - n) p.a0 p.a1 p.a2 + qua (3 * u0 * u0 - n) (6 * u0 * u1) (6 * u0 * u2) (3 * u1 * u1 - n) (6 * u1 * u2) (3 * u2 * u2 - n) p.b0 p.b1 p.b2 + qua (3 * u0 * u0 - n) (6 * u0 * u1) (6 * u0 * u2) (3 * u1 * u1 - n) (6 * u1 * u2) (3 * u2 * u2 - n) p.c0 p.c1 p.c2) / (24 * n * n)
theorem qs_add (g h : V3 → Rat) (d : Nat) (p : Pn) : qs (fun y => g y + h y) d p = qs g d p + qs h d p := by
  unfold qs
  rw [← sm_add]
  exact sm_congr fun P _ => sm_add g h _
theorem qs_mul (c : Rat) (g : V3 → Rat) (d : Nat) (p : Pn) : qs (fun y => c * g y) d p = c * qs g d p := by
  unfold qs
  rw [← sm_mul]
  exact sm_congr fun P _ => sm_mul c g _
theorem qs_congr {g h : V3 → Rat} (e : ∀ y, g y = h y) (d : Nat) (p : Pn) : qs g d p = qs h d p := by
  have : g = h := funext e
  rw [this]
theorem qs_qk {j : Nat} (hj : j ≤ 2) (u0 u1 u2 : Int) {n : Rat} (hn : 0 < n) (d : Nat) (p : Pn) : qs (fun y => qk j (Xy u0 u1 u2 (tT d) n y) (My (tT d) n y)) d p = 3 * 4 ^ d * oneS u0 u1 u2 n p j := by
  obtain ⟨e4, e8, e16⟩ := pow_48 d
  have hp := p2_pos d
  have l1 : ∀ y, Xy u0 u1 u2 (tT d) n y = 1 / (tT d * n) * lin u0 u1 u2 y := fun y => by
    unfold Xy lin
    rw [Rat.div_def, Rat.div_def, Rat.one_mul, Rat.mul_comm]
  have i1 : tT d ≠ 0 := by unfold tT; grind
  have i2 : 1 / (tT d * n) * (tT d * n) = 1 := Rat.div_mul_cancel (by
    have := Rat.mul_pos (show 0 < tT d by unfold tT; grind) hn
    grind)
  have i3 : ∀ x : Rat, x / (3 * n) * (3 * n) = x := fun x => Rat.div_mul_cancel (by grind)
  have s1 : qs (fun y => Xy u0 u1 u2 (tT d) n y) d p = 3 * 4 ^ d * ((u0 * ((p.a0 : Rat) + p.b0 + p.c0) + u1 * ((p.a1 : Rat) + p.b1 + p.c1) + u2 * ((p.a2 : Rat) + p.b2 + p.c2)) / (3 * n)) := by
    rw [qs_congr l1, qs_mul, qs_lin, e4, e8]
    have i4 := i3 (u0 * ((p.a0 : Rat) + p.b0 + p.c0) + u1 * ((p.a1 : Rat) + p.b1 + p.c1) + u2 * ((p.a2 : Rat) + p.b2 + p.c2))
    generalize (u0 * ((p.a0 : Rat) + p.b0 + p.c0) + u1 * ((p.a1 : Rat) + p.b1 + p.c1) + u2 * ((p.a2 : Rat) + p.b2 + p.c2)) / (3 * n) = a at *
    generalize 1 / (tT d * n) = b at *
    unfold tT at i2
    rw [← i4]
    grind
  rcases (show j = 0 ∨ j = 1 ∨ j = 2 by omega) with rfl | rfl | rfl
  · show qs (fun _ => 1) d p = _
    rw [qs_one]
    simp only [oneS]
    grind
  · show qs (fun y => 1 + Xy u0 u1 u2 (tT d) n y) d p = _
    rw [qs_add (fun _ => 1) (fun y => Xy u0 u1 u2 (tT d) n y), qs_one, s1]
    simp only [oneS]
    grind
  · show qs (fun y => 1 + Xy u0 u1 u2 (tT d) n y + (3 * Xy u0 u1 u2 (tT d) n y ^ 2 - My (tT d) n y) / 2) d p = _
    rw [qs_add (fun y => 1 + Xy u0 u1 u2 (tT d) n y) (fun y => (3 * Xy u0 u1 u2 (tT d) n y ^ 2 - My (tT d) n y) / 2), qs_add (fun _ => 1) (fun y => Xy u0 u1 u2 (tT d) n y), qs_one, s1]
    have l2 : ∀ y, (3 * Xy u0 u1 u2 (tT d) n y ^ 2 - My (tT d) n y) / 2 = (1 / (tT d * n) * (1 / (tT d * n)) / 2) * quv (3 * u0 * u0 - n) (6 * u0 * u1) (6 * u0 * u2) (3 * u1 * u1 - n) (6 * u1 * u2) (3 * u2 * u2 - n) y := fun y => by
      have h1 : My (tT d) n y = 1 / (tT d * n) * (1 / (tT d * n)) * n * ((y.x : Rat) * y.x + y.y * y.y + y.z * y.z) := by
        unfold My
        have h2 : ((y.x : Rat) * y.x + y.y * y.y + y.z * y.z) / (tT d * tT d * n) * (tT d * tT d * n) = ((y.x : Rat) * y.x + y.y * y.y + y.z * y.z) := Rat.div_mul_cancel (by
          have h3 : 0 < tT d := by unfold tT; grind
          have := Rat.mul_pos (Rat.mul_pos h3 h3) hn
          grind)
        generalize ((y.x : Rat) * y.x + y.y * y.y + y.z * y.z) / (tT d * tT d * n) = a at *
        generalize 1 / (tT d * n) = b at *
        rw [← h2]
        have h4 : b * b * n * (a * (tT d * tT d * n)) = a * ((b * (tT d * n)) * (b * (tT d * n))) := by grind
        rw [h4, i2]
        grind
      rw [l1, h1]
      unfold lin quv qua
      grind
    rw [qs_congr l2, qs_mul, qs_qua, e16, e4]
    simp only [oneS]
    generalize qua (3 * u0 * u0 - n) (6 * u0 * u1) (6 * u0 * u2) (3 * u1 * u1 - n) (6 * u1 * u2) (3 * u2 * u2 - n) ((p.a0 : Rat) + p.b0 + p.c0) ((p.a1 : Rat) + p.b1 + p.c1) ((p.a2 : Rat) + p.b2 + p.c2) + qua (3 * u0 * u0 - n) (6 * u0 * u1) (6 * u0 * u2) (3 * u1 * u1 - n) (6 * u1 * u2) (3 * u2 * u2 - n) p.a0 p.a1 p.a2 + qua (3 * u0 * u0 - n) (6 * u0 * u1) (6 * u0 * u2) (3 * u1 * u1 - n) (6 * u1 * u2) (3 * u2 * u2 - n) p.b0 p.b1 p.b2 + qua (3 * u0 * u0 - n) (6 * u0 * u1) (6 * u0 * u2) (3 * u1 * u1 - n) (6 * u1 * u2) (3 * u2 * u2 - n) p.c0 p.c1 p.c2 = Z
    have h5 : Z / (24 * n * n) * (24 * n * n) = Z := Rat.div_mul_cancel (by
      have := Rat.mul_pos (Rat.mul_pos (show (0 : Rat) < 24 by decide) hn) hn
      grind)
    generalize Z / (24 * n * n) = z at *
    generalize 1 / (tT d * n) = b at *
    have h6 : 3 * (2 ^ d * 2 ^ d) * z = b * b / 2 * (2 ^ d * 2 ^ d * 2 ^ d * 2 ^ d * Z) := by
      rw [← h5]
      have h7 : b * b / 2 * (2 ^ d * 2 ^ d * 2 ^ d * 2 ^ d * (z * (24 * n * n))) = 3 * (2 ^ d * 2 ^ d) * z * ((b * (tT d * n)) * (b * (tT d * n))) := by
        unfold tT
        grind
      rw [h7, i2]
      grind
    grind
end Go.Proofs.Ytodmdicegkjicaa

namespace Go.Proofs.Ytodmdicegkjicaa
set_option linter.unusedVariables false
set_option linter.unusedSimpArgs false
open Go.ChangeShapes Go.WideShapes Go.ChangeAt Go.RowKit
def invS (t n : Int) : R := if sqrtS (t / n) * sqrtS (t / n) * n = t then resultS (sqrtS (t / n)) (sqrtS (t / n)) else resultS (sqrtS (t / n)) (sqrtS (t / n) + 1)
theorem inv_bd {t n : Int} (h : (0 ≤ t ∧ t ≤ 1152921504606846976) ∧ (1 ≤ n ∧ n ≤ 1152921504606846976)) :
    0 ≤ t / n ∧ t / n ≤ 1152921504606846976 ∧ 0 ≤ sqrtS (t / n) ∧ sqrtS (t / n) ≤ 1073741824 ∧ 0 ≤ sqrtS (t / n) * sqrtS (t / n) ∧ sqrtS (t / n) * sqrtS (t / n) ≤ t / n ∧ 0 ≤ sqrtS (t / n) * sqrtS (t / n) * n ∧ sqrtS (t / n) * sqrtS (t / n) * n ≤ t ∧ t.tdiv n = t / n ∧ t.tmod n = t % n ∧ 0 ≤ t % n ∧ t % n < n ∧ n * (t / n) + t % n = t := by
  obtain ⟨⟨t0, t1⟩, n0, n1⟩ := h
  have q0 : 0 ≤ t / n := Int.ediv_nonneg t0 (by omega)
  have q1 : t / n ≤ t := Int.ediv_le_self n t0
  obtain ⟨s0, s1, s2⟩ := sqrtS_spec q0
  have s3 : sqrtS (t / n) ≤ 1073741824 := of_sq_le (by decide) (by omega)
  have s4 := Int.mul_nonneg s0 s0
  have s5 := Int.mul_nonneg s4 (show 0 ≤ n by omega)
  have s6 := Int.mul_le_mul_of_nonneg_right s1 (show 0 ≤ n by omega)
  have s7 := Int.ediv_mul_le t (show n ≠ 0 by omega)
  exact ⟨q0, by omega, s0, s3, s4, s1, s5, by omega, Int.tdiv_eq_ediv_of_nonneg t0, Int.tmod_eq_emod_of_nonneg t0, Int.emod_nonneg t (by omega), Int.emod_lt_of_pos t (by omega), Int.mul_ediv_add_emod t n⟩
set_option maxRecDepth 100000 in
set_option maxHeartbeats 1000000 in
theorem inverse_any (t n : Int) (w : World) (h : (0 ≤ t ∧ t ≤ 1152921504606846976) ∧ (1 ≤ n ∧ n ≤ 1152921504606846976)) :
    Calls Try.prog 55 #[.int .i64 t, .int .i64 n] w fun e w' => e = .returned (.tuple #[.agg #[.int .i64 (invS t n).lo, .int .i64 (invS t n).hi], .int .i64 (invS t n).e]) ∧ Kept w w' := by
  obtain ⟨q0, q1, k0, k1, k2, k3, k4, k5, d1, -⟩ := inv_bd h
  obtain ⟨⟨t0, t1⟩, n0, n1⟩ := h
  have z : (n == 0) = false := by simp; omega
  by_cases hk : sqrtS (t / n) * sqrtS (t / n) * n = t
  · rw [show invS t n = resultS (sqrtS (t / n)) (sqrtS (t / n)) from if_pos hk]
    have hk' : (sqrtS (t / n) * sqrtS (t / n) * n == t) = true := by simp [hk]
    clear hk
    go_enter Try.func55, Try.ntmps55
    go_wp2_with (first | (go_at_call 71; refine (root_any _ _ ⟨by omega, by omega⟩).mono ?_; rintro e w1 ⟨rfl, rfl⟩) | (go_at_call 39; refine (result_any _ _ _).mono ?_; rintro e w1 ⟨rfl, x, rfl⟩))
    refine bodyPost_ret (by simp only [results, Try.results55]; go_simp; rfl) rfl ?_
    refine ⟨rfl, ?_⟩
    (repeat (first | exact Kept.refl _ | assumption | refine Kept.alloc ?_ _ | refine Kept.ext ?_ _ | refine Kept.drew ?_ | refine Kept.drewN ?_ _))
  · rw [show invS t n = resultS (sqrtS (t / n)) (sqrtS (t / n) + 1) from if_neg hk]
    have hk' : (sqrtS (t / n) * sqrtS (t / n) * n == t) = false := by simp [hk]
    clear hk
    go_enter Try.func55, Try.ntmps55
    go_wp2_with (first | (go_at_call 71; refine (root_any _ _ ⟨by omega, by omega⟩).mono ?_; rintro e w1 ⟨rfl, rfl⟩) | (go_at_call 39; refine (result_any _ _ _).mono ?_; rintro e w1 ⟨rfl, x, rfl⟩))
    refine bodyPost_ret (by simp only [results, Try.results55]; go_simp; rfl) rfl ?_
    refine ⟨rfl, ?_⟩
    (repeat (first | exact Kept.refl _ | assumption | refine Kept.alloc ?_ _ | refine Kept.ext ?_ _ | refine Kept.drew ?_ | refine Kept.drewN ?_ _))
end Go.Proofs.Ytodmdicegkjicaa

namespace Go.Proofs.Ytodmdicegkjicaa
set_option linter.unusedVariables false
set_option linter.unusedSimpArgs false
open Go.ChangeShapes Go.WideShapes Go.ChangeAt Go.RowKit
def inverseS (n s : Int) : R := if (1 ≤ n ∧ n ≤ 1099511627776) ∧ (1 ≤ s ∧ s ≤ 8) then invS (s * s * 1099511627776) n else ⟨0, 0, 1⟩
set_option maxRecDepth 100000 in
set_option maxHeartbeats 4000000 in
theorem spanInv_any (n s : Int) (w : World) :
    Calls Try.prog 36 #[.int .i64 n, .int .i64 s] w fun e w' => e = .returned (.tuple #[.agg #[.int .i64 (inverseS n s).lo, .int .i64 (inverseS n s).hi], .int .i64 (inverseS n s).e]) ∧ Kept w w' := by
  by_cases a1 : n < 1
  · skip
    have e : inverseS n s = ⟨0, 0, 1⟩ := if_neg (by omega)
    rw [e]
    clear e
    go_enter Try.func36, Try.ntmps36
    go_wp2_with (first | (go_at_call 55; refine (inverse_any _ _ _ ⟨⟨by omega, by omega⟩, by omega, by omega⟩).mono ?_; rintro e w1 ⟨rfl, x, rfl⟩))
    all_goals (refine bodyPost_ret (by simp only [results, Try.results36]; go_simp; rfl) rfl ?_; refine ⟨rfl, ?_⟩; (repeat (first | exact Kept.refl _ | assumption | refine Kept.alloc ?_ _ | refine Kept.ext ?_ _ | refine Kept.drew ?_ | refine Kept.drewN ?_ _)))
  by_cases a2 : 1099511627776 < n
  · skip
    have e : inverseS n s = ⟨0, 0, 1⟩ := if_neg (by omega)
    rw [e]
    clear e
    go_enter Try.func36, Try.ntmps36
    go_wp2_with (first | (go_at_call 55; refine (inverse_any _ _ _ ⟨⟨by omega, by omega⟩, by omega, by omega⟩).mono ?_; rintro e w1 ⟨rfl, x, rfl⟩))
    all_goals (refine bodyPost_ret (by simp only [results, Try.results36]; go_simp; rfl) rfl ?_; refine ⟨rfl, ?_⟩; (repeat (first | exact Kept.refl _ | assumption | refine Kept.alloc ?_ _ | refine Kept.ext ?_ _ | refine Kept.drew ?_ | refine Kept.drewN ?_ _)))
  by_cases a3 : s < 1
  · skip
    have e : inverseS n s = ⟨0, 0, 1⟩ := if_neg (by omega)
    rw [e]
    clear e
    go_enter Try.func36, Try.ntmps36
    go_wp2_with (first | (go_at_call 55; refine (inverse_any _ _ _ ⟨⟨by omega, by omega⟩, by omega, by omega⟩).mono ?_; rintro e w1 ⟨rfl, x, rfl⟩))
    all_goals (refine bodyPost_ret (by simp only [results, Try.results36]; go_simp; rfl) rfl ?_; refine ⟨rfl, ?_⟩; (repeat (first | exact Kept.refl _ | assumption | refine Kept.alloc ?_ _ | refine Kept.ext ?_ _ | refine Kept.drew ?_ | refine Kept.drewN ?_ _)))
  by_cases a4 : 8 < s
  · skip
    have e : inverseS n s = ⟨0, 0, 1⟩ := if_neg (by omega)
    rw [e]
    clear e
    go_enter Try.func36, Try.ntmps36
    go_wp2_with (first | (go_at_call 55; refine (inverse_any _ _ _ ⟨⟨by omega, by omega⟩, by omega, by omega⟩).mono ?_; rintro e w1 ⟨rfl, x, rfl⟩))
    all_goals (refine bodyPost_ret (by simp only [results, Try.results36]; go_simp; rfl) rfl ?_; refine ⟨rfl, ?_⟩; (repeat (first | exact Kept.refl _ | assumption | refine Kept.alloc ?_ _ | refine Kept.ext ?_ _ | refine Kept.drew ?_ | refine Kept.drewN ?_ _)))
  have e : inverseS n s = invS (s * s * 1099511627776) n := if_pos (by omega)
  rw [e]
  clear e
  rcases (show s = 1 ∨ s = 2 ∨ s = 3 ∨ s = 4 ∨ s = 5 ∨ s = 6 ∨ s = 7 ∨ s = 8 by omega) with rfl | rfl | rfl | rfl | rfl | rfl | rfl | rfl <;> simp only [Int.reduceMul]
  all_goals
    go_enter Try.func36, Try.ntmps36
    go_wp2_with (first | (go_at_call 55; refine (inverse_any _ _ _ ⟨⟨by omega, by omega⟩, by omega, by omega⟩).mono ?_; rintro e w1 ⟨rfl, x, rfl⟩))
    refine bodyPost_ret (by simp only [results, Try.results36]; go_simp; rfl) rfl ?_
    refine ⟨rfl, ?_⟩
    (repeat (first | exact Kept.refl _ | assumption | refine Kept.alloc ?_ _ | refine Kept.ext ?_ _ | refine Kept.drew ?_ | refine Kept.drewN ?_ _))
end Go.Proofs.Ytodmdicegkjicaa

namespace Go.Proofs.Ytodmdicegkjicaa
set_option linter.unusedVariables false
set_option linter.unusedSimpArgs false
open Go.RowKit
def Pn.at (p : Pn) (i c : Nat) : Int :=
  if i = 0 then (if c = 0 then p.a0 else if c = 1 then p.a1 else p.a2) else if i = 1 then (if c = 0 then p.b0 else if c = 1 then p.b1 else p.b2) else (if c = 0 then p.c0 else if c = 1 then p.c1 else p.c2)
def Pn.nx (p : Pn) : Int := nX p.a0 p.a1 p.a2 p.b0 p.b1 p.b2 p.c0 p.c1 p.c2
def Pn.ny (p : Pn) : Int := nY p.a0 p.a1 p.a2 p.b0 p.b1 p.b2 p.c0 p.c1 p.c2
def Pn.nz (p : Pn) : Int := nZ p.a0 p.a1 p.a2 p.b0 p.b1 p.b2 p.c0 p.c1 p.c2
def Pn.nn (p : Pn) : Int := p.nx * p.nx + p.ny * p.ny + p.nz * p.nz
theorem farJ_mono (P Q : Nat → Nat → Int) (i : Nat) (out : Int) : ∀ m, out ≤ farJ P Q i out m ∧ ∀ j, j < m → sq3 (P i 0) (P i 1) (P i 2) (Q j 0) (Q j 1) (Q j 2) ≤ farJ P Q i out m
  | 0 => ⟨Int.le_refl _, fun j h => absurd h (by omega)⟩
  | m + 1 => by
    obtain ⟨h1, h2⟩ := farJ_mono P Q i out m
    unfold farJ
    refine ⟨by omega, fun j hj => ?_⟩
    by_cases e : j = m
    · subst e; omega
    · have := h2 j (by omega)
      omega
theorem farI_ge (P Q : Nat → Nat → Int) (m : Nat) : ∀ n i j, i < n → j < m → sq3 (P i 0) (P i 1) (P i 2) (Q j 0) (Q j 1) (Q j 2) ≤ farI P Q m n
  | 0, i, j, hi, _ => absurd hi (by omega)
  | n + 1, i, j, hi, hj => by
    unfold farI
    obtain ⟨h1, h2⟩ := farJ_mono P Q n (farI P Q m n) m
    by_cases e : i = n
    · subst e
      exact h2 j hj
    · have := farI_ge P Q m n i j (by omega) hj
      omega
theorem loB_le (P : Nat → Nat → Int) (c : Nat) : ∀ k i, i < k → loB P c k ≤ P i c ∧ P i c ≤ hiB P c k
  | 0, i, h => absurd h (by omega)
  | k + 1, i, h => by
    unfold loB hiB
    by_cases e : i = k
    · subst e; omega
    · have := loB_le P c k i (by omega)
      omega
theorem sq_le {a b : Int} (h : (a ≤ b ∧ 0 ≤ a) ∨ (a ≤ -b ∧ 0 ≤ a)) : a * a ≤ b * b := by
  rcases h with ⟨h1, h2⟩ | ⟨h1, h2⟩
  · exact Int.mul_le_mul h1 h1 h2 (by omega)
  · have := Int.mul_le_mul h1 h1 h2 (by omega)
    rwa [Int.neg_mul_neg] at this
theorem near_far {P Q : Nat → Nat → Int} {n m : Nat} (hn : 0 < n) (hm : 0 < m) : nearP P n Q m ≤ farI P Q m n := by
  have f := farI_ge P Q m n 0 0 hn hm
  have g : ∀ c, gapS (loB P c n) (hiB P c n) (loB Q c m) (hiB Q c m) * gapS (loB P c n) (hiB P c n) (loB Q c m) (hiB Q c m) ≤ (P 0 c - Q 0 c) * (P 0 c - Q 0 c) := fun c => by
    have h1 := loB_le P c n 0 hn
    have h2 := loB_le Q c m 0 hm
    refine sq_le ?_
    unfold gapS
    omega
  have g0 := g 0
  have g1 := g 1
  have g2 := g 2
  unfold sq3 at f
  unfold nearP
  omega
end Go.Proofs.Ytodmdicegkjicaa

namespace Go.Proofs.Ytodmdicegkjicaa
set_option linter.unusedVariables false
set_option linter.unusedSimpArgs false
open Go.RowKit
def sumP (g : Pn → Int) : List Pn → Int
  | [] => 0
  | x :: r => g x + sumP g r
theorem sumP_app (g : Pn → Int) : ∀ a b : List Pn, sumP g (a ++ b) = sumP g a + sumP g b
  | [], b => by simp [sumP]
  | x :: a, b => by
    show g x + sumP g (a ++ b) = g x + sumP g a + sumP g b
    rw [sumP_app g a b]
    omega
theorem sumP_snoc (g : Pn → Int) (a : List Pn) (x : Pn) : sumP g (a ++ [x]) = sumP g a + g x := by
  rw [sumP_app]
  simp [sumP]
theorem sumP_bd {g h : Pn → Int} {t : Int} : ∀ {l : List Pn}, (∀ x ∈ l, 0 ≤ g x ∧ g x ≤ h x ∧ h x ≤ t) → 0 ≤ sumP g l ∧ sumP g l ≤ sumP h l ∧ sumP h l ≤ (l.length : Int) * t
  | [], _ => by simp [sumP]
  | x :: l, hx => by
    have h1 := hx x (by simp)
    have h2 := sumP_bd (l := l) (fun y hy => hx y (List.mem_cons_of_mem _ hy))
    have e : ((x :: l).length : Int) * t = (l.length : Int) * t + t := by
      rw [List.length_cons, Int.natCast_add, Int.add_mul]
      simp
    rw [e]
    show 0 ≤ g x + sumP g l ∧ g x + sumP g l ≤ h x + sumP h l ∧ h x + sumP h l ≤ _
    omega
theorem Pn.near1 {p : Pn} {m : Int} (h : p.bd m) (hm : m ≤ 1024) : Near1 p.at 3 := by
  obtain ⟨⟨a, b, c⟩, ⟨d, e, f⟩, g, i, j⟩ := h
  intro k hk
  rcases (show k = 0 ∨ k = 1 ∨ k = 2 by omega) with rfl | rfl | rfl
  · show (-4096 ≤ p.a0 ∧ p.a0 ≤ 4096) ∧ (-4096 ≤ p.a1 ∧ p.a1 ≤ 4096) ∧ (-4096 ≤ p.a2 ∧ p.a2 ≤ 4096)
    omega
  · show (-4096 ≤ p.b0 ∧ p.b0 ≤ 4096) ∧ (-4096 ≤ p.b1 ∧ p.b1 ≤ 4096) ∧ (-4096 ≤ p.b2 ∧ p.b2 ≤ 4096)
    omega
  · show (-4096 ≤ p.c0 ∧ p.c0 ≤ 4096) ∧ (-4096 ≤ p.c1 ∧ p.c1 ≤ 4096) ∧ (-4096 ≤ p.c2 ∧ p.c2 ≤ 4096)
    omega
end Go.Proofs.Ytodmdicegkjicaa

namespace Go.Proofs.Ytodmdicegkjicaa
set_option linter.unusedVariables false
set_option linter.unusedSimpArgs false
open Go.RowKit
/-- A point as a list of one point. -/
def ptF (x0 x1 x2 : Int) (_ c : Nat) : Int := if c = 0 then x0 else if c = 1 then x1 else x2
def lowX (d : Nat) (x0 x1 x2 : Int) (P : Pn) : Int := (inverseS (farI P.at (ptF x0 x1 x2) 1 3) (2 ^ d)).lo
def higX (d : Nat) (x0 x1 x2 : Int) (P : Pn) : Int := (inverseS (nearP P.at 3 (ptF x0 x1 x2) 1) (2 ^ d)).hi
theorem gap_two {l h x m : Int} (h1 : 2 * l ≤ m) (h2 : m ≤ 2 * h) : 4 * (gapS l h x x * gapS l h x x) ≤ (2 * x - m) * (2 * x - m) := by
  have e : 4 * (gapS l h x x * gapS l h x x) = (2 * gapS l h x x) * (2 * gapS l h x x) := by grind
  rw [e]
  apply sq_le
  unfold gapS
  omega
theorem sqv_neg (a b c : Int) : sqv (-a) (-b) (-c) = sqv a b c := by
  unfold sqv
  grind
theorem near_mid (P : Pn) (x0 x1 x2 : Int) : ∀ y ∈ mids P, 4 * nearP P.at 3 (ptF x0 x1 x2) 1 ≤ sqv (2 * x0 - y.x) (2 * x1 - y.y) (2 * x2 - y.z) ∧ sqv (2 * x0 - y.x) (2 * x1 - y.y) (2 * x2 - y.z) ≤ 4 * farI P.at (ptF x0 x1 x2) 1 3 := by
  have fa : sqv (P.a0 - x0) (P.a1 - x1) (P.a2 - x2) ≤ farI P.at (ptF x0 x1 x2) 1 3 := farI_ge P.at (ptF x0 x1 x2) 1 3 0 0 (by omega) (by omega)
  have fb : sqv (P.b0 - x0) (P.b1 - x1) (P.b2 - x2) ≤ farI P.at (ptF x0 x1 x2) 1 3 := farI_ge P.at (ptF x0 x1 x2) 1 3 1 0 (by omega) (by omega)
  have fc : sqv (P.c0 - x0) (P.c1 - x1) (P.c2 - x2) ≤ farI P.at (ptF x0 x1 x2) 1 3 := farI_ge P.at (ptF x0 x1 x2) 1 3 2 0 (by omega) (by omega)
  have nr : ∀ m0 m1 m2 : Int, (2 * loB P.at 0 3 ≤ m0 ∧ m0 ≤ 2 * hiB P.at 0 3) → (2 * loB P.at 1 3 ≤ m1 ∧ m1 ≤ 2 * hiB P.at 1 3) → (2 * loB P.at 2 3 ≤ m2 ∧ m2 ≤ 2 * hiB P.at 2 3) → 4 * nearP P.at 3 (ptF x0 x1 x2) 1 ≤ sqv (2 * x0 - m0) (2 * x1 - m1) (2 * x2 - m2) := fun m0 m1 m2 h0 h1 h2 => by
    have g0 := gap_two (x := x0) h0.1 h0.2
    have g1 := gap_two (x := x1) h1.1 h1.2
    have g2 := gap_two (x := x2) h2.1 h2.2
    have e0 : loB (ptF x0 x1 x2) 0 1 = x0 ∧ hiB (ptF x0 x1 x2) 0 1 = x0 := ⟨Int.min_self _, Int.max_self _⟩
    have e1 : loB (ptF x0 x1 x2) 1 1 = x1 ∧ hiB (ptF x0 x1 x2) 1 1 = x1 := ⟨Int.min_self _, Int.max_self _⟩
    have e2 : loB (ptF x0 x1 x2) 2 1 = x2 ∧ hiB (ptF x0 x1 x2) 2 1 = x2 := ⟨Int.min_self _, Int.max_self _⟩
    unfold nearP sqv
    rw [e0.1, e0.2, e1.1, e1.2, e2.1, e2.2]
    omega
  have l0 : ∀ c, _ := fun c => loB_le P.at c 3 0 (by omega)
  have l1 : ∀ c, _ := fun c => loB_le P.at c 3 1 (by omega)
  have l2 : ∀ c, _ := fun c => loB_le P.at c 3 2 (by omega)
  have a0 : loB P.at 0 3 ≤ P.a0 ∧ P.a0 ≤ hiB P.at 0 3 := l0 0
  have a1 : loB P.at 1 3 ≤ P.a1 ∧ P.a1 ≤ hiB P.at 1 3 := l0 1
  have a2 : loB P.at 2 3 ≤ P.a2 ∧ P.a2 ≤ hiB P.at 2 3 := l0 2
  have b0 : loB P.at 0 3 ≤ P.b0 ∧ P.b0 ≤ hiB P.at 0 3 := l1 0
  have b1 : loB P.at 1 3 ≤ P.b1 ∧ P.b1 ≤ hiB P.at 1 3 := l1 1
  have b2 : loB P.at 2 3 ≤ P.b2 ∧ P.b2 ≤ hiB P.at 2 3 := l1 2
  have c0 : loB P.at 0 3 ≤ P.c0 ∧ P.c0 ≤ hiB P.at 0 3 := l2 0
  have c1 : loB P.at 1 3 ≤ P.c1 ∧ P.c1 ≤ hiB P.at 1 3 := l2 1
  have c2 : loB P.at 2 3 ≤ P.c2 ∧ P.c2 ≤ hiB P.at 2 3 := l2 2
  have fr : ∀ a b : V3, sqv (a.x - x0) (a.y - x1) (a.z - x2) ≤ farI P.at (ptF x0 x1 x2) 1 3 → sqv (b.x - x0) (b.y - x1) (b.z - x2) ≤ farI P.at (ptF x0 x1 x2) 1 3 → sqv (2 * x0 - (a.x + b.x)) (2 * x1 - (a.y + b.y)) (2 * x2 - (a.z + b.z)) ≤ 4 * farI P.at (ptF x0 x1 x2) 1 3 := fun a b ha hb => by
    have h := sqv_mid ha hb
    rw [← sqv_neg] at h
    have e : ∀ p q x : Int, -(p - x + (q - x)) = 2 * x - (p + q) := fun p q x => by omega
    rw [e, e, e] at h
    exact h
  intro y hy
  unfold mids at hy
  simp only [List.mem_cons, List.not_mem_nil, or_false] at hy
  rcases hy with rfl | rfl | rfl
  · exact ⟨nr _ _ _ (by dsimp only; omega) (by dsimp only; omega) (by dsimp only; omega), fr ⟨P.a0, P.a1, P.a2⟩ ⟨P.b0, P.b1, P.b2⟩ fa fb⟩
  · exact ⟨nr _ _ _ (by dsimp only; omega) (by dsimp only; omega) (by dsimp only; omega), fr ⟨P.b0, P.b1, P.b2⟩ ⟨P.c0, P.c1, P.c2⟩ fb fc⟩
  · exact ⟨nr _ _ _ (by dsimp only; omega) (by dsimp only; omega) (by dsimp only; omega), fr ⟨P.c0, P.c1, P.c2⟩ ⟨P.a0, P.a1, P.a2⟩ fc fa⟩
theorem inv_k8 {t n : Int} (h : (0 ≤ t ∧ t ≤ 70368744177664) ∧ 1 ≤ n) : (invS t n).e = 0 ∧ 0 ≤ (invS t n).lo ∧ (invS t n).lo ≤ (invS t n).hi ∧ (invS t n).hi ≤ 8388609 ∧ (invS t n).lo * (invS t n).lo * n ≤ t ∧ t ≤ (invS t n).hi * (invS t n).hi * n := by
  obtain ⟨⟨t0, t1⟩, n0⟩ := h
  have d0 : 0 ≤ t / n := Int.ediv_nonneg t0 (by omega)
  have d1 : t / n ≤ t := Int.ediv_le_self _ t0
  obtain ⟨s0, s1, s2⟩ := sqrtS_spec d0
  have s3 : sqrtS (t / n) ≤ 8388608 := of_sq_le (by decide) (by omega)
  have m1 : t / n * n ≤ t := Int.ediv_mul_le _ (by omega)
  have m2 : t < (t / n + 1) * n := Int.lt_ediv_add_one_mul_self _ (by omega)
  have k1 := Int.mul_le_mul_of_nonneg_right s1 (show (0 : Int) ≤ n by omega)
  have k2 := Int.mul_le_mul_of_nonneg_right (show t / n + 1 ≤ (sqrtS (t / n) + 1) * (sqrtS (t / n) + 1) by omega) (show (0 : Int) ≤ n by omega)
  have key : ∀ a b : Int, 0 ≤ a → a ≤ b → b ≤ 8388609 → resultS a b = ⟨a, b, 0⟩ := fun a b h1 h2 h3 => by
    unfold resultS
    rw [if_pos (show validB a b = true from decide_eq_true (by omega))]
  unfold invS
  split
  · rename_i e
    rw [key _ _ s0 (Int.le_refl _) (by omega)]
    exact ⟨rfl, s0, Int.le_refl _, by simp only; omega, by simp only; omega, by simp only; omega⟩
  · rw [key _ _ s0 (by omega) (by omega)]
    exact ⟨rfl, s0, by simp only; omega, by simp only; omega, by simp only; omega, by simp only; omega⟩
theorem inverse_k {n : Int} {d : Nat} (hn : 1 ≤ n ∧ n ≤ 1099511627776) (hd : d ≤ 3) : (inverseS n (2 ^ d)).e = 0 ∧ 0 ≤ (inverseS n (2 ^ d)).lo ∧ (inverseS n (2 ^ d)).lo ≤ (inverseS n (2 ^ d)).hi ∧ (inverseS n (2 ^ d)).hi ≤ 8388609 ∧ (inverseS n (2 ^ d)).lo * (inverseS n (2 ^ d)).lo * n ≤ 2 ^ d * 2 ^ d * 1099511627776 ∧ 2 ^ d * 2 ^ d * 1099511627776 ≤ (inverseS n (2 ^ d)).hi * (inverseS n (2 ^ d)).hi * n := by
  have hs : (1 : Int) ≤ 2 ^ d ∧ (2 : Int) ^ d ≤ 8 ∧ (2 : Int) ^ d * 2 ^ d ≤ 64 := by
    rcases (show d = 0 ∨ d = 1 ∨ d = 2 ∨ d = 3 by omega) with rfl | rfl | rfl | rfl <;> decide
  have h0 : (0 : Int) ≤ 2 ^ d * 2 ^ d := Int.mul_nonneg (by omega) (by omega)
  unfold inverseS
  rw [if_pos ⟨hn, hs.1, hs.2.1⟩]
  exact inv_k8 ⟨⟨by omega, by omega⟩, hn.1⟩
/-- A point's distance lies between the bounds that the part has. -/
theorem brack {lo hi N F D : Int} {S : Rat} (hS : 0 < S) {W : Int} (hW : (W : Rat) = S * S * 1099511627776) (hl : lo * lo * F ≤ W) (hh : W ≤ hi * hi * N) (h1 : 4 * N ≤ D) (h2 : D ≤ 4 * F) :
    ((lo : Rat) / 1048576) ^ 2 * ((D : Rat) / ((2 * S) * (2 * S))) ≤ 1 ∧ 1 ≤ ((hi : Rat) / 1048576) ^ 2 * ((D : Rat) / ((2 * S) * (2 * S))) := by
  have l1 := cast_le hl
  have l2 := cast_le hh
  have l3 := cast_le h1
  have l4 := cast_le h2
  rw [Rat.intCast_mul, Rat.intCast_mul, hW] at l1 l2
  rw [Rat.intCast_mul] at l3 l4
  have e4 : (((4 : Int)) : Rat) = 4 := rfl
  rw [e4] at l3 l4
  have SS := Rat.mul_pos (Rat.mul_pos (show (0 : Rat) < 2 by decide) hS) (Rat.mul_pos (show (0 : Rat) < 2 by decide) hS)
  have k : (D : Rat) / ((2 * S) * (2 * S)) * ((2 * S) * (2 * S)) = D := Rat.div_mul_cancel (Rat.ne_of_gt SS)
  have m1 := Rat.mul_le_mul_of_nonneg_left l4 (sqn (lo : Rat))
  have m2 := Rat.mul_le_mul_of_nonneg_left l3 (sqn (hi : Rat))
  generalize (D : Rat) / ((2 * S) * (2 * S)) = q at *
  rw [← k] at m1 m2
  generalize (lo : Rat) = x at *
  generalize (hi : Rat) = y at *
  clear l3 l4 k hl hh h1 h2
  have e1 : (x / 1048576) ^ 2 = x ^ 2 / 1099511627776 := by grind
  have e2 : (y / 1048576) ^ 2 = y ^ 2 / 1099511627776 := by grind
  have S2 := Rat.mul_pos hS hS
  constructor
  · refine cancel_pos S2 ?_
    rw [e1]
    grind
  · refine cancel_pos S2 ?_
    rw [e2]
    grind
theorem sm_map {α β : Type} (g : β → Rat) (f : α → β) : ∀ l : List α, sm g (l.map f) = sm (fun x => g (f x)) l
  | [] => rfl
  | x :: l => by
    show g (f x) + sm g (l.map f) = _
    rw [sm_map g f l]
    rfl
theorem mids_sh {P : Pn} {C0 C1 C2 : Int} : ∀ y ∈ mids (P.sh C0 C1 C2), (⟨y.x + 2 * C0, y.y + 2 * C1, y.z + 2 * C2⟩ : V3) ∈ mids P := by
  intro y hy
  unfold mids Pn.sh at *
  simp only [List.mem_cons, List.not_mem_nil, or_false] at hy ⊢
  rcases hy with rfl | rfl | rfl
  · left
    simp only [V3.mk.injEq]
    omega
  · right; left
    simp only [V3.mk.injEq]
    omega
  · right; right
    simp only [V3.mk.injEq]
    omega
theorem cauchy (u0 u1 u2 y0 y1 y2 : Int) : (u0 * y0 + u1 * y1 + u2 * y2) * (u0 * y0 + u1 * y1 + u2 * y2) ≤ (u0 * u0 + u1 * u1 + u2 * u2) * sqv y0 y1 y2 := by
  have h1 := isq (u0 * y1 - u1 * y0)
  have h2 := isq (u0 * y2 - u2 * y0)
  have h3 := isq (u1 * y2 - u2 * y1)
  unfold sqv
  grind
end Go.Proofs.Ytodmdicegkjicaa

namespace Go.Proofs.Ytodmdicegkjicaa
set_option linter.unusedVariables false
set_option linter.unusedSimpArgs false
open Go.RowKit
theorem eq_cancel {a x y : Rat} (ha : 0 < a) (h : x * a = y * a) : x = y :=
  Rat.le_antisymm (cancel_pos ha (by rw [Rat.mul_comm a, Rat.mul_comm a, h]; exact Rat.le_refl)) (cancel_pos ha (by rw [Rat.mul_comm a, Rat.mul_comm a, h]; exact Rat.le_refl))
def n3 (u0 u1 u2 : Int) : Int := u0 * u0 + u1 * u1 + u2 * u2
/-- What holds of a middle of a part of a panel, seen from the center. -/
theorem mid_facts {u0 u1 u2 g a r : Int} {d : Nat} {y : V3} (hn : 1 ≤ n3 u0 u1 u2) (ha : 0 ≤ a) (hr : a < r) (hr2 : r * r ≤ n3 u0 u1 u2 * 1099511627776) (ha2 : g * 1099511627776 ≤ a * a) (hy : sqv y.x y.y y.z ≤ 4 * (4 ^ d * g)) :
    Xy u0 u1 u2 (tT d) (n3 u0 u1 u2 : Int) y ^ 2 ≤ My (tT d) (n3 u0 u1 u2 : Int) y ∧ My (tT d) (n3 u0 u1 u2 : Int) y ≤ ((a : Rat) / r) ^ 2 ∧
    ((n3 u0 u1 u2 : Int) : Rat) * (1 - 2 * Xy u0 u1 u2 (tT d) (n3 u0 u1 u2 : Int) y + My (tT d) (n3 u0 u1 u2 : Int) y) = ((sqv (2 * 2 ^ d * u0 - y.x) (2 * 2 ^ d * u1 - y.y) (2 * 2 ^ d * u2 - y.z) : Int) : Rat) / ((2 * 2 ^ d) * (2 * 2 ^ d)) := by
  have hS : (0 : Rat) < tT d := by unfold tT; have := p2_pos d; grind
  have hn' : (0 : Rat) < (n3 u0 u1 u2 : Int) := Rat.intCast_lt_intCast.2 (show (0 : Int) < _ by omega)
  have hr' : (0 : Rat) < r := Rat.intCast_lt_intCast.2 (show (0 : Int) < r by omega)
  have k1 : (u0 * y.x + u1 * y.y + u2 * y.z : Rat) / (tT d * (n3 u0 u1 u2 : Int)) * (tT d * (n3 u0 u1 u2 : Int)) = (u0 * y.x + u1 * y.y + u2 * y.z : Rat) := Rat.div_mul_cancel (Rat.ne_of_gt (Rat.mul_pos hS hn'))
  have k2 : ((y.x : Rat) * y.x + y.y * y.y + y.z * y.z) / (tT d * tT d * (n3 u0 u1 u2 : Int)) * (tT d * tT d * (n3 u0 u1 u2 : Int)) = ((y.x : Rat) * y.x + y.y * y.y + y.z * y.z) := Rat.div_mul_cancel (Rat.ne_of_gt (Rat.mul_pos (Rat.mul_pos hS hS) hn'))
  have k3 : (a : Rat) / r * r = a := Rat.div_mul_cancel (Rat.ne_of_gt hr')
  have c1 := cast_le (cauchy u0 u1 u2 y.x y.y y.z)
  have c2 := cast_le hy
  have c3 := cast_le hr2
  have c4 := cast_le ha2
  have cn : ((n3 u0 u1 u2 : Int) : Rat) = u0 * u0 + u1 * u1 + u2 * u2 := by unfold n3; push_cast; rfl
  have cs : ((sqv y.x y.y y.z : Int) : Rat) = (y.x : Rat) * y.x + y.y * y.y + y.z * y.z := by unfold sqv; push_cast; rfl
  have c1' : (u0 * y.x + u1 * y.y + u2 * y.z : Rat) ^ 2 ≤ ((n3 u0 u1 u2 : Int) : Rat) * ((sqv y.x y.y y.z : Int) : Rat) := by
    rw [cn]
    push_cast at c1
    grind
  have cd : ((sqv (2 * 2 ^ d * u0 - y.x) (2 * 2 ^ d * u1 - y.y) (2 * 2 ^ d * u2 - y.z) : Int) : Rat) = (tT d * u0 - y.x) * (tT d * u0 - y.x) + (tT d * u1 - y.y) * (tT d * u1 - y.y) + (tT d * u2 - y.z) * (tT d * u2 - y.z) := by
    unfold sqv tT
    push_cast
    rfl
  have e4 : ((4 * (4 ^ d * g) : Int) : Rat) = tT d * tT d * g := by
    have := (pow_48 d).1
    unfold tT
    push_cast
    rw [this]
    grind
  have eB : (((1099511627776 : Int)) : Rat) = 1099511627776 := rfl
  rw [e4] at c2
  rw [Rat.intCast_mul, Rat.intCast_mul, eB] at c3 c4
  have kD : ((sqv (2 * 2 ^ d * u0 - y.x) (2 * 2 ^ d * u1 - y.y) (2 * 2 ^ d * u2 - y.z) : Int) : Rat) / ((2 * 2 ^ d) * (2 * 2 ^ d)) * (tT d * tT d) = ((sqv (2 * 2 ^ d * u0 - y.x) (2 * 2 ^ d * u1 - y.y) (2 * 2 ^ d * u2 - y.z) : Int) : Rat) := Rat.div_mul_cancel (Rat.ne_of_gt (Rat.mul_pos hS hS))
  rw [cd] at kD ⊢
  rw [← cs] at k2
  unfold Xy My
  rw [← cs]
  generalize ((sqv y.x y.y y.z : Int) : Rat) = Y at *
  generalize (u0 * y.x + u1 * y.y + u2 * y.z : Rat) / (tT d * (n3 u0 u1 u2 : Int)) = X at *
  generalize Y / (tT d * tT d * (n3 u0 u1 u2 : Int)) = M at *
  generalize (a : Rat) / r = t at *
  have SS := Rat.mul_pos hS hS
  refine ⟨?_, ?_, ?_⟩
  · refine cancel_pos (a := (tT d * tT d) * (((n3 u0 u1 u2 : Int) : Rat) * ((n3 u0 u1 u2 : Int) : Rat))) (Rat.mul_pos SS (Rat.mul_pos hn' hn')) ?_
    have h1 : (tT d * tT d) * (((n3 u0 u1 u2 : Int) : Rat) * ((n3 u0 u1 u2 : Int) : Rat)) * X ^ 2 = (X * (tT d * ((n3 u0 u1 u2 : Int) : Rat))) ^ 2 := by grind
    rw [h1, k1]
    have h2 : (tT d * tT d) * (((n3 u0 u1 u2 : Int) : Rat) * ((n3 u0 u1 u2 : Int) : Rat)) * M = ((n3 u0 u1 u2 : Int) : Rat) * (M * (tT d * tT d * ((n3 u0 u1 u2 : Int) : Rat))) := by grind
    rw [h2, k2]
    exact c1'
  · refine cancel_pos (a := (tT d * tT d) * (((n3 u0 u1 u2 : Int) : Rat) * 1099511627776)) (Rat.mul_pos SS (Rat.mul_pos hn' (by decide))) ?_
    have h1 : (tT d * tT d) * (((n3 u0 u1 u2 : Int) : Rat) * 1099511627776) * M = 1099511627776 * (M * (tT d * tT d * ((n3 u0 u1 u2 : Int) : Rat))) := by grind
    rw [h1, k2]
    have h2 : (1099511627776 : Rat) * Y ≤ 1099511627776 * (tT d * tT d * g) := Rat.mul_le_mul_of_nonneg_left c2 (by decide)
    have h3 : (tT d * tT d) * ((g : Rat) * 1099511627776) ≤ (tT d * tT d) * ((a : Rat) * a) := Rat.mul_le_mul_of_nonneg_left c4 (Rat.le_of_lt SS)
    have h4 : (tT d * tT d * t ^ 2) * ((r : Rat) * r) ≤ (tT d * tT d * t ^ 2) * (((n3 u0 u1 u2 : Int) : Rat) * 1099511627776) := Rat.mul_le_mul_of_nonneg_left c3 (Rat.mul_nonneg (Rat.le_of_lt SS) (sqn t))
    rw [← k3] at h3
    clear k1 k2 kD c1 c1' c3 c4 hr2 ha2 hy hS hn' hr'
    grind
  · refine eq_cancel SS ?_
    · rw [kD]
      have h1 : ((n3 u0 u1 u2 : Int) : Rat) * (1 - 2 * X + M) * (tT d * tT d) = ((n3 u0 u1 u2 : Int) : Rat) * (tT d * tT d) - 2 * tT d * (X * (tT d * ((n3 u0 u1 u2 : Int) : Rat))) + M * (tT d * tT d * ((n3 u0 u1 u2 : Int) : Rat)) := by grind
      rw [h1, k1, k2, cn, cs]
      grind
theorem pick {α β : Type} (Q : α → β → Rat → Prop) : ∃ f : α → β → Rat, ∀ x y, (∃ z, Q x y z) → Q x y (f x y) := by
  classical
  refine ⟨fun x y => if h : ∃ z, Q x y z then Classical.choose h else 0, fun x y h => ?_⟩
  show Q x y (if h : ∃ z, Q x y z then Classical.choose h else 0)
  rw [dif_pos h]
  exact Classical.choose_spec h
theorem sumP_cast (g : Pn → Int) : ∀ l : List Pn, ((sumP g l : Int) : Rat) = sm (fun x => (g x : Rat)) l
  | [] => rfl
  | x :: l => by
    show ((g x + sumP g l : Int) : Rat) = _
    rw [Rat.intCast_add, sumP_cast g l]
    rfl
theorem sm_mem {α : Type} {g : α → Rat} {lo hi : Rat} : ∀ {l : List α}, (∀ x ∈ l, lo ≤ g x ∧ g x ≤ hi) → lo * (l.length : Nat) ≤ sm g l ∧ sm g l ≤ hi * (l.length : Nat) := fun {l} h => by
  have h1 := sm_le (g := fun _ => lo) (h := g) (l := l) fun x hx => (h x hx).1
  have h2 := sm_le (g := g) (h := fun _ => hi) (l := l) fun x hx => (h x hx).2
  rw [sm_const] at h1 h2
  exact ⟨h1, h2⟩
theorem mids_len (P : Pn) : (mids P).length = 3 := rfl
/-- What a panel is worth at a point. -/
theorem pan_z {u0 u1 u2 c0 c1 c2 g a r : Int} {d : Nat} {p : Pn} {e ρ : Rat} (hd : d ≤ 3) (hn : 1 ≤ n3 u0 u1 u2) (ha : 0 ≤ a) (hr : a < r) (hr2 : r * r ≤ n3 u0 u1 u2 * 1099511627776) (ha2 : g * 1099511627776 ≤ a * a) (hp : (p.sh c0 c1 c2).inS g)
    (he : 0 < e) (he2 : e ≤ 1 / 4) (he3 : 2 * e ≤ (1 - (a : Rat) / r) ^ 2) (hρ : 0 ≤ ρ) (h1 : 1 - e ≤ ρ ^ 2 * (n3 u0 u1 u2 : Int)) (h2 : ρ ^ 2 * (n3 u0 u1 u2 : Int) ≤ 1 + e) :
    ∃ W : Rat, ((∀ P ∈ cutL d p, 1 ≤ nearP P.at 3 (ptF (2 ^ d * (c0 + u0)) (2 ^ d * (c1 + u1)) (2 ^ d * (c2 + u2))) 1 ∧ farI P.at (ptF (2 ^ d * (c0 + u0)) (2 ^ d * (c1 + u1)) (2 ^ d * (c2 + u2))) 1 3 ≤ 1099511627776) → enc (sumP (lowX d (2 ^ d * (c0 + u0)) (2 ^ d * (c1 + u1)) (2 ^ d * (c2 + u2))) (cutL d p)) (sumP (higX d (2 ^ d * (c0 + u0)) (2 ^ d * (c1 + u1)) (2 ^ d * (c2 + u2))) (cutL d p)) (1048576 * W * 4 ^ d)) ∧
      ∀ j, j ≤ 2 → W ≤ ρ * oneS u0 u1 u2 (n3 u0 u1 u2 : Int) (p.sh c0 c1 c2) j + (fT ((a : Rat) / r) j / ((r : Rat) / 1048576) + cC ((a : Rat) / r) ((r : Rat) / 1048576) j * e) ∧ ρ * oneS u0 u1 u2 (n3 u0 u1 u2 : Int) (p.sh c0 c1 c2) j ≤ W + (fT ((a : Rat) / r) j / ((r : Rat) / 1048576) + cC ((a : Rat) / r) ((r : Rat) / 1048576) j * e) := by
  have hr' : (0 : Rat) < r := Rat.intCast_lt_intCast.2 (show (0 : Int) < r by omega)
  have ha' : (0 : Rat) ≤ a := cast_le (a := 0) ha
  have har : (a : Rat) < r := Rat.intCast_lt_intCast.2 hr
  have k3 : (a : Rat) / r * r = a := Rat.div_mul_cancel (Rat.ne_of_gt hr')
  have t0 : 0 ≤ (a : Rat) / r := div_nn ha' hr'
  have t1 : (a : Rat) / r < 1 := by
    by_cases h : (a : Rat) / r < 1
    · exact h
    · have := Rat.mul_le_mul_of_nonneg_right (show 1 ≤ (a : Rat) / r by grind) (Rat.le_of_lt hr')
      grind
  have hn' : (1 : Rat) ≤ (n3 u0 u1 u2 : Int) := cast_le (a := 1) hn
  have hR : (0 : Rat) < (r : Rat) / 1048576 := div_ps hr' (by decide)
  have hRn : ((r : Rat) / 1048576) ^ 2 ≤ (n3 u0 u1 u2 : Int) := by
    have c3 := cast_le hr2
    have eB : (((1099511627776 : Int)) : Rat) = 1099511627776 := rfl
    rw [Rat.intCast_mul, Rat.intCast_mul, eB] at c3
    grind
  have hin := cutL_inS d _ g hp
  rw [cutL_sh] at hin
  have hmid : ∀ P ∈ cutL d p, ∀ y ∈ mids (P.sh (2 ^ d * c0) (2 ^ d * c1) (2 ^ d * c2)), _ := fun P hP y hy => mid_facts (u0 := u0) (u1 := u1) (u2 := u2) (d := d) (y := y) hn ha hr hr2 ha2 (mids_inS (hin _ (List.mem_map_of_mem hP)) y hy)
  generalize (a : Rat) / r = t at *
  generalize (r : Rat) / 1048576 = R at *
  generalize hX0 : (2 : Int) ^ d * (c0 + u0) = X0 at *
  generalize hX1 : (2 : Int) ^ d * (c1 + u1) = X1 at *
  generalize hX2 : (2 : Int) ^ d * (c2 + u2) = X2 at *
  obtain ⟨f, hf⟩ := pick fun (P : Pn) (y : V3) z => 0 ≤ z ∧ 1 - e ≤ z ^ 2 * (((n3 u0 u1 u2 : Int) : Rat) * (1 - 2 * Xy u0 u1 u2 (tT d) (n3 u0 u1 u2 : Int) y + My (tT d) (n3 u0 u1 u2 : Int) y)) ∧ z ^ 2 * (((n3 u0 u1 u2 : Int) : Rat) * (1 - 2 * Xy u0 u1 u2 (tT d) (n3 u0 u1 u2 : Int) y + My (tT d) (n3 u0 u1 u2 : Int) y)) ≤ 1 + e ∧
    ((1 ≤ nearP P.at 3 (ptF X0 X1 X2) 1 ∧ farI P.at (ptF X0 X1 X2) 1 3 ≤ 1099511627776) → ((lowX d X0 X1 X2 P : Int) : Rat) ≤ 1048576 * z ∧ 1048576 * z ≤ ((higX d X0 X1 X2 P : Int) : Rat))
  have hfz : ∀ P ∈ cutL d p, ∀ y ∈ mids (P.sh (2 ^ d * c0) (2 ^ d * c1) (2 ^ d * c2)), _ := fun P hP y hy => hf P y (by
    obtain ⟨m1, m2, m3⟩ := hmid P hP y hy
    by_cases hb : 1 ≤ nearP P.at 3 (ptF X0 X1 X2) 1 ∧ farI P.at (ptF X0 X1 X2) 1 3 ≤ 1099511627776
    · obtain ⟨n1, n2⟩ := near_mid P X0 X1 X2 _ (mids_sh y hy)
      have hnf : nearP P.at 3 (ptF X0 X1 X2) 1 ≤ farI P.at (ptF X0 X1 X2) 1 3 := near_far (by omega) (by omega)
      have eD : sqv (2 * X0 - (y.x + 2 * (2 ^ d * c0))) (2 * X1 - (y.y + 2 * (2 ^ d * c1))) (2 * X2 - (y.z + 2 * (2 ^ d * c2))) = sqv (2 * 2 ^ d * u0 - y.x) (2 * 2 ^ d * u1 - y.y) (2 * 2 ^ d * u2 - y.z) := by
        rw [← hX0, ← hX1, ← hX2]
        have e : ∀ k c u q : Int, 2 * (k * (c + u)) - (q + 2 * (k * c)) = 2 * k * u - q := fun k c u q => by grind
        rw [e, e, e]
      simp only [eD] at n1 n2
      obtain ⟨-, i1, i2, -, i3, -⟩ := inverse_k (n := farI P.at (ptF X0 X1 X2) 1 3) (d := d) (by omega) hd
      obtain ⟨-, j1, j2, -, -, j3⟩ := inverse_k (n := nearP P.at 3 (ptF X0 X1 X2) 1) (d := d) (by omega) hd
      have eW : ((2 ^ d * 2 ^ d * 1099511627776 : Int) : Rat) = 2 ^ d * 2 ^ d * 1099511627776 := by
        rw [Rat.intCast_mul]
        push_cast
        rfl
      obtain ⟨b1, b2⟩ := brack (S := 2 ^ d) (p2_pos d) eW i3 j3 n1 n2
      rw [← m3] at b1 b2
      have lh : lowX d X0 X1 X2 P ≤ higX d X0 X1 X2 P := by
        unfold lowX higX
        have s0 := sqrtS_spec (show (0 : Int) ≤ 0 by omega)
        generalize (inverseS (farI P.at (ptF X0 X1 X2) 1 3) (2 ^ d)).lo = x at *
        generalize (inverseS (nearP P.at 3 (ptF X0 X1 X2) 1) (2 ^ d)).hi = z at *
        have q1 : x * x * nearP P.at 3 (ptF X0 X1 X2) 1 ≤ x * x * farI P.at (ptF X0 X1 X2) 1 3 := Int.mul_le_mul_of_nonneg_left hnf (isq x)
        have q2 : x * x * nearP P.at 3 (ptF X0 X1 X2) 1 ≤ z * z * nearP P.at 3 (ptF X0 X1 X2) 1 := by omega
        have q3 : x * x ≤ z * z := Int.le_of_mul_le_mul_right q2 (by omega)
        exact of_sq_le (by omega) q3
      obtain ⟨z, z1, z2, z3, z4⟩ := exists_z (al := ((lowX d X0 X1 X2 P : Int) : Rat) / 1048576) (bh := ((higX d X0 X1 X2 P : Int) : Rat) / 1048576) hn' m1 m2 t0 t1 (div_nn (cast_le (a := 0) i1) (by decide)) (by have := cast_le lh; grind) b1 b2 he
      have k1 : 0 ≤ ((lowX d X0 X1 X2 P : Int) : Rat) / 1048576 := div_nn (cast_le (a := 0) i1) (by decide)
      exact ⟨z, Rat.le_trans k1 z1, z3, z4, fun _ => ⟨by grind, by grind⟩⟩
    · obtain ⟨g1, g2, g3⟩ := big_bh (Rat.mul_pos (show (0 : Rat) < (n3 u0 u1 u2 : Int) by grind) (one_pos m1 m2 t0 t1))
      obtain ⟨z, z1, z2, z3, z4⟩ := exists_z hn' m1 m2 t0 t1 Rat.le_refl g1 g2 g3 he
      exact ⟨z, z1, z3, z4, fun q => absurd q hb⟩)
  clear hf
  have hlen : ((cutL d p).length : Nat) = 4 ^ d := cutL_len d p
  have h4 : (0 : Rat) < 4 ^ d := Rat.pow_pos (by decide)
  have hc4 : ((4 ^ d : Nat) : Rat) = 4 ^ d := by push_cast; rfl
  refine ⟨sm (fun P => sm (f P) (mids (P.sh (2 ^ d * c0) (2 ^ d * c1) (2 ^ d * c2)))) (cutL d p) / (3 * 4 ^ d), fun hb => ?_, fun j hj => ?_⟩
  · have hk : sm (fun P => sm (f P) (mids (P.sh (2 ^ d * c0) (2 ^ d * c1) (2 ^ d * c2)))) (cutL d p) / (3 * 4 ^ d) * (3 * 4 ^ d) = sm (fun P => sm (f P) (mids (P.sh (2 ^ d * c0) (2 ^ d * c1) (2 ^ d * c2)))) (cutL d p) := Rat.div_mul_cancel (by grind)
    have e1 : 1048576 * (sm (fun P => sm (f P) (mids (P.sh (2 ^ d * c0) (2 ^ d * c1) (2 ^ d * c2)))) (cutL d p) / (3 * 4 ^ d)) * 4 ^ d = 1048576 / 3 * sm (fun P => sm (f P) (mids (P.sh (2 ^ d * c0) (2 ^ d * c1) (2 ^ d * c2)))) (cutL d p) := by
      generalize sm (fun P => sm (f P) (mids (P.sh (2 ^ d * c0) (2 ^ d * c1) (2 ^ d * c2)))) (cutL d p) / (3 * 4 ^ d) = w at *
      rw [← hk]
      grind
    rw [e1, ← sm_mul]
    unfold enc
    rw [sumP_cast, sumP_cast]
    have three : ∀ P ∈ cutL d p, ((lowX d X0 X1 X2 P : Int) : Rat) ≤ 1048576 / 3 * sm (f P) (mids (P.sh (2 ^ d * c0) (2 ^ d * c1) (2 ^ d * c2))) ∧ 1048576 / 3 * sm (f P) (mids (P.sh (2 ^ d * c0) (2 ^ d * c1) (2 ^ d * c2))) ≤ ((higX d X0 X1 X2 P : Int) : Rat) := fun P hP => by
      have h := sm_mem (g := f P) (lo := ((lowX d X0 X1 X2 P : Int) : Rat) / 1048576) (hi := ((higX d X0 X1 X2 P : Int) : Rat) / 1048576) (l := mids (P.sh (2 ^ d * c0) (2 ^ d * c1) (2 ^ d * c2))) fun y hy => by
        have := (hfz P hP y hy).2.2.2 (hb P hP)
        grind
      rw [mids_len] at h
      have e3 : ((3 : Nat) : Rat) = 3 := rfl
      rw [e3] at h
      grind
    exact ⟨sm_le fun P hP => (three P hP).1, sm_le fun P hP => (three P hP).2⟩
  · have hq := qs_qk hj u0 u1 u2 (show (0 : Rat) < (n3 u0 u1 u2 : Int) by grind) d (p.sh c0 c1 c2)
    unfold qs at hq
    rw [cutL_sh, sm_map] at hq
    have hpt : ∀ P ∈ cutL d p, ∀ y ∈ mids (P.sh (2 ^ d * c0) (2 ^ d * c1) (2 ^ d * c2)), _ := fun P hP y hy => by
      obtain ⟨m1, m2, -⟩ := hmid P hP y hy
      obtain ⟨f1, f2, f3, -⟩ := hfz P hP y hy
      exact pt_off hj hn' hR hRn t0 t1 m1 m2 he he2 he3 hρ h1 h2 f1 f2 f3
    generalize fT t j / R + cC t R j * e = E at *
    have s1 : sm (fun P => sm (f P) (mids (P.sh (2 ^ d * c0) (2 ^ d * c1) (2 ^ d * c2)))) (cutL d p) ≤ sm (fun P => sm (fun y => ρ * qk j (Xy u0 u1 u2 (tT d) (n3 u0 u1 u2 : Int) y) (My (tT d) (n3 u0 u1 u2 : Int) y) + E) (mids (P.sh (2 ^ d * c0) (2 ^ d * c1) (2 ^ d * c2)))) (cutL d p) :=
      sm_le fun P hP => sm_le fun y hy => (hpt P hP y hy).1
    have s2 : sm (fun P => sm (fun y => ρ * qk j (Xy u0 u1 u2 (tT d) (n3 u0 u1 u2 : Int) y) (My (tT d) (n3 u0 u1 u2 : Int) y)) (mids (P.sh (2 ^ d * c0) (2 ^ d * c1) (2 ^ d * c2)))) (cutL d p) ≤ sm (fun P => sm (fun y => f P y + E) (mids (P.sh (2 ^ d * c0) (2 ^ d * c1) (2 ^ d * c2)))) (cutL d p) :=
      sm_le fun P hP => sm_le fun y hy => (hpt P hP y hy).2
    have s3 : ∀ g : Pn → V3 → Rat, sm (fun P => sm (fun y => g P y + E) (mids (P.sh (2 ^ d * c0) (2 ^ d * c1) (2 ^ d * c2)))) (cutL d p) = sm (fun P => sm (g P) (mids (P.sh (2 ^ d * c0) (2 ^ d * c1) (2 ^ d * c2)))) (cutL d p) + 3 * 4 ^ d * E := fun g => by
      have q1 : ∀ P ∈ cutL d p, sm (fun y => g P y + E) (mids (P.sh (2 ^ d * c0) (2 ^ d * c1) (2 ^ d * c2))) = sm (g P) (mids (P.sh (2 ^ d * c0) (2 ^ d * c1) (2 ^ d * c2))) + 3 * E := fun P _ => by
        rw [sm_add (g P) (fun _ => E), sm_const, mids_len]
        have e3 : ((3 : Nat) : Rat) = 3 := rfl
        rw [e3]
        grind
      rw [sm_congr q1, sm_add (fun P => sm (g P) (mids (P.sh (2 ^ d * c0) (2 ^ d * c1) (2 ^ d * c2)))) (fun _ => 3 * E), sm_const, hlen, hc4]
      grind
    have s4 : sm (fun P => sm (fun y => ρ * qk j (Xy u0 u1 u2 (tT d) (n3 u0 u1 u2 : Int) y) (My (tT d) (n3 u0 u1 u2 : Int) y)) (mids (P.sh (2 ^ d * c0) (2 ^ d * c1) (2 ^ d * c2)))) (cutL d p) = ρ * (3 * 4 ^ d * oneS u0 u1 u2 (n3 u0 u1 u2 : Int) (p.sh c0 c1 c2) j) := by
      rw [← hq, ← sm_mul]
      exact sm_congr fun P _ => sm_mul ρ _ _
    rw [s3 (fun _ y => ρ * qk j (Xy u0 u1 u2 (tT d) (n3 u0 u1 u2 : Int) y) (My (tT d) (n3 u0 u1 u2 : Int) y)), s4] at s1
    rw [s3 f, s4] at s2
    have hk : sm (fun P => sm (f P) (mids (P.sh (2 ^ d * c0) (2 ^ d * c1) (2 ^ d * c2)))) (cutL d p) / (3 * 4 ^ d) * (3 * 4 ^ d) = sm (fun P => sm (f P) (mids (P.sh (2 ^ d * c0) (2 ^ d * c1) (2 ^ d * c2)))) (cutL d p) := Rat.div_mul_cancel (by grind)
    generalize sm (fun P => sm (f P) (mids (P.sh (2 ^ d * c0) (2 ^ d * c1) (2 ^ d * c2)))) (cutL d p) / (3 * 4 ^ d) = w at *
    rw [← hk] at s1 s2
    have h5 : (0 : Rat) < 3 * 4 ^ d := by grind
    generalize (3 : Rat) * 4 ^ d = q at *
    clear hfz hpt hmid hin
    constructor
    · refine cancel_pos h5 ?_
      grind
    · refine cancel_pos h5 ?_
      grind
end Go.Proofs.Ytodmdicegkjicaa


/- The plain mathematics of the weights of arcs (layer 25): the weight as a function on integers, that it is injective in the arc and in the flow, and the choice of the greatest one. No program in sight. -/
import Derived.Laws.Bits64
namespace Go.Proofs.Ytcieillicpbebaa
namespace Flow

/-- The weight, in the form in which the walk leaves it. -/
def wt0 (f n a : Int) : Int :=
  IntKind.u64.wrap (IntKind.u64.wrap (IntKind.u64.wrap (IntKind.u64.wrap f * 11400714819323198485) + IntKind.u64.wrap (IntKind.u64.wrap n * 13787848793156543929)) + IntKind.u64.wrap (IntKind.u64.wrap a * 10723151780598845931))
def mixA (x s c : Int) : Int := IntKind.u64.wrap (bits BinOp.xor IntKind.u64 x (x / s) * c)
def lastX (x : Int) : Int := bits BinOp.xor IntKind.u64 x (x / 2147483648)
def wt (f n a : Int) : Int := lastX (mixA (mixA (wt0 f n a) 1073741824 13787848793156543929) 134217728 10723151780598845931)

theorem wrap_bd (x : Int) : 0 ≤ IntKind.u64.wrap x ∧ IntKind.u64.wrap x < 18446744073709551616 := by
  rw [IntKind.wrap_u64]; omega
theorem wt0_bd (f n a : Int) : 0 ≤ wt0 f n a ∧ wt0 f n a < 18446744073709551616 := wrap_bd _
theorem mixA_bd (x s c : Int) : 0 ≤ mixA x s c ∧ mixA x s c < 18446744073709551616 := wrap_bd _
theorem bits_bd (x y : Int) : 0 ≤ bits .xor .u64 x y ∧ bits .xor .u64 x y < 18446744073709551616 := wrap_bd _
theorem lastX_bd (x : Int) : 0 ≤ lastX x ∧ lastX x < 18446744073709551616 := bits_bd _ _
theorem wt_bd (f n a : Int) : 0 ≤ wt f n a ∧ wt f n a < 18446744073709551616 := lastX_bd _
theorem mixA_one (x : Int) : mixA x 2147483648 1 = lastX x := by
  have h := bits_bd x (x / 2147483648)
  unfold mixA lastX
  rw [IntKind.wrap_u64]; omega

theorem wrap_lastX (x : Int) : IntKind.u64.wrap (lastX x) = lastX x := by
  have h := lastX_bd x
  rw [IntKind.wrap_u64]; omega

/-- Exclusive or with the shifted number is injective. -/
theorem xs_inj (k x y : Nat) (hk : 0 < k) (h : x ^^^ x / 2 ^ k = y ^^^ y / 2 ^ k) : x = y := by
  have key : ∀ (m b : Nat), (∀ j, b ≤ j → x.testBit j = y.testBit j) → ∀ j, b - m ≤ j → x.testBit j = y.testBit j := by
    intro m
    induction m with
    | zero => intro b hb j hj; exact hb j (by omega)
    | succ m ih =>
      intro b hb j hj
      have h1 := ih b hb
      by_cases hj2 : b - m ≤ j
      · exact h1 j hj2
      · have h2 := h1 (j + k) (by omega)
        have h3 := congrArg (fun z => Nat.testBit z j) h
        simp only [Nat.testBit_xor, Nat.testBit_div_two_pow] at h3
        rw [h2] at h3
        simpa using h3
  have hb : ∀ j, (x + y) ≤ j → x.testBit j = y.testBit j := by
    intro j hj
    have h2 := @Nat.lt_two_pow_self j
    rw [Nat.testBit_lt_two_pow (by omega), Nat.testBit_lt_two_pow (by omega)]
  apply Nat.eq_of_testBit_eq
  intro j
  exact key (x + y) (x + y) hb j (by omega)

/-- Multiplication by an odd number, modulo 2^64, is injective. -/
theorem mul_inj (M c d x y : Nat) (hcd : c * d % M = 1) (hx : x < M) (hy : y < M) (h : x * c % M = y * c % M) : x = y := by
  have e : ∀ z, z < M → (z * c % M) * d % M = z := by
    intro z hz
    rw [Nat.mod_mul_mod, Nat.mul_assoc, Nat.mul_mod, hcd, Nat.mul_one, Nat.mod_mod, Nat.mod_eq_of_lt hz]
  rw [← e x hx, ← e y hy, h]

theorem mixA_inj (k c d : Nat) (s e : Int) (hs : s = ((2 ^ k : Nat) : Int)) (he : e = (c : Int)) (hk : 0 < k) (hcd : c * d % 18446744073709551616 = 1) (x y : Int) (hx : 0 ≤ x ∧ x < 18446744073709551616) (hy : 0 ≤ y ∧ y < 18446744073709551616)
    (h : mixA x s e = mixA y s e) : x = y := by
  subst hs he
  obtain ⟨X, rfl⟩ := Int.eq_ofNat_of_zero_le hx.1
  obtain ⟨Y, rfl⟩ := Int.eq_ofNat_of_zero_le hy.1
  have hX : X < 18446744073709551616 := by omega
  have hY : Y < 18446744073709551616 := by omega
  unfold mixA at h
  rw [mixStep_u64 X (2 ^ k) c hX, mixStep_u64 Y (2 ^ k) c hY] at h
  have h1 := Int.ofNat.inj h
  have l1 : X ^^^ X / 2 ^ k < 2 ^ 64 := Nat.xor_lt_two_pow (by omega) (Nat.lt_of_le_of_lt (Nat.div_le_self _ _) (by omega))
  have l2 : Y ^^^ Y / 2 ^ k < 2 ^ 64 := Nat.xor_lt_two_pow (by omega) (Nat.lt_of_le_of_lt (Nat.div_le_self _ _) (by omega))
  have h2 := mul_inj _ c d _ _ hcd (by omega) (by omega) h1
  rw [xs_inj k X Y hk h2]

theorem lastX_inj (x y : Int) (hx : 0 ≤ x ∧ x < 18446744073709551616) (hy : 0 ≤ y ∧ y < 18446744073709551616) (h : lastX x = lastX y) : x = y := by
  refine mixA_inj 31 1 1 2147483648 1 (by decide +kernel) (by decide +kernel) (by omega) (by decide +kernel) x y hx hy ?_
  rw [mixA_one x, mixA_one y, h]

theorem mix1_inj (x y : Int) (hx : 0 ≤ x ∧ x < 18446744073709551616) (hy : 0 ≤ y ∧ y < 18446744073709551616) (h : mixA x 1073741824 13787848793156543929 = mixA y 1073741824 13787848793156543929) : x = y :=
  mixA_inj 30 13787848793156543929 10871156337175269513 _ _ (by decide +kernel) (by decide +kernel) (by omega) (by decide +kernel) x y hx hy h
theorem mix2_inj (x y : Int) (hx : 0 ≤ x ∧ x < 18446744073709551616) (hy : 0 ≤ y ∧ y < 18446744073709551616) (h : mixA x 134217728 10723151780598845931 = mixA y 134217728 10723151780598845931) : x = y :=
  mixA_inj 27 10723151780598845931 3573116690164977347 _ _ (by decide +kernel) (by decide +kernel) (by omega) (by decide +kernel) x y hx hy h

theorem wt_wt0 (f n a g m b : Int) (h : wt f n a = wt g m b) : wt0 f n a = wt0 g m b :=
  mix1_inj _ _ (wt0_bd _ _ _) (wt0_bd _ _ _) (mix2_inj _ _ (mixA_bd _ _ _) (mixA_bd _ _ _) (lastX_inj _ _ (mixA_bd _ _ _) (mixA_bd _ _ _) h))

theorem mulmod_inj (c d : Int) (hcd : c * d % 18446744073709551616 = 1) (a b : Int) (h : (a * c - b * c) % 18446744073709551616 = 0) : (a - b) % 18446744073709551616 = 0 := by
  have h1 : (18446744073709551616 : Int) ∣ (a - b) * c := by rw [Int.sub_mul]; exact Int.dvd_of_emod_eq_zero h
  have h2 : (18446744073709551616 : Int) ∣ (a - b) * (c * d) := by rw [← Int.mul_assoc]; exact Int.dvd_mul_of_dvd_left h1
  have h3 : c * d = 18446744073709551616 * (c * d / 18446744073709551616) + 1 := by
    have := Int.mul_ediv_add_emod (c * d) 18446744073709551616; omega
  rw [h3, Int.mul_add, Int.mul_one, ← Int.mul_assoc, Int.mul_comm (a - b), Int.mul_assoc] at h2
  have h4 := (Int.dvd_add_right (Int.dvd_mul_right _ _)).1 h2
  exact Int.emod_eq_zero_of_dvd h4

theorem wrap_mul (a c : Int) : IntKind.u64.wrap (IntKind.u64.wrap a * c) = a * c % 18446744073709551616 := by
  simp only [IntKind.wrap_u64]
  rw [Int.mul_emod, Int.emod_emod, ← Int.mul_emod]
theorem part3 (X p q : Int) (h : IntKind.u64.wrap (X + p % 18446744073709551616) = IntKind.u64.wrap (X + q % 18446744073709551616)) : (p - q) % 18446744073709551616 = 0 := by
  rw [IntKind.wrap_u64, IntKind.wrap_u64] at h; omega
theorem part1 (X Y p q : Int) (h : IntKind.u64.wrap (IntKind.u64.wrap (p % 18446744073709551616 + X) + Y) = IntKind.u64.wrap (IntKind.u64.wrap (q % 18446744073709551616 + X) + Y)) : (p - q) % 18446744073709551616 = 0 := by
  simp only [IntKind.wrap_u64] at h; omega
theorem near (a b : Int) (ha : -9223372036854775808 ≤ a ∧ a ≤ 9223372036854775807) (hb : -9223372036854775808 ≤ b ∧ b ≤ 9223372036854775807) (h : (a - b) % 18446744073709551616 = 0) : a = b := by omega

/-- Different arcs have different weights. -/
theorem wt_arc (f n a b : Int) (ha : -9223372036854775808 ≤ a ∧ a ≤ 9223372036854775807) (hb : -9223372036854775808 ≤ b ∧ b ≤ 9223372036854775807) (h : wt f n a = wt f n b) : a = b := by
  have h0 := wt_wt0 _ _ _ _ _ _ h
  unfold wt0 at h0
  rw [wrap_mul a, wrap_mul b] at h0
  exact near a b ha hb (mulmod_inj 10723151780598845931 3573116690164977347 (by decide +kernel) a b (part3 _ _ _ h0))
/-- Different flows have different weights. -/
theorem wt_flow (n c a b : Int) (ha : -9223372036854775808 ≤ a ∧ a ≤ 9223372036854775807) (hb : -9223372036854775808 ≤ b ∧ b ≤ 9223372036854775807) (h : wt a n c = wt b n c) : a = b := by
  have h0 := wt_wt0 _ _ _ _ _ _ h
  unfold wt0 at h0
  rw [wrap_mul a, wrap_mul b] at h0
  exact near a b ha hb (mulmod_inj 11400714819323198485 17428512612931826493 (by decide +kernel) a b (part1 _ _ _ _ h0))

theorem wt_def (f n a : Int) : lastX (mixA (mixA (wt0 f n a) 1073741824 13787848793156543929) 134217728 10723151780598845931) = wt f n a := rfl
attribute [irreducible] wt

/-- The comparison of two arcs: by weight, and of equal weights the smaller arc is the greater. -/
def cmpI (a b : Int) : Int := if a < b then -1 else if b < a then 1 else 0
theorem cmpI_eq (a b : Int) (h1 : b ≤ a) (h2 : a ≤ b) : 0 = cmpI a b := by
  unfold cmpI; rw [if_neg (by omega), if_neg (by omega)]
def orI (a b : Int) : Int := if a = 0 then b else a
def cmpR (f n a b : Int) : Int :=
  orI (cmpI (wt f n a) (wt f n b)) (cmpI b a)
def pick (f n best x : Int) : Int := if 0 < cmpR f n x best then x else best
def choose (f n : Int) : List Int → Int
  | [] => -1
  | h :: t => t.foldl (pick f n) h

/-- The element of a list at a place. -/
def nth (L : List Int) (i : Nat) : Int := L.getD i 0
theorem take_snoc (L : List Int) (k : Nat) (h : k < L.length) : L.take (k + 1) = L.take k ++ [nth L k] := by
  rw [List.take_succ_eq_append_getElem h]; simp [nth, h]
theorem foldl_snoc (g : Int → Int → Int) (h x : Int) (t : List Int) : List.foldl g h (t ++ [x]) = g (List.foldl g h t) x := by rw [List.foldl_append]; rfl
theorem choose_cons (f n h : Int) (t : List Int) : choose f n (h :: t) = t.foldl (pick f n) h := by rw [choose]
theorem choose_snoc (f n : Int) (L : List Int) (hL : 1 ≤ L.length) (x : Int) : choose f n (L ++ [x]) = pick f n (choose f n L) x := by
  cases L with
  | nil => simp at hL
  | cons h t => exact (choose_cons f n h (t ++ [x])).trans ((foldl_snoc (pick f n) h x t).trans (congrArg (fun z => pick f n z x) (choose_cons f n h t).symm))
theorem choose_one (f n : Int) (L : List Int) (h : 1 ≤ L.length) : choose f n (L.take 1) = nth L 0 := by
  cases L with
  | nil => simp at h
  | cons a t => exact choose_cons f n a []
theorem choose_step (f n : Int) (L : List Int) (k : Nat) (h1 : 1 ≤ k) (h : k < L.length) : choose f n (L.take (k + 1)) = pick f n (choose f n (L.take k)) (nth L k) := by
  rw [take_snoc L k h, choose_snoc f n _ (by simp; omega)]
theorem pick_yes (f n b x : Int) (h : 0 < cmpR f n x b) : pick f n b x = x := by unfold pick; first | rw [if_pos h] | rw [if_neg h]
theorem pick_no (f n b x : Int) (h : ¬ 0 < cmpR f n x b) : pick f n b x = b := by unfold pick; first | rw [if_pos h] | rw [if_neg h]

theorem pick_gt (f n b x : Int) (h : wt f n b < wt f n x) : pick f n b x = x := by
  apply pick_yes; unfold cmpR orI cmpI; rw [if_neg (by omega : ¬ wt f n x < wt f n b), if_pos h, if_neg (by decide)]; decide
theorem pick_lt (f n b x : Int) (h : wt f n x < wt f n b) : pick f n b x = b := by
  apply pick_no; unfold cmpR orI cmpI; rw [if_pos h, if_neg (by decide)]; decide
theorem pick_eq_lt (f n b x : Int) (h : wt f n x = wt f n b) (h2 : x < b) : pick f n b x = x := by
  apply pick_yes; unfold cmpR orI cmpI; rw [if_neg (by omega : ¬ wt f n x < wt f n b), if_neg (by omega : ¬ wt f n b < wt f n x), if_pos rfl, if_neg (by omega), if_pos h2]; decide
theorem pick_eq_ge (f n b x : Int) (h : wt f n x = wt f n b) (h2 : ¬ x < b) : pick f n b x = b := by
  apply pick_no; unfold cmpR orI cmpI; rw [if_neg (by omega : ¬ wt f n x < wt f n b), if_neg (by omega : ¬ wt f n b < wt f n x), if_pos rfl]
  by_cases h3 : b < x
  · rw [if_pos h3]; decide
  · rw [if_neg h3, if_neg h2]; decide
theorem pick_self (f n b : Int) : pick f n b b = b := pick_eq_ge f n b b rfl (by omega)
/-- The reference's loop begins with the first element once more. -/
def chooseR (f n : Int) (L : List Int) (k : Nat) : Int := (L.take k).foldl (pick f n) (nth L 0)
theorem chooseR_zero (f n : Int) (L : List Int) : chooseR f n L 0 = nth L 0 := by unfold chooseR; rw [List.take_zero, List.foldl_nil]
theorem chooseR_step (f n : Int) (L : List Int) (k : Nat) (h : k < L.length) : chooseR f n L (k + 1) = pick f n (chooseR f n L k) (nth L k) := by
  unfold chooseR; rw [take_snoc L k h, foldl_snoc]
theorem chooseR_all (f n : Int) (L : List Int) (k : Nat) (h1 : 1 ≤ L.length) (h : L.length ≤ k) : chooseR f n L k = choose f n L := by
  unfold chooseR
  rw [List.take_of_length_le h]
  cases L with
  | nil => simp at h1
  | cons a t =>
    show List.foldl (pick f n) (nth (a :: t) 0) (a :: t) = _
    rw [List.foldl_cons, choose_cons, show nth (a :: t) 0 = a from rfl, pick_self]

theorem wt_000 : wt 0 0 0 = 0 := by rw [← wt_def]; decide +kernel
theorem choose_nil (f n : Int) : choose f n [] = -1 := by rw [choose]
theorem choose_single (f n x : Int) : choose f n [x] = x := by rw [choose_cons, List.foldl_nil]

end Flow
end Go.Proofs.Ytcieillicpbebaa

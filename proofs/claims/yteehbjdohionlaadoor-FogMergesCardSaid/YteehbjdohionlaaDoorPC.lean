/- How many bits of a word are set: plain laws on natural numbers. -/
import Derived.Test.YteehbjdohionlaaDoorK1
namespace Go.K

/-- Bytes, the lowest first. -/
def bv : List Nat → Nat
  | [] => 0
  | b :: r => b + 256 * bv r
def rep (m : Nat) : Nat → Nat
  | 0 => 0
  | n + 1 => m + 256 * rep m n
theorem and_byte {a b c d : Nat} (hb : b < 256) (hd : d < 256) : (b + 256 * a) &&& (d + 256 * c) = (b &&& d) + 256 * (a &&& c) := by
  apply Nat.eq_of_testBit_eq
  intro i
  have h1 : (b &&& d) < 256 := Nat.lt_of_le_of_lt Nat.and_le_left hb
  have e : ∀ x y : Nat, x < 256 → x + 256 * y = 2 ^ 8 * y + x := fun x y _ => by omega
  rw [Nat.testBit_and, e b a hb, e d c hd, e _ _ h1]
  rw [Nat.testBit_two_pow_mul_add _ (by simpa using hb), Nat.testBit_two_pow_mul_add _ (by simpa using hd), Nat.testBit_two_pow_mul_add _ (by simpa using h1)]
  split
  · rw [Nat.testBit_and]
  · rw [Nat.testBit_and]
def s1 (n x : Nat) : Nat := (x / 2 &&& rep 85 n) + (x &&& rep 85 n)
def s2 (n x : Nat) : Nat := (x / 4 &&& rep 51 n) + (x &&& rep 51 n)
def s3 (n x : Nat) : Nat := (x / 16 + x) &&& rep 15 n
def p1 (b : Nat) : Nat := (b / 2 &&& 85) + (b &&& 85)
def p2 (b : Nat) : Nat := (b / 4 &&& 51) + (b &&& 51)
def p3 (b : Nat) : Nat := (b / 16 + b) &&& 15
theorem lt_all {P : Nat → Prop} [DecidablePred P] (n : Nat) (h : (List.range n).all (fun b => decide (P b)) = true) : ∀ b, b < n → P b := fun b hb => by
  have := List.all_eq_true.1 h b (List.mem_range.2 hb)
  simpa using this
theorem k1 : ∀ b, b < 256 → ∀ t, t < 2 → (b / 2 + 128 * t &&& 85) = (b / 2 &&& 85) := by
  intro b hb
  exact lt_all (P := fun b => ∀ t, t < 2 → (b / 2 + 128 * t &&& 85) = (b / 2 &&& 85)) 256 (by decide +kernel) b hb
theorem k2 : ∀ b, b < 256 → ∀ t, t < 4 → (b / 4 + 64 * t &&& 51) = (b / 4 &&& 51) := by
  intro b hb
  exact lt_all (P := fun b => ∀ t, t < 4 → (b / 4 + 64 * t &&& 51) = (b / 4 &&& 51)) 256 (by decide +kernel) b hb
theorem k3 : ∀ b, b < 256 → ∀ t, t < 16 → (b / 16 + b + 16 * t &&& 15) = (b / 16 + b &&& 15) := by
  intro b hb
  exact lt_all (P := fun b => ∀ t, t < 16 → (b / 16 + b + 16 * t &&& 15) = (b / 16 + b &&& 15)) 256 (by decide +kernel) b hb
theorem s1_step {n b y : Nat} (hb : b < 256) : s1 (n + 1) (b + 256 * y) = p1 b + 256 * s1 n y := by
  unfold s1 p1
  rw [show rep 85 (n + 1) = 85 + 256 * rep 85 n from rfl]
  have e : (b + 256 * y) / 2 = (b / 2 + 128 * (y % 2)) + 256 * (y / 2) := by omega
  rw [e, and_byte (by omega) (by omega), and_byte hb (by omega), k1 b hb _ (by omega)]
  omega
theorem s2_step {n b y : Nat} (hb : b < 256) : s2 (n + 1) (b + 256 * y) = p2 b + 256 * s2 n y := by
  unfold s2 p2
  rw [show rep 51 (n + 1) = 51 + 256 * rep 51 n from rfl]
  have e : (b + 256 * y) / 4 = (b / 4 + 64 * (y % 4)) + 256 * (y / 4) := by omega
  rw [e, and_byte (by omega) (by omega), and_byte hb (by omega), k2 b hb _ (by omega)]
  omega
theorem s3_step {n b y : Nat} (hb : b ≤ 68) (hy : y % 16 ≤ 4) : s3 (n + 1) (b + 256 * y) = p3 b + 256 * s3 n y := by
  unfold s3 p3
  rw [show rep 15 (n + 1) = 15 + 256 * rep 15 n from rfl]
  have e : (b + 256 * y) / 16 + (b + 256 * y) = (b / 16 + b + 16 * (y % 16)) + 256 * (y / 16 + y) := by omega
  rw [e, and_byte (by omega) (by omega), k3 b (by omega) _ (by omega)]
def pop8 (b : Nat) : Nat := b % 2 + b / 2 % 2 + b / 4 % 2 + b / 8 % 2 + b / 16 % 2 + b / 32 % 2 + b / 64 % 2 + b / 128 % 2
theorem p_all : ∀ b, b < 256 → p1 b < 256 ∧ p2 (p1 b) ≤ 68 ∧ p2 (p1 b) % 16 ≤ 4 ∧ p3 (p2 (p1 b)) = pop8 b ∧ pop8 b ≤ 8 := by
  intro b hb
  exact lt_all (P := fun b => p1 b < 256 ∧ p2 (p1 b) ≤ 68 ∧ p2 (p1 b) % 16 ≤ 4 ∧ p3 (p2 (p1 b)) = pop8 b ∧ pop8 b ≤ 8) 256 (by decide +kernel) b hb
theorem bytes_s : ∀ bs : List Nat, (∀ b ∈ bs, b < 256) → s2 bs.length (s1 bs.length (bv bs)) = bv (bs.map fun b => p2 (p1 b)) ∧ s3 bs.length (s2 bs.length (s1 bs.length (bv bs))) = bv (bs.map pop8)
  | [], _ => by decide
  | b :: r, h => by
    have hb := h b List.mem_cons_self
    obtain ⟨h1, h2⟩ := bytes_s r (fun x hx => h x (List.mem_cons_of_mem _ hx))
    obtain ⟨q1, q2, q3, q4, q5⟩ := p_all b hb
    have e1 : s1 (b :: r).length (bv (b :: r)) = p1 b + 256 * s1 r.length (bv r) := s1_step hb
    have e2 : s2 (b :: r).length (p1 b + 256 * s1 r.length (bv r)) = p2 (p1 b) + 256 * s2 r.length (s1 r.length (bv r)) := s2_step q1
    have hm : s2 r.length (s1 r.length (bv r)) % 16 ≤ 4 := by
      rw [h1]
      cases r with
      | nil => decide
      | cons c r' =>
        have hc := h c (List.mem_cons_of_mem _ List.mem_cons_self)
        have := (p_all c hc).2.2.1
        simp only [List.map_cons, bv]
        omega
    have e3 : s3 (b :: r).length (p2 (p1 b) + 256 * s2 r.length (s1 r.length (bv r))) = p3 (p2 (p1 b)) + 256 * s3 r.length (s2 r.length (s1 r.length (bv r))) := s3_step q2 hm
    refine ⟨?_, ?_⟩
    · rw [e1, e2, h1]; rfl
    · rw [e1, e2, e3, h2, q4]; rfl
/-- The bits of a number, up to the n-th. -/
def cnt (x : Nat) : Nat → Nat
  | 0 => 0
  | n + 1 => cnt x n + (if x.testBit n then 1 else 0)
theorem tb_byte {b y : Nat} (hb : b < 256) (k : Nat) : (b + 256 * y).testBit k = if k < 8 then b.testBit k else y.testBit (k - 8) := by
  rw [show b + 256 * y = 2 ^ 8 * y + b by omega, Nat.testBit_two_pow_mul_add _ (by simpa using hb)]
theorem cnt_byte {b y : Nat} (hb : b < 256) : ∀ n, cnt (b + 256 * y) (8 + n) = cnt b 8 + cnt y n
  | 0 => by
    have key : ∀ k, k ≤ 8 → cnt (b + 256 * y) k = cnt b k := by
      intro k
      induction k with
      | zero => intro _; rfl
      | succ k ih =>
        intro hk
        have e : (b + 256 * y).testBit k = b.testBit k := by rw [tb_byte hb]; exact if_pos (by omega)
        rw [cnt, cnt, ih (by omega), e]
    exact key 8 (Nat.le_refl _)
  | n + 1 => by
    have e : (b + 256 * y).testBit (8 + n) = y.testBit n := by rw [tb_byte hb, show 8 + n - 8 = n by omega]; exact if_neg (by omega)
    show cnt (b + 256 * y) (8 + n) + (if (b + 256 * y).testBit (8 + n) then 1 else 0) = cnt b 8 + (cnt y n + (if y.testBit n then 1 else 0))
    rw [cnt_byte hb n, e]
    omega
theorem cnt8 : ∀ b, b < 256 → cnt b 8 = pop8 b := by
  intro b hb
  exact lt_all (P := fun b => cnt b 8 = pop8 b) 256 (by decide +kernel) b hb
theorem cutD {x A M T : Nat} (e : x = A + M * T) (h : A < M) : x / M = T := by
  rw [e, Nat.add_mul_div_left _ _ (by omega), Nat.div_eq_of_lt h, Nat.zero_add]
theorem bd2 {a b : Nat} (ha : a ≤ 16) (hb : b ≤ 16) : a + 256 * b < 65536 := by omega
theorem bd4 {a b c d : Nat} (ha : a ≤ 32) (hb : b ≤ 32) (hc : c ≤ 32) (hd : d ≤ 32) : a + 256 * b + 65536 * c + 16777216 * d < 4294967296 := by omega
theorem i4 {n0 n1 n2 n3 n4 n5 n6 n7 : Nat} : n0 + 256 * (n1 + 256 * (n2 + 256 * (n3 + 256 * (n4 + 256 * (n5 + 256 * (n6 + 256 * (n7 + 256 * 0))))))) + (n1 + 256 * (n2 + 256 * (n3 + 256 * (n4 + 256 * (n5 + 256 * (n6 + 256 * (n7 + 256 * 0)))))))
   = ((n0 + n1) + 256 * (n1 + n2)) + 65536 * ((n2 + n3) + 256 * (n3 + n4) + 65536 * (n4 + n5) + 16777216 * (n5 + n6) + 4294967296 * (n6 + n7) + 1099511627776 * n7) := by
  simp only [Nat.mul_add, ← Nat.mul_assoc, Nat.reduceMul, Nat.add_zero]
  ac_rfl
theorem i5 {n0 n1 n2 n3 n4 n5 n6 n7 : Nat} : (((n0 + n1) + 256 * (n1 + n2)) + 65536 * ((n2 + n3) + 256 * (n3 + n4) + 65536 * (n4 + n5) + 16777216 * (n5 + n6) + 4294967296 * (n6 + n7) + 1099511627776 * n7)) + ((n2 + n3) + 256 * (n3 + n4) + 65536 * (n4 + n5) + 16777216 * (n5 + n6) + 4294967296 * (n6 + n7) + 1099511627776 * n7)
  = ((n0 + n1 + n2 + n3) + 256 * (n1 + n2 + n3 + n4) + 65536 * (n2 + n3 + n4 + n5) + 16777216 * (n3 + n4 + n5 + n6)) + 4294967296 * ((n4 + n5 + n6 + n7) + 256 * (n5 + n6 + n7) + 65536 * (n6 + n7) + 16777216 * n7) := by
  simp only [Nat.mul_add, ← Nat.mul_assoc, Nat.reduceMul, Nat.add_zero]
  ac_rfl
theorem i6 {n0 n1 n2 n3 n4 n5 n6 n7 : Nat} : ((n0 + n1 + n2 + n3) + 256 * (n1 + n2 + n3 + n4) + 65536 * (n2 + n3 + n4 + n5) + 16777216 * (n3 + n4 + n5 + n6)) + 4294967296 * ((n4 + n5 + n6 + n7) + 256 * (n5 + n6 + n7) + 65536 * (n6 + n7) + 16777216 * n7) + ((n4 + n5 + n6 + n7) + 256 * (n5 + n6 + n7) + 65536 * (n6 + n7) + 16777216 * n7)
  = (n0 + n1 + n2 + n3 + n4 + n5 + n6 + n7) + 128 * (2 * ((n1 + n2 + n3 + n4 + n5 + n6 + n7) + 256 * (n2 + n3 + n4 + n5 + n6 + n7) + 65536 * (n3 + n4 + n5 + n6 + n7) + 16777216 * (n4 + n5 + n6 + n7) + 4294967296 * (n5 + n6 + n7) + 1099511627776 * (n6 + n7) + 281474976710656 * n7)) := by
  simp only [Nat.mul_add, ← Nat.mul_assoc, Nat.reduceMul, Nat.add_zero]
  ac_rfl
theorem b4 {a b c d e f g h : Nat} (ha : a ≤ 64) (hb : b ≤ 64) (hc : c ≤ 64) (hd : d ≤ 64) (he : e ≤ 64) (hf : f ≤ 64) (hg : g ≤ 64) (hh : h ≤ 64) : a + 256 * b + 65536 * c + 16777216 * d + 4294967296 * (e + 256 * f + 65536 * g + 16777216 * h) ≤ 4629771061636907072 := by
  have h1 : a + 256 * b + 65536 * c + 16777216 * d ≤ 1077952576 := by omega
  have h2 : e + 256 * f + 65536 * g + 16777216 * h ≤ 1077952576 := by omega
  generalize a + 256 * b + 65536 * c + 16777216 * d = X at *
  generalize e + 256 * f + 65536 * g + 16777216 * h = Y at *
  omega
theorem fin {n0 n1 n2 n3 n4 n5 n6 n7 x3 x4 x5 : Nat} (h0 : n0 ≤ 8) (h1 : n1 ≤ 8) (h2 : n2 ≤ 8) (h3 : n3 ≤ 8) (h4 : n4 ≤ 8) (h5 : n5 ≤ 8) (h6 : n6 ≤ 8) (h7 : n7 ≤ 8)
    (e3 : x3 = n0 + 256 * (n1 + 256 * (n2 + 256 * (n3 + 256 * (n4 + 256 * (n5 + 256 * (n6 + 256 * (n7 + 256 * 0)))))))) (e4 : x4 = x3 + x3 / 256) (e5 : x5 = x4 + x4 / 65536) :
    (x5 + x5 / 4294967296) % 128 = n0 + (n1 + (n2 + (n3 + (n4 + (n5 + (n6 + (n7 + 0))))))) ∧ x4 < 18446744073709551616 ∧ x5 < 18446744073709551616 ∧ x5 + x5 / 4294967296 < 9223372036854775808 := by
  have d3 := cutD e3 (by clear e3 e4 e5; omega)
  rw [d3, e3, i4] at e4
  clear e3 d3 x3
  have d4 := cutD e4 (bd2 (by omega) (by omega))
  rw [d4, e4, i5] at e5
  have q4 : x4 ≤ 4629771061636907072 := by
    have := @b4 (n0 + n1) (n1 + n2) (n2 + n3) (n3 + n4) (n4 + n5) (n5 + n6) (n6 + n7) n7 (by omega) (by omega) (by omega) (by omega) (by omega) (by omega) (by omega) (by omega)
    refine Nat.le_trans (Nat.le_of_eq ?_) this
    rw [e4]
    simp only [Nat.mul_add, ← Nat.mul_assoc, Nat.reduceMul, Nat.add_zero]
    ac_rfl
  clear e4 d4
  have d5 := cutD e5 (bd4 (by omega) (by omega) (by omega) (by omega))
  have q5 : x5 ≤ 4629771061636907072 := by
    have := @b4 (n0 + n1 + n2 + n3) (n1 + n2 + n3 + n4) (n2 + n3 + n4 + n5) (n3 + n4 + n5 + n6) (n4 + n5 + n6 + n7) (n5 + n6 + n7) (n6 + n7) n7 (by omega) (by omega) (by omega) (by omega) (by omega) (by omega) (by omega) (by omega)
    rw [e5]; exact this
  have q6 : x5 + x5 / 4294967296 < 9223372036854775808 := by clear e5 d5; omega
  refine ⟨?_, by omega, by omega, q6⟩
  clear q4 q5 q6
  rw [d5, e5, i6, Nat.add_mul_mod_self_left, Nat.mod_eq_of_lt (by clear d5 e5; omega)]
  clear d5 e5
  omega
theorem s1_lt {x : Nat} (hx : x < 18446744073709551616) : s1 8 x < 18446744073709551616 := by
  have h1 : (x / 2 &&& rep 85 8) ≤ rep 85 8 := Nat.and_le_right
  have h2 : (x &&& rep 85 8) ≤ rep 85 8 := Nat.and_le_right
  have e : rep 85 8 = 6148914691236517205 := by decide
  unfold s1
  omega
def x4 (x : Nat) : Nat := s3 8 (s2 8 (s1 8 x)) + s3 8 (s2 8 (s1 8 x)) / 256
def x5 (x : Nat) : Nat := x4 x + x4 x / 65536
/-- What math/bits reckons. -/
def ones (x : Nat) : Nat := (x5 x + x5 x / 4294967296) % 128
theorem st {a m t k : Nat} (h : a ≤ m) (g : t ≤ k) : a + 256 * t ≤ m + 256 * k := Nat.add_le_add h (Nat.mul_le_mul_left _ g)
theorem ones_ok {x : Nat} (hx : x < 18446744073709551616) : ones x = cnt x 64 ∧ cnt x 64 ≤ 64 ∧ s1 8 x < 18446744073709551616 ∧ s2 8 (s1 8 x) < 9000000000000000000 ∧ s3 8 (s2 8 (s1 8 x)) ≤ 578721382704613384
    ∧ x4 x < 18446744073709551616 ∧ x5 x < 18446744073709551616 ∧ x5 x + x5 x / 4294967296 < 9223372036854775808 := by
  obtain ⟨b0, b1, b2, b3, b4, b5, b6, b7, e, h0, h1, h2, h3, h4, h5, h6, h7⟩ : ∃ b0 b1 b2 b3 b4 b5 b6 b7, x = bv [b0, b1, b2, b3, b4, b5, b6, b7] ∧ b0 < 256 ∧ b1 < 256 ∧ b2 < 256 ∧ b3 < 256 ∧ b4 < 256 ∧ b5 < 256 ∧ b6 < 256 ∧ b7 < 256 := by
    refine ⟨x % 256, x / 256 % 256, x / 65536 % 256, x / 16777216 % 256, x / 4294967296 % 256, x / 1099511627776 % 256, x / 281474976710656 % 256, x / 72057594037927936, ?_, ?_⟩
    · simp only [bv]; omega
    · omega
  have hB : ∀ b ∈ [b0, b1, b2, b3, b4, b5, b6, b7], b < 256 := by
    intro b hb
    simp only [List.mem_cons, List.not_mem_nil, or_false] at hb
    rcases hb with rfl | rfl | rfl | rfl | rfl | rfl | rfl | rfl <;> assumption
  obtain ⟨q1, q2⟩ := bytes_s _ hB
  have hc : cnt x 64 = pop8 b0 + (pop8 b1 + (pop8 b2 + (pop8 b3 + (pop8 b4 + (pop8 b5 + (pop8 b6 + (pop8 b7 + 0))))))) := by
    rw [e, ← cnt8 _ h0, ← cnt8 _ h1, ← cnt8 _ h2, ← cnt8 _ h3, ← cnt8 _ h4, ← cnt8 _ h5, ← cnt8 _ h6, ← cnt8 _ h7]
    show cnt (b0 + 256 * bv [b1, b2, b3, b4, b5, b6, b7]) (8 + 56) = _
    rw [cnt_byte h0]
    show _ + cnt (b1 + 256 * bv [b2, b3, b4, b5, b6, b7]) (8 + 48) = _
    rw [cnt_byte h1]
    show _ + (_ + cnt (b2 + 256 * bv [b3, b4, b5, b6, b7]) (8 + 40)) = _
    rw [cnt_byte h2]
    show _ + (_ + (_ + cnt (b3 + 256 * bv [b4, b5, b6, b7]) (8 + 32))) = _
    rw [cnt_byte h3]
    show _ + (_ + (_ + (_ + cnt (b4 + 256 * bv [b5, b6, b7]) (8 + 24)))) = _
    rw [cnt_byte h4]
    show _ + (_ + (_ + (_ + (_ + cnt (b5 + 256 * bv [b6, b7]) (8 + 16))))) = _
    rw [cnt_byte h5]
    show _ + (_ + (_ + (_ + (_ + (_ + cnt (b6 + 256 * bv [b7]) (8 + 8)))))) = _
    rw [cnt_byte h6]
    show _ + (_ + (_ + (_ + (_ + (_ + (_ + cnt (b7 + 256 * bv []) (8 + 0))))))) = _
    rw [cnt_byte h7]
    rfl
  obtain ⟨_, r0, _, _, g0⟩ := p_all b0 h0
  obtain ⟨_, r1, _, _, g1⟩ := p_all b1 h1
  obtain ⟨_, r2, _, _, g2⟩ := p_all b2 h2
  obtain ⟨_, r3, _, _, g3⟩ := p_all b3 h3
  obtain ⟨_, r4, _, _, g4⟩ := p_all b4 h4
  obtain ⟨_, r5, _, _, g5⟩ := p_all b5 h5
  obtain ⟨_, r6, _, _, g6⟩ := p_all b6 h6
  obtain ⟨_, r7, _, _, g7⟩ := p_all b7 h7
  rw [← e] at q1 q2
  simp only [List.length_cons, List.length_nil, List.map_cons, List.map_nil, bv] at q1 q2
  have hf := fin g0 g1 g2 g3 g4 g5 g6 g7 q2 rfl rfl
  refine ⟨?_, ?_, ?_, ?_, ?_, hf.2.1, hf.2.2.1, hf.2.2.2⟩
  · rw [hc]; exact hf.1
  · rw [hc]; clear hf q1 q2 hc e r0 r1 r2 r3 r4 r5 r6 r7; omega
  · exact s1_lt hx
  · rw [q1]; exact Nat.lt_of_le_of_lt (st r0 (st r1 (st r2 (st r3 (st r4 (st r5 (st r6 (st r7 (Nat.le_refl _))))))))) (by decide)
  · rw [q2]; exact Nat.le_trans (st g0 (st g1 (st g2 (st g3 (st g4 (st g5 (st g6 (st g7 (Nat.le_refl _))))))))) (by decide)
end Go.K

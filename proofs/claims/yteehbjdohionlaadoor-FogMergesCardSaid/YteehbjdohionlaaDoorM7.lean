/- Masks: their cells, one by one. -/
import Derived.Test.YteehbjdohionlaaDoorM3
import Derived.Test.YteehbjdohionlaaDoorK8
import Derived.Test.YteehbjdohionlaaDoorK20
import Derived.Lib.TrailingZeros
namespace Go.Proofs.YteehbjdohionlaaDoor
open Go Go.K

theorem Cel.up {β β' : Nat → Option Obj} {σ : Heap} {b off : Nat} {u : Value} (hb : ∀ b o, β b = some o → β' b = some o) (h : Cel β σ b off u) : Cel β' σ b off u := by
  rcases h with h3 | ⟨c, e, fz, h3, h4⟩
  · exact .inl h3
  · exact .inr ⟨c, e, fz, hb _ _ h3, h4⟩
theorem MaskR.up {β β' : Nat → Option Obj} {σ : Heap} {w h : Int} {nw : Nat} {f : Nat → Bool} {bm bw : Nat} (hb : ∀ b o, β b = some o → β' b = some o) (hm : MaskR β σ w h nw f bm bw) : MaskR β' σ w h nw f bm bw :=
  ⟨fun j v hj => Cel.up hb (hm.sz j v hj), Cel.up hb hm.sl, fun j v hj => Cel.up hb (hm.wd j v hj)⟩
theorem Tab8.up {β β' : Nat → Option Obj} {g : Nat} {l : List Nat} (hb : ∀ b o, β b = some o → β' b = some o) (h : Tab8 β g l) : Tab8 β' g l := fun j v hj => by
  obtain ⟨c, e, fz, h3, h4⟩ := h j v hj
  exact ⟨c, e, fz, hb _ _ h3, h4⟩
/-- The table of math/bits. -/
def TB (β : Nat → Option Obj) : Prop := Tab8 β 0 Lib.deBruijn64tab
theorem tz_raw {x : Nat} (hx0 : x ≠ 0) (hx : x < 18446744073709551616) : ∃ i : Nat, i < 64 ∧ Lib.deBruijn64tab[i]? = some (Lib.ctz 64 x) ∧
    (IntKind.u64.wrap (bits .and .u64 (x : Int) (IntKind.u64.wrap (-(x : Int))) * 285870213051353865)).fdiv (2 ^ min (Int.toNat 58) IntKind.u64.bits) = (i : Int) := by
  obtain ⟨hlow, hk⟩ := Lib.lowest_bit 64 x hx0 hx
  obtain ⟨hi, htab⟩ := Lib.deBruijn64_at _ hk
  refine ⟨_, hi, ?_, ?_⟩
  · have h64 : Lib.deBruijn64tab.length = 64 := by decide
    obtain ⟨v, hv⟩ : ∃ v, Lib.deBruijn64tab[2 ^ Lib.ctz 64 x * 285870213051353865 % 18446744073709551616 / 288230376151711744]? = some v := ⟨_, List.getElem?_eq_getElem (by rw [h64]; exact hi)⟩
    rw [List.getD, hv] at htab
    rw [hv]; exact congrArg some htab
  · have e0 : (2 : Nat) ^ 64 = 18446744073709551616 := by decide
    rw [e0] at hlow
    have e1 : IntKind.u64.wrap (-(x : Int)) = ((18446744073709551616 - x : Nat) : Int) := by rw [IntKind.wrap_u64]; omega
    rw [e1, and_b hx (by omega), hlow, IntKind.wrap_u64]
    have e2 : ((2 ^ Lib.ctz 64 x : Nat) : Int) * 285870213051353865 % 18446744073709551616 = ((2 ^ Lib.ctz 64 x * 285870213051353865 % 18446744073709551616 : Nat) : Int) := by
      rw [Int.natCast_emod, Int.natCast_mul]; rfl
    rw [e2]
    exact shr_b (i := 58) (by decide)
theorem tz_p (β : Nat → Option Obj) (σ : Heap) (x : Nat) (hx0 : x ≠ 0) (hx : x < 18446744073709551616) (ht : TB β) : Go.K.Tr Tryd.prog 56 [.int .u64 (x : Int)] β σ (fun v σ' => v = .int .i64 (Lib.ctz 64 x : Int) ∧ σ' = σ) := by
  refine Tr.of_body Tryd.tt (args := [.int .u64 (x : Int)]) (fr := [(0, true, .int .u64 (x : Int))]) Tryd.func56 rfl (by decide) rfl Tryd.ntmps56 rfl rfl ?_
  intro E hE
  subst hE
  obtain ⟨i, hi, hti, hraw⟩ := tz_raw hx0 hx
  have hk := (Lib.lowest_bit 64 x hx0 hx).2
  have hcel : Cel E.β σ 0 (0 + (i : Int).toNat * 1) (.int .u8 (Lib.ctz 64 x : Int)) := by
    rw [show 0 + (i : Int).toNat * 1 = i by omega]
    exact .inr (ht i _ hti)
  repeat' (first | refine KW.seq ?_ | refine KW.region ?_ | refine KO.nil ?_ | refine At.then_normal ?_ | refine KW.skip ?_ | refine KW.ret ?_ | refine At.then_ret ?_ | refine KW.block ?_ | refine KW.exit ?_ | refine At.block_normal ?_ | refine At.block_ret ?_ | refine At.loop_ret ?_ | refine At.then_exit ?_ | refine At.block_here rfl ?_ | refine At.block_there rfl ?_ | refine At.loop_exit ?_ | refine At.cut_ret ?_ | refine At.cutA_ret ?_ | refine At.cutA_exit ?_ | refine At.cut_exit ?_ | (refine At.cut_same ?_; repeat' (first | exact FLe.nil _ | refine FLe.cons rfl rfl ?_)) | refine KW.cond_t rfl (by first | with_reducible rfl | decide) ?_ | refine KW.cond_f rfl (by first | with_reducible rfl | decide) ?_ | ((first | apply KO.val rfl rfl rfl ?kq ?_); (case kq => ((first | ((first | apply qt_mul rfl rfl rfl ?hi ?om | apply qt_mulU rfl rfl rfl ?hi ?om | apply qt_convI rfl rfl rfl rfl ?hi ?om | apply qt_convU rfl rfl rfl rfl ?hi ?om | apply qt_indexAddr_arr rfl rfl rfl ?hi rfl rfl ?om | apply qt_indexAddr_slice rfl rfl rfl ?hi rfl rfl ?om); (case om => (intro hg; first | omega | (simp only [kBool] at hg; omega)))) | apply qt_ev rfl ?hi | ((first | apply qt_load1 rfl rfl ?hi rfl rfl ?hm ?hc | apply qt_loadN rfl rfl ?hi rfl rfl rfl ?hm ?hc); (case hm => repeat (first | exact List.Mem.head _ | apply List.Mem.tail _ | apply List.mem_append_right _)); (case hc => rfl)) | apply qt_eqs rfl rfl rfl ?hi rfl (Or.inl rfl) | apply qt_nes rfl rfl rfl ?hi rfl (Or.inl rfl) | ((first | apply qt_shr rfl rfl rfl ?hi ?om); (case om => (intro hg; first | omega | (simp only [kBool] at hg; omega))))); (case hi => (intro h; (repeat' (first | with_reducible exact alln | with_reducible refine allc ?_ ?_ | with_reducible refine andi ?_ ?_)); all_goals (first | with_reducible rfl | with_reducible exact h | with_reducible exact andl h | with_reducible exact andr h | with_reducible exact andl (andl h) | (simp only [h, Bool.and_self]; done) | (simp [h]; done) | (simp_all; done))))))) | (refine KW.cond rfl ?_ ?_ <;> (intro hc; try simp only [kBool] at hc)) | exact absurd trivial ‹¬True› | (exfalso; omega) | fail)
  rw [hraw]
  repeat' (first | refine KW.seq ?_ | refine KW.region ?_ | refine KO.nil ?_ | refine At.then_normal ?_ | refine KW.skip ?_ | refine KW.ret ?_ | refine At.then_ret ?_ | refine KW.block ?_ | refine KW.exit ?_ | refine At.block_normal ?_ | refine At.block_ret ?_ | refine At.loop_ret ?_ | refine At.then_exit ?_ | refine At.block_here rfl ?_ | refine At.block_there rfl ?_ | refine At.loop_exit ?_ | refine At.cut_ret ?_ | refine At.cutA_ret ?_ | refine At.cutA_exit ?_ | refine At.cut_exit ?_ | (refine At.cut_same ?_; repeat' (first | exact FLe.nil _ | refine FLe.cons rfl rfl ?_)) | refine KW.cond_t rfl (by first | with_reducible rfl | decide) ?_ | refine KW.cond_f rfl (by first | with_reducible rfl | decide) ?_ | ((first | apply KO.val rfl rfl rfl ?kq ?_); (case kq => ((first | ((first | apply qt_mul rfl rfl rfl ?hi ?om | apply qt_mulU rfl rfl rfl ?hi ?om | apply qt_convI rfl rfl rfl rfl ?hi ?om | apply qt_convU rfl rfl rfl rfl ?hi ?om | apply qt_indexAddr_arr rfl rfl rfl ?hi rfl rfl ?om | apply qt_indexAddr_slice rfl rfl rfl ?hi rfl rfl ?om); (case om => (intro hg; first | omega | (simp only [kBool] at hg; omega)))) | apply qt_ev rfl ?hi | ((first | apply qt_load1 rfl rfl ?hi rfl rfl ?hm ?hc | apply qt_loadN rfl rfl ?hi rfl rfl rfl ?hm ?hc); (case hm => repeat (first | exact List.Mem.head _ | apply List.Mem.tail _ | apply List.mem_append_right _)); (case hc => rfl)) | apply qt_eqs rfl rfl rfl ?hi rfl (Or.inl rfl) | apply qt_nes rfl rfl rfl ?hi rfl (Or.inl rfl) | ((first | apply qt_shr rfl rfl rfl ?hi ?om); (case om => (intro hg; first | omega | (simp only [kBool] at hg; omega))))); (case hi => (intro h; (repeat' (first | with_reducible exact alln | with_reducible refine allc ?_ ?_ | with_reducible refine andi ?_ ?_)); all_goals (first | with_reducible rfl | with_reducible exact h | with_reducible exact andl h | with_reducible exact andr h | with_reducible exact andl (andl h) | (simp only [h, Bool.and_self]; done) | (simp [h]; done) | (simp_all; done))))))) | (refine KW.cond rfl ?_ ?_ <;> (intro hc; try simp only [kBool] at hc)) | exact absurd trivial ‹¬True› | (exfalso; omega) | ((first | apply KO.val (g := true) rfl rfl rfl); (first | (apply qt_loadN_cel rfl rfl ?hi rfl rfl rfl ?hl ?hc; (case hc => exact fun _ => (hcel)); (case hl => rfl)) | (apply qt_load1_cel rfl rfl ?hi rfl rfl ?hc; (case hc => first | exact fun _ => (hcel)))); (case hi => (first | exact fun _ => rfl | (intro h; first | rfl | exact h | (simp [h]; done) | (simp_all; done))))) | fail)
  ((first | apply At.done_ret | apply At.done_normal); (focus (repeat' (first | exact ResVs.nil' | apply ResVs.cons' | exact ResV.tmp' rfl | (apply ResV.cell1 rfl ?hm rfl rfl ?hc; (case hm => repeat (first | exact List.Mem.head _ | apply List.Mem.tail _ | apply List.mem_append_right _)); (case hc => rfl)) | (apply ResV.cellN rfl ?hm rfl rfl rfl ?hc; (case hm => repeat (first | exact List.Mem.head _ | apply List.Mem.tail _ | apply List.mem_append_right _)); (case hc => rfl))))); dsimp only [resVal])
  exact ⟨rfl, rfl⟩

/-! Bits, one by one. -/
theorem and_pred (t m : Nat) : (2 ^ t * (2 * m + 1)) &&& (2 ^ t * (2 * m + 1) - 1) = 2 ^ t * (2 * m) := by
  have hp : 0 < 2 ^ t := Nat.two_pow_pos t
  have e1 : 2 ^ t * (2 * m + 1) - 1 = 2 ^ t * (2 * m) + (2 ^ t - 1) := by rw [Nat.mul_add, Nat.mul_one]; omega
  apply Nat.eq_of_testBit_eq
  intro i
  have e2 : ∀ a, (2 ^ t * a).testBit i = (2 ^ t * a + 0).testBit i := fun a => by rw [Nat.add_zero]
  rw [Nat.testBit_and, e1, e2, e2, Nat.testBit_two_pow_mul_add _ hp, Nat.testBit_two_pow_mul_add _ hp, Nat.testBit_two_pow_mul_add _ (by omega)]
  by_cases h : i < t
  · simp [h]
  · rw [if_neg h, if_neg h, if_neg h]
    rcases hi : i - t with _ | j
    · simp
    · rw [Nat.testBit_succ, Nat.testBit_succ]
      have d1 : (2 * m + 1) / 2 = m := by omega
      have d2 : 2 * m / 2 = m := by omega
      rw [d1, d2, Bool.and_self]
/-- What is left of a word, from a bit on. -/
def Left (x : Nat) (f : Nat → Bool) (k b : Nat) : Prop := x < 18446744073709551616 ∧ ∀ i, x.testBit i = (decide (b ≤ i) && decide (i < 64) && f (64 * k + i))
theorem Left.zero (f : Nat → Bool) (k : Nat) : Left (W f k) f k 0 := ⟨W_lt f k, fun i => by rw [W_tb]; simp⟩
theorem Left.next {x : Nat} {f : Nat → Bool} {k b : Nat} (h : Left x f k b) (h0 : x ≠ 0) :
    b ≤ Lib.ctz 64 x ∧ Lib.ctz 64 x < 64 ∧ f (64 * k + Lib.ctz 64 x) = true ∧ cntB f (64 * k + Lib.ctz 64 x) = cntB f (64 * k + b) ∧ Left (x &&& (x - 1)) f k (Lib.ctz 64 x + 1) ∧ cntB f (64 * k + (Lib.ctz 64 x + 1)) = cntB f (64 * k + b) + 1 := by
  obtain ⟨m, hm, hk⟩ := Lib.ctzFrom_spec 64 x (by omega) h.1
  have e : Lib.ctz 64 x = Lib.ctzFrom 64 x := by simp [Lib.ctz, h0]
  rw [← e] at hm hk
  obtain ⟨t, ht⟩ : ∃ t, t = Lib.ctz 64 x := ⟨_, rfl⟩
  rw [← ht] at hm hk ⊢
  have hp : 0 < 2 ^ t := Nat.two_pow_pos t
  have hb : ∀ i, x.testBit i = if i < t then false else (2 * m + 1).testBit (i - t) := fun i => by
    rw [hm, show 2 ^ t * (2 * m + 1) = 2 ^ t * (2 * m + 1) + 0 by omega, Nat.testBit_two_pow_mul_add _ hp]; simp
  have h1 := h.2 t
  rw [hb, if_neg (Nat.lt_irrefl t), Nat.sub_self] at h1
  have h2 : (2 * m + 1).testBit 0 = true := by simp
  rw [h2] at h1
  have h3 := h1.symm
  simp only [Bool.and_eq_true, decide_eq_true_eq] at h3
  have hlow : ∀ i, b ≤ i → i < t → f (64 * k + i) = false := fun i h4 h5 => by
    have h6 := h.2 i
    rw [hb, if_pos h5] at h6
    have h7 : i < 64 := by omega
    simpa [h4, h7] using h6.symm
  have hcnt : ∀ d, b + d ≤ t → cntB f (64 * k + (b + d)) = cntB f (64 * k + b) := by
    intro d
    induction d with
    | zero => intro _; rfl
    | succ d ih =>
      intro hd
      show cntB f (64 * k + (b + d)) + (if f (64 * k + (b + d)) then 1 else 0) = _
      rw [ih (by omega), hlow (b + d) (by omega) (by omega)]; rfl
  have hct := hcnt (t - b) (by omega)
  rw [show b + (t - b) = t by omega] at hct
  refine ⟨h3.1.1, hk, h3.2, hct, ⟨Nat.lt_of_le_of_lt Nat.and_le_left h.1, fun i => ?_⟩, ?_⟩
  · have e2 : x &&& (x - 1) = 2 ^ t * (2 * m) := by rw [hm]; exact and_pred t m
    have e3 : (x &&& (x - 1)).testBit i = if i < t then false else (2 * m).testBit (i - t) := by
      rw [e2, show 2 ^ t * (2 * m) = 2 ^ t * (2 * m) + 0 by omega, Nat.testBit_two_pow_mul_add _ hp]; simp
    rw [e3]
    by_cases h5 : i < t
    · have h6 : ¬ t + 1 ≤ i := by omega
      simp [h5, h6]
    · rw [if_neg h5]
      by_cases h6 : i = t
      · subst h6
        have h9 : ¬ i + 1 ≤ i := by omega
        simp [h9]
      · have h7 := h.2 i
        rw [hb, if_neg h5] at h7
        obtain ⟨j, hj⟩ : ∃ j, i - t = j + 1 := ⟨i - t - 1, by omega⟩
        rw [hj, Nat.testBit_succ, show (2 * m + 1) / 2 = m by omega] at h7
        rw [hj, Nat.testBit_succ, show 2 * m / 2 = m by omega, h7]
        have h8 : b ≤ i := by omega
        have h9 : t + 1 ≤ i := by omega
        simp [h8, h9]
  · show cntB f (64 * k + t) + (if f (64 * k + t) then 1 else 0) = _
    rw [hct, h3.2]; rfl
theorem Left.done {f : Nat → Bool} {k b : Nat} (h : Left 0 f k b) (hb : b ≤ 64) : cntB f (64 * k + b) = cntB f (64 * (k + 1)) := by
  have hlow : ∀ i, b ≤ i → i < 64 → f (64 * k + i) = false := fun i h4 h5 => by
    have h6 := h.2 i
    rw [Nat.zero_testBit] at h6
    simpa [h4, h5] using h6.symm
  have hcnt : ∀ d, b + d ≤ 64 → cntB f (64 * k + (b + d)) = cntB f (64 * k + b) := by
    intro d
    induction d with
    | zero => intro _; rfl
    | succ d ih =>
      intro hd
      show cntB f (64 * k + (b + d)) + (if f (64 * k + (b + d)) then 1 else 0) = _
      rw [ih (by omega), hlow (b + d) (by omega) (by omega)]; rfl
  have := hcnt (64 - b) (by omega)
  rw [show b + (64 - b) = 64 by omega] at this
  rw [← this]; rfl
end Go.Proofs.YteehbjdohionlaaDoor

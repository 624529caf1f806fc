/- Masks: how many bits a word has; what a set has. -/
import Derived.Test.YteehbjdohionlaaDoorG3
import Derived.Test.YteehbjdohionlaaDoorPC
import Derived.Test.YteehbjdohionlaaDoorK19
namespace Go.Proofs.YteehbjdohionlaaDoor
open Go Go.K

theorem shr_k {a n : Nat} {k : Int} (hk : k = n) (hn : n ≤ 64) : ((a : Nat) : Int).fdiv (2 ^ min k.toNat IntKind.u64.bits) = ((a / 2 ^ n : Nat) : Int) := by
  subst hk; exact shr_b hn
theorem and_k {a n : Nat} {k : Int} (hk : k = n) (ha : a < 18446744073709551616) (hn : n < 18446744073709551616) : bits .and .u64 ((a : Nat) : Int) k = ((a &&& n : Nat) : Int) := by
  subst hk; exact and_b ha hn
theorem add_k {a b : Nat} (h : a + b < 18446744073709551616) : IntKind.u64.wrap ((a : Int) + (b : Int)) = ((a + b : Nat) : Int) := by
  rw [← Int.natCast_add]; exact wrap_u64 h
theorem r85 : rep 85 8 = 6148914691236517205 := by decide
theorem r51 : rep 51 8 = 3689348814741910323 := by decide
theorem r15 : rep 15 8 = 1085102592571150095 := by decide
theorem ones_raw {x : Nat} (hx : x < 18446744073709551616) :
    let y1 := IntKind.u64.wrap (bits .and .u64 ((x : Int).fdiv (2 ^ min (Int.toNat 1) IntKind.u64.bits)) 6148914691236517205 + bits .and .u64 (x : Int) 6148914691236517205)
    let y2 := IntKind.u64.wrap (bits .and .u64 (y1.fdiv (2 ^ min (Int.toNat 2) IntKind.u64.bits)) 3689348814741910323 + bits .and .u64 y1 3689348814741910323)
    let y3 := bits .and .u64 (IntKind.u64.wrap (y2.fdiv (2 ^ min (Int.toNat 4) IntKind.u64.bits) + y2)) 1085102592571150095
    let y4 := IntKind.u64.wrap (y3 + y3.fdiv (2 ^ min (Int.toNat 8) IntKind.u64.bits))
    let y5 := IntKind.u64.wrap (y4 + y4.fdiv (2 ^ min (Int.toNat 16) IntKind.u64.bits))
    let y6 := IntKind.u64.wrap (y5 + y5.fdiv (2 ^ min (Int.toNat 32) IntKind.u64.bits))
    bits .and .i64 (IntKind.i64.wrap y6) 127 = (ones x : Int) := by
  obtain ⟨_, _, g1, g2, g3, g4, g5, g6⟩ := ones_ok hx
  intro y1 y2 y3 y4 y5 y6
  have e1 : y1 = ((s1 8 x : Nat) : Int) := by
    show IntKind.u64.wrap _ = _
    rw [shr_k (n := 1) (k := 1) rfl (by decide), and_k (n := 6148914691236517205) (k := 6148914691236517205) rfl (Nat.lt_of_le_of_lt (Nat.div_le_self _ _) hx) (by decide), and_k (n := 6148914691236517205) (k := 6148914691236517205) rfl hx (by decide), add_k]
    · unfold s1; rw [r85]
    · unfold s1 at g1; rw [r85] at g1; exact g1
  have e2 : y2 = ((s2 8 (s1 8 x) : Nat) : Int) := by
    show IntKind.u64.wrap (bits .and .u64 (y1.fdiv _) _ + bits .and .u64 y1 _) = _
    rw [e1]
    rw [shr_k (n := 2) (k := 2) rfl (by decide), and_k (n := 3689348814741910323) (k := 3689348814741910323) rfl (Nat.lt_of_le_of_lt (Nat.div_le_self _ _) g1) (by decide), and_k (n := 3689348814741910323) (k := 3689348814741910323) rfl g1 (by decide), add_k]
    · show _ = ((s2 8 (s1 8 x) : Nat) : Int); unfold s2; rw [r51]
    · unfold s2 at g2; rw [r51] at g2; exact Nat.lt_trans g2 (by decide)
  have e3 : y3 = ((s3 8 (s2 8 (s1 8 x)) : Nat) : Int) := by
    show bits .and .u64 (IntKind.u64.wrap (y2.fdiv _ + y2)) _ = _
    rw [e2]
    have h4 : s2 8 (s1 8 x) / 2 ^ 4 + s2 8 (s1 8 x) < 18446744073709551616 := by
      have : s2 8 (s1 8 x) / 2 ^ 4 ≤ s2 8 (s1 8 x) := Nat.div_le_self _ _
      omega
    rw [shr_k (n := 4) (k := 4) rfl (by decide), add_k h4, and_k (n := 1085102592571150095) (k := 1085102592571150095) rfl h4 (by decide)]
    show _ = ((s3 8 (s2 8 (s1 8 x)) : Nat) : Int); unfold s3; rw [r15]
  have e4 : y4 = ((x4 x : Nat) : Int) := by
    show IntKind.u64.wrap (y3 + y3.fdiv _) = _
    rw [e3, shr_k (n := 8) (k := 8) rfl (by decide)]
    exact add_k g4
  have e5 : y5 = ((x5 x : Nat) : Int) := by
    show IntKind.u64.wrap (y4 + y4.fdiv _) = _
    rw [e4, shr_k (n := 16) (k := 16) rfl (by decide)]
    exact add_k g5
  have e6 : y6 = ((x5 x + x5 x / 4294967296 : Nat) : Int) := by
    show IntKind.u64.wrap (y5 + y5.fdiv _) = _
    rw [e5, shr_k (n := 32) (k := 32) rfl (by decide)]
    exact add_k (Nat.lt_trans g6 (by decide))
  rw [e6, wrap_i64 (by omega)]
  have := bits_mask .i64 63 (by decide) (fun n h0 h1 => wrap_i64 (by omega)) 7 (by decide) ((x5 x + x5 x / 4294967296 : Nat) : Int) (by omega) (by omega)
  rw [show ((2 : Int) ^ 7 - 1) = 127 by decide, show ((2 : Int) ^ 7) = 128 by decide] at this
  rw [this, ones]
  omega
theorem ones_p (x : Nat) (hx : x < 18446744073709551616) : Go.K.Pure Tryd.prog 51 #[.int .u64 (x : Int)] (.int .i64 (cnt x 64 : Int)) := by
  refine Tr.pure (Tr.of_body Tryd.tt (args := [.int .u64 (x : Int)]) (fr := [(0, true, .int .u64 (x : Int))]) Tryd.func51 rfl (by decide) rfl Tryd.ntmps51 rfl rfl ?_)
  intro E _
  repeat' (first | refine KW.seq ?_ | refine KW.region ?_ | refine KO.nil ?_ | refine At.then_normal ?_ | refine KW.skip ?_ | refine KW.ret ?_ | refine At.then_ret ?_ | refine KW.block ?_ | refine KW.exit ?_ | refine At.block_normal ?_ | refine At.block_ret ?_ | refine At.loop_ret ?_ | refine At.then_exit ?_ | refine At.block_here rfl ?_ | refine At.block_there rfl ?_ | refine At.loop_exit ?_ | refine At.cut_ret ?_ | refine At.cutA_ret ?_ | refine At.cutA_exit ?_ | refine At.cut_exit ?_ | (refine At.cut_same ?_; repeat' (first | exact FLe.nil _ | refine FLe.cons rfl rfl ?_)) | refine KW.cond_t rfl (by first | with_reducible rfl | decide) ?_ | refine KW.cond_f rfl (by first | with_reducible rfl | decide) ?_ | ((first | apply KO.val rfl rfl rfl ?kq ?_); (case kq => ((first | ((first | apply qt_add rfl rfl rfl ?hi ?om | apply qt_addU rfl rfl rfl ?hi ?om | apply qt_convI rfl rfl rfl rfl ?hi ?om | apply qt_convU rfl rfl rfl rfl ?hi ?om); (case om => (intro hg; first | omega | (simp only [kBool] at hg; omega)))) | apply qt_ev rfl ?hi | apply qt_eqs rfl rfl rfl ?hi rfl (Or.inl rfl) | apply qt_nes rfl rfl rfl ?hi rfl (Or.inl rfl) | ((first | apply qt_shr rfl rfl rfl ?hi ?om); (case om => (intro hg; first | omega | (simp only [kBool] at hg; omega))))); (case hi => (intro h; (repeat' (first | with_reducible exact alln | with_reducible refine allc ?_ ?_ | with_reducible refine andi ?_ ?_)); all_goals (first | with_reducible rfl | with_reducible exact h | with_reducible exact andl h | with_reducible exact andr h | with_reducible exact andl (andl h) | (simp only [h, Bool.and_self]; done) | (simp [h]; done) | (simp_all; done))))))) | (refine KW.cond rfl ?_ ?_ <;> (intro hc; try simp only [kBool] at hc)) | exact absurd trivial ‹¬True› | fail)
  ((first | apply At.done_ret | apply At.done_normal); (focus (repeat' (first | exact ResVs.nil' | apply ResVs.cons' | exact ResV.tmp' rfl | (apply ResV.cell1 rfl ?hm rfl rfl ?hc; (case hm => repeat (first | exact List.Mem.head _ | apply List.Mem.tail _ | apply List.mem_append_right _)); (case hc => rfl)) | (apply ResV.cellN rfl ?hm rfl rfl rfl ?hc; (case hm => repeat (first | exact List.Mem.head _ | apply List.Mem.tail _ | apply List.mem_append_right _)); (case hc => rfl))))); dsimp only [resVal])
  rw [← (ones_ok hx).1, ← ones_raw hx]
end Go.Proofs.YteehbjdohionlaaDoor

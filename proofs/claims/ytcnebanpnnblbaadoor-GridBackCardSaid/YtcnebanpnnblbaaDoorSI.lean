/- Numbers written as digits. -/
import Derived.Test.YtcnebanpnnblbaaDoorTt
import Derived.Test.YtcnebanpnnblbaaDoorKD
import Derived.Test.YtcnebanpnnblbaaDoorK32
import Derived.Test.YtcnebanpnnblbaaDoorK19
import Derived.Test.YtcnebanpnnblbaaDoorK20
namespace Go.Proofs.YtcnebanpnnblbaaDoor
open Go Go.K

/-- A number's digits, as bytes. -/
def numF : Nat → Nat → List Nat
  | 0, _ => []
  | k + 1, n => if n < 10 then [48 + n] else numF k (n / 10) ++ [48 + n % 10]
def numL (n : Nat) : List Nat := numF 20 n
theorem numF_more : ∀ (k j n : Nat), n < 10 ^ k → numF (k + 1 + j) n = numF (k + 1) n
  | 0, j, n, h => by
    have : n < 10 := by omega
    rw [show 0 + 1 + j = j + 1 by omega, numF, numF, if_pos this, if_pos this]
  | k + 1, j, n, h => by
    rw [show k + 1 + 1 + j = (k + 1 + j) + 1 by omega, numF, numF]
    by_cases h10 : n < 10
    · rw [if_pos h10, if_pos h10]
    · rw [if_neg h10, if_neg h10, numF_more k j (n / 10) (by rw [Nat.pow_succ] at h; omega)]
theorem numL_step {n : Nat} (h : n < 10 ^ 19) (h10 : 10 ≤ n) : numL n = numL (n / 10) ++ [48 + n % 10] := by
  unfold numL
  rw [numF, if_neg (by omega), numF_more 18 1 (n / 10) (by omega)]
theorem numL_small {n : Nat} (h : n < 10) : numL n = [48 + n] := by
  unfold numL
  rw [numF, if_pos h]
/-- How many bits. -/
def l8 (i : Nat) : Nat := if i = 0 then 0 else Nat.log2 i + 1
def len2 (x : Nat) : Nat := if x < 256 then l8 x else 8 + l8 (x / 256)
theorem l8_le {x : Nat} (h : x < 256) : l8 x ≤ 9 := by
  unfold l8
  split
  · omega
  · have := (Nat.log2_lt (n := x) (k := 8) (by omega)).2 (by omega)
    omega
theorem Len64_p (β : Nat → Option Obj) (σ : Heap) (x : Nat) (hx : x < 65536) : Go.K.Tr Tryd.prog 93 [.int .u64 (x : Int)] β σ (fun v s => v = .int .i64 (len2 x : Int) ∧ s = σ) := by
  refine Tr.of_body Tryd.tt (args := [.int .u64 (x : Int)]) (fr := [(0, true, .int .u64 (x : Int))]) Tryd.func93 rfl (by decide) rfl Tryd.ntmps93 rfl rfl ?_
  intro E hE
  subst hE
  have key : ∀ s : ByteArray, (∀ m : Fin 256, (byt s)[m.val]? = some (l8 m.val)) → ∀ k : Nat, k < 256 → (byt s)[k]? = some (l8 k) := fun s hs k hk => hs ⟨k, hk⟩
  by_cases h8 : x < 256
  · have htr := trivial
    repeat' (first | with_reducible refine KW.seq ?_ | with_reducible refine KW.region ?_ | with_reducible refine KO.nil ?_ | with_reducible refine At.then_normal ?_ | with_reducible refine KW.skip ?_ | with_reducible refine KW.ret ?_ | with_reducible refine At.then_ret ?_ | with_reducible refine KW.block ?_ | with_reducible refine KW.exit ?_ | with_reducible refine At.block_normal ?_ | with_reducible refine At.block_ret ?_ | with_reducible refine At.loop_ret ?_ | with_reducible refine At.then_exit ?_ | ((with_reducible refine At.block_here ?kbh ?_); (case kbh => rfl)) | ((with_reducible refine At.block_there ?kbt ?_); (case kbt => rfl)) | with_reducible refine At.loop_exit ?_ | with_reducible refine At.cut_ret ?_ | with_reducible refine At.cutA_ret ?_ | with_reducible refine At.cutA_exit ?_ | with_reducible refine At.cut_exit ?_ | ((with_reducible refine At.cut_same ?_); repeat' (first | exact FLe.nil _ | refine FLe.cons rfl rfl ?_)) | refine KW.cond_t rfl (by first | with_reducible rfl | decide) ?_ | refine KW.cond_f rfl (by first | with_reducible rfl | decide) ?_ | refine KW.scope ?_ | refine KW.label ?_ | refine At.scope_normal ?_ | refine At.scope_ret ?_ | refine At.scope_exit ?_ | ((first | apply KO.val rfl rfl rfl ?kq ?_); (case kq => ((first | ((first | apply qt_add rfl rfl rfl ?hi ?om | apply qt_addU rfl rfl rfl ?hi ?om | apply qt_convI rfl rfl rfl rfl ?hi ?om | apply qt_convU rfl rfl rfl rfl ?hi ?om); (case om => (intro hg; first | omega | (simp only [kBool] at hg; omega)))) | apply qt_ev rfl ?hi | apply qt_cap rfl rfl ?hi rfl | apply qt_eqs rfl rfl rfl ?hi rfl (Or.inl rfl) | apply qt_nes rfl rfl rfl ?hi rfl (Or.inl rfl) | ((first | apply qt_shr rfl rfl rfl ?hi ?om); (case om => (intro hg; first | omega | (simp only [kBool] at hg; omega))))); (case hi => (intro h; (repeat' (first | with_reducible exact alln | with_reducible refine allc ?_ ?_ | with_reducible refine andi ?_ ?_)); all_goals (first | with_reducible rfl | with_reducible exact h | with_reducible exact andl h | with_reducible exact andr h | with_reducible exact andl (andl h) | (simp only [h, Bool.and_self]; done) | (simp [h]; done) | (simp_all; done))))))) | (refine KW.cond rfl ?_ ?_ <;> (intro hc; try simp only [kBool] at hc)) | exact absurd trivial ‹¬True› | (exfalso; omega) | fail)
    have hw : IntKind.u8.wrap (x : Int) = (x : Int) := by rw [IntKind.wrap_u8]; omega
    have hl : len2 x = l8 x := if_pos h8
    have hb : l8 x ≤ 9 := l8_le h8
    rw [hw]
    refine KO.val rfl rfl rfl (qt_indexS (b := l8 x) rfl rfl rfl (fun _ => rfl) rfl (fun _ => ⟨by omega, key _ (by decide +kernel) _ (by omega)⟩)) ?_
    repeat' (first | with_reducible refine KW.seq ?_ | with_reducible refine KW.region ?_ | with_reducible refine KO.nil ?_ | with_reducible refine At.then_normal ?_ | with_reducible refine KW.skip ?_ | with_reducible refine KW.ret ?_ | with_reducible refine At.then_ret ?_ | with_reducible refine KW.block ?_ | with_reducible refine KW.exit ?_ | with_reducible refine At.block_normal ?_ | with_reducible refine At.block_ret ?_ | with_reducible refine At.loop_ret ?_ | with_reducible refine At.then_exit ?_ | ((with_reducible refine At.block_here ?kbh ?_); (case kbh => rfl)) | ((with_reducible refine At.block_there ?kbt ?_); (case kbt => rfl)) | with_reducible refine At.loop_exit ?_ | with_reducible refine At.cut_ret ?_ | with_reducible refine At.cutA_ret ?_ | with_reducible refine At.cutA_exit ?_ | with_reducible refine At.cut_exit ?_ | ((with_reducible refine At.cut_same ?_); repeat' (first | exact FLe.nil _ | refine FLe.cons rfl rfl ?_)) | refine KW.cond_t rfl (by first | with_reducible rfl | decide) ?_ | refine KW.cond_f rfl (by first | with_reducible rfl | decide) ?_ | refine KW.scope ?_ | refine KW.label ?_ | refine At.scope_normal ?_ | refine At.scope_ret ?_ | refine At.scope_exit ?_ | ((first | apply KO.val rfl rfl rfl ?kq ?_); (case kq => ((first | ((first | apply qt_add rfl rfl rfl ?hi ?om | apply qt_addU rfl rfl rfl ?hi ?om | apply qt_convI rfl rfl rfl rfl ?hi ?om | apply qt_convU rfl rfl rfl rfl ?hi ?om); (case om => (intro hg; first | omega | (simp only [kBool] at hg; omega)))) | apply qt_ev rfl ?hi | apply qt_cap rfl rfl ?hi rfl | apply qt_eqs rfl rfl rfl ?hi rfl (Or.inl rfl) | apply qt_nes rfl rfl rfl ?hi rfl (Or.inl rfl) | ((first | apply qt_shr rfl rfl rfl ?hi ?om); (case om => (intro hg; first | omega | (simp only [kBool] at hg; omega))))); (case hi => (intro h; (repeat' (first | with_reducible exact alln | with_reducible refine allc ?_ ?_ | with_reducible refine andi ?_ ?_)); all_goals (first | with_reducible rfl | with_reducible exact h | with_reducible exact andl h | with_reducible exact andr h | with_reducible exact andl (andl h) | (simp only [h, Bool.and_self]; done) | (simp [h]; done) | (simp_all; done))))))) | (refine KW.cond rfl ?_ ?_ <;> (intro hc; try simp only [kBool] at hc)) | exact absurd trivial ‹¬True› | (exfalso; omega) | fail)
    ((first | apply At.done_ret | apply At.done_normal); (focus (repeat' (first | exact ResVs.nil' | apply ResVs.cons' | exact ResV.tmp' rfl | (apply ResV.cell1 rfl ?hm rfl rfl ?hc; (case hm => repeat (first | exact List.Mem.head _ | apply List.Mem.tail _ | apply List.mem_append_right _)); (case hc => rfl)) | (apply ResV.cellN rfl ?hm rfl rfl rfl ?hc; (case hm => repeat (first | exact List.Mem.head _ | apply List.Mem.tail _ | apply List.mem_append_right _)); (case hc => rfl))))); dsimp only [resVal])
    rw [hl]
    refine ⟨?_, rfl⟩
    try simp
  · have htr := trivial
    repeat' (first | with_reducible refine KW.seq ?_ | with_reducible refine KW.region ?_ | with_reducible refine KO.nil ?_ | with_reducible refine At.then_normal ?_ | with_reducible refine KW.skip ?_ | with_reducible refine KW.ret ?_ | with_reducible refine At.then_ret ?_ | with_reducible refine KW.block ?_ | with_reducible refine KW.exit ?_ | with_reducible refine At.block_normal ?_ | with_reducible refine At.block_ret ?_ | with_reducible refine At.loop_ret ?_ | with_reducible refine At.then_exit ?_ | ((with_reducible refine At.block_here ?kbh ?_); (case kbh => rfl)) | ((with_reducible refine At.block_there ?kbt ?_); (case kbt => rfl)) | with_reducible refine At.loop_exit ?_ | with_reducible refine At.cut_ret ?_ | with_reducible refine At.cutA_ret ?_ | with_reducible refine At.cutA_exit ?_ | with_reducible refine At.cut_exit ?_ | ((with_reducible refine At.cut_same ?_); repeat' (first | exact FLe.nil _ | refine FLe.cons rfl rfl ?_)) | refine KW.cond_t rfl (by first | with_reducible rfl | decide) ?_ | refine KW.cond_f rfl (by first | with_reducible rfl | decide) ?_ | refine KW.scope ?_ | refine KW.label ?_ | refine At.scope_normal ?_ | refine At.scope_ret ?_ | refine At.scope_exit ?_ | ((first | apply KO.val rfl rfl rfl ?kq ?_); (case kq => ((first | ((first | apply qt_add rfl rfl rfl ?hi ?om | apply qt_addU rfl rfl rfl ?hi ?om | apply qt_convI rfl rfl rfl rfl ?hi ?om | apply qt_convU rfl rfl rfl rfl ?hi ?om); (case om => (intro hg; first | omega | (simp only [kBool] at hg; omega)))) | apply qt_ev rfl ?hi | apply qt_cap rfl rfl ?hi rfl | apply qt_eqs rfl rfl rfl ?hi rfl (Or.inl rfl) | apply qt_nes rfl rfl rfl ?hi rfl (Or.inl rfl) | ((first | apply qt_shr rfl rfl rfl ?hi ?om); (case om => (intro hg; first | omega | (simp only [kBool] at hg; omega))))); (case hi => (intro h; (repeat' (first | with_reducible exact alln | with_reducible refine allc ?_ ?_ | with_reducible refine andi ?_ ?_)); all_goals (first | with_reducible rfl | with_reducible exact h | with_reducible exact andl h | with_reducible exact andr h | with_reducible exact andl (andl h) | (simp only [h, Bool.and_self]; done) | (simp [h]; done) | (simp_all; done))))))) | (refine KW.cond rfl ?_ ?_ <;> (intro hc; try simp only [kBool] at hc)) | exact absurd trivial ‹¬True› | (exfalso; omega) | fail)
    have hw : IntKind.u8.wrap ((x : Int).fdiv (2 ^ min (Int.toNat 8) IntKind.u64.bits)) = ((x / 256 : Nat) : Int) := by
      rw [show (x : Int).fdiv (2 ^ min (Int.toNat 8) IntKind.u64.bits) = ((x / 2 ^ 8 : Nat) : Int) from shr_b (i := 8) (by decide), IntKind.wrap_u8]; omega
    have hl : len2 x = 8 + l8 (x / 256) := if_neg h8
    have hb : l8 (x / 256) ≤ 9 := l8_le (by omega)
    rw [hw]
    refine KO.val rfl rfl rfl (qt_indexS (b := l8 (x / 256)) rfl rfl rfl (fun _ => rfl) rfl (fun _ => ⟨by omega, key _ (by decide +kernel) _ (by omega)⟩)) ?_
    repeat' (first | with_reducible refine KW.seq ?_ | with_reducible refine KW.region ?_ | with_reducible refine KO.nil ?_ | with_reducible refine At.then_normal ?_ | with_reducible refine KW.skip ?_ | with_reducible refine KW.ret ?_ | with_reducible refine At.then_ret ?_ | with_reducible refine KW.block ?_ | with_reducible refine KW.exit ?_ | with_reducible refine At.block_normal ?_ | with_reducible refine At.block_ret ?_ | with_reducible refine At.loop_ret ?_ | with_reducible refine At.then_exit ?_ | ((with_reducible refine At.block_here ?kbh ?_); (case kbh => rfl)) | ((with_reducible refine At.block_there ?kbt ?_); (case kbt => rfl)) | with_reducible refine At.loop_exit ?_ | with_reducible refine At.cut_ret ?_ | with_reducible refine At.cutA_ret ?_ | with_reducible refine At.cutA_exit ?_ | with_reducible refine At.cut_exit ?_ | ((with_reducible refine At.cut_same ?_); repeat' (first | exact FLe.nil _ | refine FLe.cons rfl rfl ?_)) | refine KW.cond_t rfl (by first | with_reducible rfl | decide) ?_ | refine KW.cond_f rfl (by first | with_reducible rfl | decide) ?_ | refine KW.scope ?_ | refine KW.label ?_ | refine At.scope_normal ?_ | refine At.scope_ret ?_ | refine At.scope_exit ?_ | ((first | apply KO.val rfl rfl rfl ?kq ?_); (case kq => ((first | ((first | apply qt_add rfl rfl rfl ?hi ?om | apply qt_addU rfl rfl rfl ?hi ?om | apply qt_convI rfl rfl rfl rfl ?hi ?om | apply qt_convU rfl rfl rfl rfl ?hi ?om); (case om => (intro hg; first | omega | (simp only [kBool] at hg; omega)))) | apply qt_ev rfl ?hi | apply qt_cap rfl rfl ?hi rfl | apply qt_eqs rfl rfl rfl ?hi rfl (Or.inl rfl) | apply qt_nes rfl rfl rfl ?hi rfl (Or.inl rfl) | ((first | apply qt_shr rfl rfl rfl ?hi ?om); (case om => (intro hg; first | omega | (simp only [kBool] at hg; omega))))); (case hi => (intro h; (repeat' (first | with_reducible exact alln | with_reducible refine allc ?_ ?_ | with_reducible refine andi ?_ ?_)); all_goals (first | with_reducible rfl | with_reducible exact h | with_reducible exact andl h | with_reducible exact andr h | with_reducible exact andl (andl h) | (simp only [h, Bool.and_self]; done) | (simp [h]; done) | (simp_all; done))))))) | (refine KW.cond rfl ?_ ?_ <;> (intro hc; try simp only [kBool] at hc)) | exact absurd trivial ‹¬True› | (exfalso; omega) | fail)
    ((first | apply At.done_ret | apply At.done_normal); (focus (repeat' (first | exact ResVs.nil' | apply ResVs.cons' | exact ResV.tmp' rfl | (apply ResV.cell1 rfl ?hm rfl rfl ?hc; (case hm => repeat (first | exact List.Mem.head _ | apply List.Mem.tail _ | apply List.mem_append_right _)); (case hc => rfl)) | (apply ResV.cellN rfl ?hm rfl rfl rfl ?hc; (case hm => repeat (first | exact List.Mem.head _ | apply List.Mem.tail _ | apply List.mem_append_right _)); (case hc => rfl))))); dsimp only [resVal])
    rw [hl]
    refine ⟨?_, rfl⟩
    try simp
theorem log10_p (n : Int) (hn : 0 ≤ n ∧ n ≤ 17) : Go.K.Pure Tryd.prog 92 #[.int .i64 n] (.int .i64 (n * 78913 / 262144)) := by
  refine Tr.pure (Tr.of_body Tryd.tt (args := [.int .i64 n]) (fr := [(0, true, .int .i64 n)]) Tryd.func92 rfl (by decide) rfl Tryd.ntmps92 rfl rfl ?_)
  intro E _
  repeat' (first | with_reducible refine KW.seq ?_ | with_reducible refine KW.region ?_ | with_reducible refine KO.nil ?_ | with_reducible refine At.then_normal ?_ | with_reducible refine KW.skip ?_ | with_reducible refine KW.ret ?_ | with_reducible refine At.then_ret ?_ | with_reducible refine KW.block ?_ | with_reducible refine KW.exit ?_ | with_reducible refine At.block_normal ?_ | with_reducible refine At.block_ret ?_ | with_reducible refine At.loop_ret ?_ | with_reducible refine At.then_exit ?_ | ((with_reducible refine At.block_here ?kbh ?_); (case kbh => rfl)) | ((with_reducible refine At.block_there ?kbt ?_); (case kbt => rfl)) | with_reducible refine At.loop_exit ?_ | with_reducible refine At.cut_ret ?_ | with_reducible refine At.cutA_ret ?_ | with_reducible refine At.cutA_exit ?_ | with_reducible refine At.cut_exit ?_ | ((with_reducible refine At.cut_same ?_); repeat' (first | exact FLe.nil _ | refine FLe.cons rfl rfl ?_)) | refine KW.cond_t rfl (by first | with_reducible rfl | decide) ?_ | refine KW.cond_f rfl (by first | with_reducible rfl | decide) ?_ | refine KW.scope ?_ | refine KW.label ?_ | refine At.scope_normal ?_ | refine At.scope_ret ?_ | refine At.scope_exit ?_ | ((first | apply KO.val rfl rfl rfl ?kq ?_); (case kq => ((first | ((first | apply qt_mul rfl rfl rfl ?hi ?om); (case om => (intro hg; first | omega | (simp only [kBool] at hg; omega)))) | apply qt_ev rfl ?hi | apply qt_cap rfl rfl ?hi rfl | apply qt_eqs rfl rfl rfl ?hi rfl (Or.inl rfl) | apply qt_nes rfl rfl rfl ?hi rfl (Or.inl rfl) | ((first | apply qt_shr rfl rfl rfl ?hi ?om); (case om => (intro hg; first | omega | (simp only [kBool] at hg; omega))))); (case hi => (intro h; (repeat' (first | with_reducible exact alln | with_reducible refine allc ?_ ?_ | with_reducible refine andi ?_ ?_)); all_goals (first | with_reducible rfl | with_reducible exact h | with_reducible exact andl h | with_reducible exact andr h | with_reducible exact andl (andl h) | (simp only [h, Bool.and_self]; done) | (simp [h]; done) | (simp_all; done))))))) | (refine KW.cond rfl ?_ ?_ <;> (intro hc; try simp only [kBool] at hc)) | exact absurd trivial ‹¬True› | (exfalso; omega) | fail)
  ((first | apply At.done_ret | apply At.done_normal); (focus (repeat' (first | exact ResVs.nil' | apply ResVs.cons' | exact ResV.tmp' rfl | (apply ResV.cell1 rfl ?hm rfl rfl ?hc; (case hm => repeat (first | exact List.Mem.head _ | apply List.Mem.tail _ | apply List.mem_append_right _)); (case hc => rfl)) | (apply ResV.cellN rfl ?hm rfl rfl rfl ?hc; (case hm => repeat (first | exact List.Mem.head _ | apply List.Mem.tail _ | apply List.mem_append_right _)); (case hc => rfl))))); dsimp only [resVal])
  rw [show (2 : Int) ^ min (Int.toNat 18) IntKind.i64.bits = 262144 by decide, Int.fdiv_eq_ediv_of_nonneg _ (by omega)]
theorem bool2_p (b : Bool) : Go.K.Pure Tryd.prog 94 #[.bool b] (.int .i64 (if b then 1 else 0)) := by
  refine Tr.pure (Tr.of_body Tryd.tt (args := [.bool b]) (fr := [(0, true, .bool b)]) Tryd.func94 rfl (by decide) rfl Tryd.ntmps94 rfl rfl ?_)
  intro E _
  cases b
  · have htr := trivial
    repeat' (first | with_reducible refine KW.seq ?_ | with_reducible refine KW.region ?_ | with_reducible refine KO.nil ?_ | with_reducible refine At.then_normal ?_ | with_reducible refine KW.skip ?_ | with_reducible refine KW.ret ?_ | with_reducible refine At.then_ret ?_ | with_reducible refine KW.block ?_ | with_reducible refine KW.exit ?_ | with_reducible refine At.block_normal ?_ | with_reducible refine At.block_ret ?_ | with_reducible refine At.loop_ret ?_ | with_reducible refine At.then_exit ?_ | ((with_reducible refine At.block_here ?kbh ?_); (case kbh => rfl)) | ((with_reducible refine At.block_there ?kbt ?_); (case kbt => rfl)) | with_reducible refine At.loop_exit ?_ | with_reducible refine At.cut_ret ?_ | with_reducible refine At.cutA_ret ?_ | with_reducible refine At.cutA_exit ?_ | with_reducible refine At.cut_exit ?_ | ((with_reducible refine At.cut_same ?_); repeat' (first | exact FLe.nil _ | refine FLe.cons rfl rfl ?_)) | refine KW.cond_t rfl (by first | with_reducible rfl | decide) ?_ | refine KW.cond_f rfl (by first | with_reducible rfl | decide) ?_ | refine KW.scope ?_ | refine KW.label ?_ | refine At.scope_normal ?_ | refine At.scope_ret ?_ | refine At.scope_exit ?_ | ((first | apply KO.val rfl rfl rfl ?kq ?_); (case kq => ((first | apply qt_ev rfl ?hi | apply qt_cap rfl rfl ?hi rfl | apply qt_eqs rfl rfl rfl ?hi rfl (Or.inl rfl) | apply qt_nes rfl rfl rfl ?hi rfl (Or.inl rfl)); (case hi => (intro h; (repeat' (first | with_reducible exact alln | with_reducible refine allc ?_ ?_ | with_reducible refine andi ?_ ?_)); all_goals (first | with_reducible rfl | with_reducible exact h | with_reducible exact andl h | with_reducible exact andr h | with_reducible exact andl (andl h) | (simp only [h, Bool.and_self]; done) | (simp [h]; done) | (simp_all; done))))))) | (refine KW.cond rfl ?_ ?_ <;> (intro hc; try simp only [kBool] at hc)) | exact absurd trivial ‹¬True› | fail)
    ((first | apply At.done_ret | apply At.done_normal); (focus (repeat' (first | exact ResVs.nil' | apply ResVs.cons' | exact ResV.tmp' rfl | (apply ResV.cell1 rfl ?hm rfl rfl ?hc; (case hm => repeat (first | exact List.Mem.head _ | apply List.Mem.tail _ | apply List.mem_append_right _)); (case hc => rfl)) | (apply ResV.cellN rfl ?hm rfl rfl rfl ?hc; (case hm => repeat (first | exact List.Mem.head _ | apply List.Mem.tail _ | apply List.mem_append_right _)); (case hc => rfl))))); dsimp only [resVal])
    rfl
  · have htr := trivial
    repeat' (first | with_reducible refine KW.seq ?_ | with_reducible refine KW.region ?_ | with_reducible refine KO.nil ?_ | with_reducible refine At.then_normal ?_ | with_reducible refine KW.skip ?_ | with_reducible refine KW.ret ?_ | with_reducible refine At.then_ret ?_ | with_reducible refine KW.block ?_ | with_reducible refine KW.exit ?_ | with_reducible refine At.block_normal ?_ | with_reducible refine At.block_ret ?_ | with_reducible refine At.loop_ret ?_ | with_reducible refine At.then_exit ?_ | ((with_reducible refine At.block_here ?kbh ?_); (case kbh => rfl)) | ((with_reducible refine At.block_there ?kbt ?_); (case kbt => rfl)) | with_reducible refine At.loop_exit ?_ | with_reducible refine At.cut_ret ?_ | with_reducible refine At.cutA_ret ?_ | with_reducible refine At.cutA_exit ?_ | with_reducible refine At.cut_exit ?_ | ((with_reducible refine At.cut_same ?_); repeat' (first | exact FLe.nil _ | refine FLe.cons rfl rfl ?_)) | refine KW.cond_t rfl (by first | with_reducible rfl | decide) ?_ | refine KW.cond_f rfl (by first | with_reducible rfl | decide) ?_ | refine KW.scope ?_ | refine KW.label ?_ | refine At.scope_normal ?_ | refine At.scope_ret ?_ | refine At.scope_exit ?_ | ((first | apply KO.val rfl rfl rfl ?kq ?_); (case kq => ((first | apply qt_ev rfl ?hi | apply qt_cap rfl rfl ?hi rfl | apply qt_eqs rfl rfl rfl ?hi rfl (Or.inl rfl) | apply qt_nes rfl rfl rfl ?hi rfl (Or.inl rfl)); (case hi => (intro h; (repeat' (first | with_reducible exact alln | with_reducible refine allc ?_ ?_ | with_reducible refine andi ?_ ?_)); all_goals (first | with_reducible rfl | with_reducible exact h | with_reducible exact andl h | with_reducible exact andr h | with_reducible exact andl (andl h) | (simp only [h, Bool.and_self]; done) | (simp [h]; done) | (simp_all; done))))))) | (refine KW.cond rfl ?_ ?_ <;> (intro hc; try simp only [kBool] at hc)) | exact absurd trivial ‹¬True› | fail)
    ((first | apply At.done_ret | apply At.done_normal); (focus (repeat' (first | exact ResVs.nil' | apply ResVs.cons' | exact ResV.tmp' rfl | (apply ResV.cell1 rfl ?hm rfl rfl ?hc; (case hm => repeat (first | exact List.Mem.head _ | apply List.Mem.tail _ | apply List.mem_append_right _)); (case hc => rfl)) | (apply ResV.cellN rfl ?hm rfl rfl rfl ?hc; (case hm => repeat (first | exact List.Mem.head _ | apply List.Mem.tail _ | apply List.mem_append_right _)); (case hc => rfl))))); dsimp only [resVal])
    rfl
def pow10L : List Nat := [1, 10, 100, 1000, 10000, 100000, 1000000, 10000000, 100000000, 1000000000, 10000000000, 100000000000, 1000000000000, 10000000000000, 100000000000000, 1000000000000000, 10000000000000000, 100000000000000000, 1000000000000000000, 10000000000000000000]
def Tab64 (β : Nat → Option Obj) (g : Nat) (l : List Nat) : Prop := ∀ (j : Nat) (v : Nat), l[j]? = some v → Rc β g j (.int .u64 (v : Int))
theorem Tab64.up {β β' : Nat → Option Obj} {g : Nat} {l : List Nat} (hb : ∀ b o, β b = some o → β' b = some o) (h : Tab64 β g l) : Tab64 β' g l := fun j v hj => by
  obtain ⟨c, e, fz, h3, h4⟩ := h j v hj
  exact ⟨c, e, fz, hb _ _ h3, h4⟩
def TBp (β : Nat → Option Obj) : Prop := Tab64 β 1 pow10L
def ndg (x : Nat) : Nat := if x < 1000 then 3 else if x < 10000 then 4 else 5
theorem nd_ok {x : Nat} (h1 : 100 ≤ x) (h2 : x < 65536) : ∃ k v : Nat, (len2 x : Int) * 78913 / 262144 = (k : Int) ∧ k ≤ 4 ∧ pow10L[k]? = some v ∧ (v ≤ x → ndg x = k + 1) ∧ (x < v → ndg x = k) := by
  have h16 : len2 x ≤ 16 ∧ 7 ≤ len2 x ∧ 2 ^ (len2 x - 1) ≤ x ∧ x < 2 ^ len2 x := by
    unfold len2 l8
    by_cases h : x < 256
    · rw [if_pos h, if_neg (by omega)]
      have a1 := (Nat.log2_lt (n := x) (k := 8) (by omega)).2 (by omega)
      have a2 := Nat.log2_self_le (n := x) (by omega)
      have a3 := Nat.lt_log2_self (n := x)
      have a4 : 6 ≤ x.log2 := (Nat.le_log2 (by omega)).2 (by omega)
      exact ⟨by omega, by omega, by rw [Nat.add_sub_cancel]; exact a2, a3⟩
    · rw [if_neg h, if_neg (by omega)]
      have a1 := (Nat.log2_lt (n := x / 256) (k := 8) (by omega)).2 (by omega)
      have a2 := Nat.log2_self_le (n := x / 256) (by omega)
      have a3 := Nat.lt_log2_self (n := x / 256)
      have e : (2 : Nat) ^ 8 = 256 := by decide
      refine ⟨by omega, by omega, ?_, ?_⟩
      · rw [show 8 + ((x / 256).log2 + 1) - 1 = 8 + (x / 256).log2 by omega, Nat.pow_add, e]
        omega
      · rw [Nat.pow_add, e]
        omega
  obtain ⟨n, hn⟩ : ∃ n, n = len2 x := ⟨_, rfl⟩
  rw [← hn] at h16 ⊢
  obtain ⟨g1, g2, g3, g4⟩ := h16
  unfold ndg
  have hc : n = 7 ∨ n = 8 ∨ n = 9 ∨ n = 10 ∨ n = 11 ∨ n = 12 ∨ n = 13 ∨ n = 14 ∨ n = 15 ∨ n = 16 := by omega
  rcases hc with rfl | rfl | rfl | rfl | rfl | rfl | rfl | rfl | rfl | rfl
  all_goals simp only [Nat.reducePow, Nat.reduceSub] at g3 g4
  · exact ⟨2, 100, by decide, by decide, rfl, fun _ => by rw [if_pos (by omega)], fun _ => by omega⟩
  · exact ⟨2, 100, by decide, by decide, rfl, fun _ => by rw [if_pos (by omega)], fun _ => by omega⟩
  · exact ⟨2, 100, by decide, by decide, rfl, fun _ => by rw [if_pos (by omega)], fun _ => by omega⟩
  · exact ⟨3, 1000, by decide, by decide, rfl, fun _ => by rw [if_neg (by omega), if_pos (by omega)], fun _ => by rw [if_pos (by omega)]⟩
  · exact ⟨3, 1000, by decide, by decide, rfl, fun _ => by rw [if_neg (by omega), if_pos (by omega)], fun _ => by rw [if_pos (by omega)]⟩
  · exact ⟨3, 1000, by decide, by decide, rfl, fun _ => by rw [if_neg (by omega), if_pos (by omega)], fun _ => by rw [if_pos (by omega)]⟩
  · exact ⟨3, 1000, by decide, by decide, rfl, fun _ => by rw [if_neg (by omega), if_pos (by omega)], fun _ => by rw [if_pos (by omega)]⟩
  · exact ⟨4, 10000, by decide, by decide, rfl, fun _ => by rw [if_neg (by omega), if_neg (by omega)], fun _ => by rw [if_neg (by omega), if_pos (by omega)]⟩
  · exact ⟨4, 10000, by decide, by decide, rfl, fun _ => by rw [if_neg (by omega), if_neg (by omega)], fun _ => by omega⟩
  · exact ⟨4, 10000, by decide, by decide, rfl, fun _ => by rw [if_neg (by omega), if_neg (by omega)], fun _ => by omega⟩
theorem numDigits_p (β : Nat → Option Obj) (σ : Heap) (x : Nat) (h1 : 100 ≤ x) (h2 : x < 65536) (ht : TBp β) : Go.K.Tr Tryd.prog 76 [.int .u64 (x : Int)] β σ (fun v s => v = .int .i64 (ndg x : Int) ∧ s = σ) := by
  refine Tr.of_body Tryd.tt (args := [.int .u64 (x : Int)]) (fr := [(0, true, .int .u64 (x : Int))]) Tryd.func76 rfl (by decide) rfl Tryd.ntmps76 rfl rfl ?_
  intro E hE
  subst hE
  obtain ⟨k, v, e1, e2, e3, e4, e5⟩ := nd_ok h1 h2
  have hl16 : len2 x ≤ 17 := by
    unfold len2
    split
    · have := l8_le (x := x) (by omega); omega
    · have := l8_le (x := x / 256) (by omega); omega
  have hL := Len64_p E.β σ x h2
  have hG := log10_p (len2 x : Int) (by omega)
  rw [e1] at hG
  have hcel : Cel E.β σ 1 (0 + (k : Int).toNat * 1) (.int .u64 (v : Int)) := by
    rw [show 0 + (k : Int).toNat * 1 = k by omega]
    exact .inr (ht k v e3)
  repeat' (first | with_reducible refine KW.seq ?_ | with_reducible refine KW.region ?_ | with_reducible refine KO.nil ?_ | with_reducible refine At.then_normal ?_ | with_reducible refine KW.skip ?_ | with_reducible refine KW.ret ?_ | with_reducible refine At.then_ret ?_ | with_reducible refine KW.block ?_ | with_reducible refine KW.exit ?_ | with_reducible refine At.block_normal ?_ | with_reducible refine At.block_ret ?_ | with_reducible refine At.loop_ret ?_ | with_reducible refine At.then_exit ?_ | ((with_reducible refine At.block_here ?kbh ?_); (case kbh => rfl)) | ((with_reducible refine At.block_there ?kbt ?_); (case kbt => rfl)) | with_reducible refine At.loop_exit ?_ | with_reducible refine At.cut_ret ?_ | with_reducible refine At.cutA_ret ?_ | with_reducible refine At.cutA_exit ?_ | with_reducible refine At.cut_exit ?_ | ((with_reducible refine At.cut_same ?_); repeat' (first | exact FLe.nil _ | refine FLe.cons rfl rfl ?_)) | refine KW.cond_t rfl (by first | with_reducible rfl | decide) ?_ | refine KW.cond_f rfl (by first | with_reducible rfl | decide) ?_ | refine KW.scope ?_ | refine KW.label ?_ | refine At.scope_normal ?_ | refine At.scope_ret ?_ | refine At.scope_exit ?_ | ((first | apply KO.val rfl rfl rfl ?kq ?_); (case kq => ((first | ((first | apply qt_add rfl rfl rfl ?hi ?om | apply qt_addU rfl rfl rfl ?hi ?om | apply qt_indexAddr_arr rfl rfl rfl ?hi rfl rfl ?om | apply qt_indexAddr_slice rfl rfl rfl ?hi rfl rfl ?om); (case om => (intro hg; first | omega | (simp only [kBool] at hg; omega)))) | apply qt_ev rfl ?hi | ((first | apply qt_load1 rfl rfl ?hi rfl rfl ?hm ?hc | apply qt_loadN rfl rfl ?hi rfl rfl rfl ?hm ?hc); (case hm => repeat (first | exact List.Mem.head _ | apply List.Mem.tail _ | apply List.mem_append_right _)); (case hc => rfl)) | refine qt_callQ rfl rfl ?hi (fun hg => hL) | refine qt_call rfl rfl ?hi (fun hg => hG) | refine qt_call rfl rfl ?hi (fun hg => bool2_p _) | apply qt_cap rfl rfl ?hi rfl | apply qt_eqs rfl rfl rfl ?hi rfl (Or.inl rfl) | apply qt_nes rfl rfl rfl ?hi rfl (Or.inl rfl)); (case hi => (intro h; (repeat' (first | with_reducible exact alln | with_reducible refine allc ?_ ?_ | with_reducible refine andi ?_ ?_)); all_goals (first | with_reducible rfl | with_reducible exact h | with_reducible exact andl h | with_reducible exact andr h | with_reducible exact andl (andl h) | (simp only [h, Bool.and_self]; done) | (simp [h]; done) | (simp_all; done))))))) | (refine KW.cond rfl ?_ ?_ <;> (intro hc; try simp only [kBool] at hc)) | exact absurd trivial ‹¬True› | ((first | apply KO.val (g := true) rfl rfl rfl); (first | (apply qt_loadN_cel rfl rfl ?hi rfl rfl rfl ?hl ?hc; (case hc => exact fun _ => (hcel)); (case hl => rfl)) | (apply qt_load1_cel rfl rfl ?hi rfl rfl ?hc; (case hc => first | exact fun _ => (hcel)))); (case hi => (first | exact fun _ => rfl | (intro h; first | rfl | exact h | (simp [h]; done) | (simp_all; done))))) | (exfalso; omega) | fail)
  ((first | apply At.done_ret | apply At.done_normal); (focus (repeat' (first | exact ResVs.nil' | apply ResVs.cons' | exact ResV.tmp' rfl | (apply ResV.cell1 rfl ?hm rfl rfl ?hc; (case hm => repeat (first | exact List.Mem.head _ | apply List.Mem.tail _ | apply List.mem_append_right _)); (case hc => rfl)) | (apply ResV.cellN rfl ?hm rfl rfl rfl ?hc; (case hm => repeat (first | exact List.Mem.head _ | apply List.Mem.tail _ | apply List.mem_append_right _)); (case hc => rfl))))); dsimp only [resVal])
  refine ⟨?_, rfl⟩
  by_cases hv : v ≤ x
  · rw [e4 hv, if_pos (by simpa using hv)]
    rw [Int.natCast_add]; rfl
  · rw [e5 (by omega), if_neg (by simpa using hv)]
    simp
end Go.Proofs.YtcnebanpnnblbaaDoor

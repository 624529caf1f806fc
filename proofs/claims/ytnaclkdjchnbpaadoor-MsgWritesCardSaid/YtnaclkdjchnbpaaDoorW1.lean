/- Wire: bytes of one's own; how many bytes; readers. -/
import Derived.Test.YtnaclkdjchnbpaaDoorTt
import Derived.Test.YtnaclkdjchnbpaaDoorK12
namespace Go.Proofs.YtnaclkdjchnbpaaDoor
open Go.K

theorem Tryd.own : ownKnob Tryd.prog.godebug = none := by kernel_rfl
theorem Tryd.laidOut : laidOutB Tryd.prog = true := by kernel_rfl

def wMay (n : Int) : Bool := decide (1 ≤ n) && decide (n ≤ 8)
theorem may_p (n : Int) : Go.K.Pure Tryd.prog 77 #[.int .i64 n] (.bool (wMay n)) := by
  refine Tr.pure (Tr.of_body Tryd.tt (args := [.int .i64 n]) (fr := [(0, true, .int .i64 n)]) Tryd.func77 rfl (by decide) rfl Tryd.ntmps77 rfl rfl ?_)
  intro E _
  repeat' (first | refine KW.seq ?_ | refine KW.region ?_ | refine KO.nil ?_ | refine At.then_normal ?_ | refine KW.ret ?_ | ((first | apply KO.val rfl rfl rfl ?kq ?_ ); (case kq => ((first | apply qt_ev rfl ?hi | ((first | apply qt_pick_and rfl rfl rfl ?hi ?pj ); (case pj => (intro h h2; first | with_reducible exact h2 ))) ); (case hi => (intro h; (repeat' (first | with_reducible exact alln | with_reducible refine allc ?_ ?_ )); all_goals (first | with_reducible rfl | with_reducible exact h )))))) | fail)
  ((first | apply At.done_ret ); (focus (repeat' (first | exact ResVs.nil' | apply ResVs.cons' | exact ResV.tmp' rfl ))); dsimp only [resVal])
  all_goals rfl

theorem own_p (β : Nat → Option Obj) (σ : Heap) (m c : Nat) (xs : List Value) (p : Option Addr) (hv : SL β σ 1 m xs p) (hpc : p = none → c = 0 ∧ m = 0) (h1 : xs.all Value.oneCell' = true) (hm : m ≤ 281474976710656) :
    Go.K.Tr Tryd.prog 57 [.slice p m c] β σ (fun v' σ' => ∃ b, v' = .slice (some ⟨b, 0, none⟩) m m ∧ σ' = (b, cl xs 5) :: σ) := by
  refine Tr.of_body Tryd.tt (args := [.slice p m c]) (fr := [(0, true, .slice p m c)]) Tryd.func57 rfl (by decide) rfl Tryd.ntmps57 rfl rfl ?_
  intro E hE
  subst hE
  repeat' (first | refine KW.seq ?_ | refine KW.region ?_ | refine KO.nil ?_ | ((first | apply KO.val rfl rfl rfl ?kq ?_); (case kq => ((first | apply qt_ev rfl ?hi ); (case hi => (intro h; (repeat' (first | with_reducible exact alln | with_reducible refine allc ?_ ?_ )); all_goals (first | with_reducible rfl )))))) | fail)
  refine KO.makeSlice rfl rfl rfl rfl rfl rfl rfl rfl rfl rfl rfl ⟨by omega, by omega⟩ ⟨by omega, by omega⟩ ?_
  intro b hb
  have hx : xs.length = m := by have := hv.1; omega
  have e0 : ((m : Int)).toNat = m := by omega
  rw [e0]
  rw [flat_rep]
  repeat' (first | refine KW.seq ?_ | refine KW.region ?_ | refine KO.nil ?_ | ((first | apply KO.val rfl rfl rfl ?kq ?_); (case kq => ((first | apply qt_ev rfl ?hi ); (case hi => (intro h; (repeat' (first | with_reducible exact alln | with_reducible refine allc ?_ ?_ )); all_goals (first | with_reducible rfl )))))) | fail)
  have hv' := hv.mono (σ' := (b, cl (List.replicate m (Value.int .u8 0)) 5) :: σ) (fun q hq => List.mem_cons_of_mem _ hq)
  refine KO.copyL (i := 0) rfl rfl rfl rfl rfl rfl rfl rfl hv' hpc rfl h1 ?_ rfl ?_
  · simp
  have e2 : (List.replicate m (Value.int .u8 0)).take 0 ++ xs.take (min m m) ++ (List.replicate m (Value.int .u8 0)).drop (0 + min m m) = xs := by
    rw [Nat.min_self, Nat.zero_add, List.take_zero, List.nil_append, List.take_of_length_le (by omega), List.drop_of_length_le (by simp), List.append_nil]
  rw [e2]
  repeat' (first | refine KW.seq ?_ | refine KW.region ?_ | refine KO.nil ?_ | refine At.then_normal ?_ | refine KW.ret ?_ | ((first | apply KO.val rfl rfl rfl ?kq ?_); (case kq => ((first | apply qt_ev rfl ?hi ); (case hi => (intro h; (repeat' (first | with_reducible exact alln | with_reducible refine allc ?_ ?_ )); all_goals (first | with_reducible rfl )))))) | fail)
  ((first | apply At.done_ret ); (focus (repeat' (first | exact ResVs.nil' | apply ResVs.cons' | exact ResV.tmp' rfl ))); dsimp only [resVal])
  exact ⟨b, rfl, rfl⟩

theorem Read_p (β : Nat → Option Obj) (σ : Heap) (m c : Nat) (xs : List Value) (p : Option Addr) (hv : SL β σ 1 m xs p) (hpc : p = none → c = 0 ∧ m = 0) (h1 : xs.all Value.oneCell' = true) (hm : m ≤ 281474976710656) :
    Go.K.Tr Tryd.prog 64 [.slice p m c] β σ (fun v' σ' => ∃ br b, v' = .pointer (some ⟨br, 0, none⟩) ∧ br ≠ b ∧ σ' = (br, cl [.slice (some ⟨b, 0, none⟩) m m] 126) :: (b, cl xs 5) :: σ) := by
  refine Tr.of_body Tryd.tt (args := [.slice p m c]) (fr := [(0, true, .slice p m c)]) Tryd.func64 rfl (by decide) rfl Tryd.ntmps64 rfl rfl ?_
  intro E hE
  subst hE
  repeat' (first | refine KW.seq ?_ | refine KW.region ?_ | refine KO.nil ?_ | ((first | apply KO.val rfl rfl rfl ?kq ?_); (case kq => ((first | apply qt_ev rfl ?hi ); (case hi => (intro h; (repeat' (first | with_reducible exact alln | with_reducible refine allc ?_ ?_ )); all_goals (first | with_reducible rfl )))))) | fail)
  refine KO.callA rfl rfl rfl rfl rfl rfl rfl (own_p _ _ _ _ _ _ hv hpc h1 hm) ?_
  rintro _ _ ⟨b, rfl, rfl⟩
  repeat' (first | refine KO.nil ?_ | refine At.then_normal ?_ | refine KW.ret ?_ | ((first | apply KO.val rfl rfl rfl ?kq ?_); (case kq => ((first | apply qt_ev rfl ?hi | apply qt_build rfl rfl ?hi rfl ); (case hi => (intro h; (repeat' (first | with_reducible exact alln | with_reducible refine allc ?_ ?_ )); all_goals (first | with_reducible rfl )))))) | (refine KO.box rfl rfl rfl rfl rfl rfl ?_; intro _ _) | fail)
  ((first | apply At.done_ret ); (focus (repeat' (first | exact ResVs.nil' | apply ResVs.cons' | exact ResV.tmp' rfl ))); dsimp only [resVal])
  rename_i br hbr
  exact ⟨br, b, rfl, fun e => by subst e; simp at hbr, rfl⟩

theorem Rest_p (β : Nat → Option Obj) (σ : Heap) (br m c : Nat) (xs : List Value) (p : Option Addr) (hv : SL β ((br, cl [.slice p m c] 126) :: σ) 1 m xs p) (hpc : p = none → c = 0 ∧ m = 0) (h1 : xs.all Value.oneCell' = true) (hm : m ≤ 281474976710656) :
    Go.K.Tr Tryd.prog 46 [.pointer (some ⟨br, 0, none⟩)] β ((br, cl [.slice p m c] 126) :: σ) (fun v' σ' => ∃ b, v' = .slice (some ⟨b, 0, none⟩) m m ∧ σ' = (b, cl xs 5) :: (br, cl [.slice p m c] 126) :: σ) := by
  refine Tr.of_body Tryd.tt (args := [.pointer (some ⟨br, 0, none⟩)]) (fr := [(0, true, .pointer (some ⟨br, 0, none⟩))]) Tryd.func46 rfl (by decide) rfl Tryd.ntmps46 rfl rfl ?_
  intro E hE
  subst hE
  repeat' (first | refine KW.seq ?_ | refine KW.region ?_ | refine KO.nil ?_ | refine At.then_normal ?_ | refine KW.skip ?_ | refine KW.cond_f rfl (by first | with_reducible rfl ) ?_ | ((first | apply KO.val rfl rfl rfl ?kq ?_); (case kq => ((first | apply qt_ev rfl ?hi | ((first | apply qt_load1 rfl rfl ?hi rfl rfl ?hm ?hc ); (case hm => repeat (first | exact List.Mem.head _ )); (case hc => rfl)) | apply qt_eqs rfl rfl rfl ?hi rfl (Or.inl rfl) ); (case hi => (intro h; (repeat' (first | with_reducible exact alln | with_reducible refine allc ?_ ?_ | with_reducible refine andi ?_ ?_)); all_goals (first | with_reducible rfl )))))) | fail)
  refine KO.callA rfl rfl rfl rfl rfl rfl rfl (own_p _ _ _ _ _ _ hv hpc h1 hm) ?_
  rintro _ _ ⟨b, rfl, rfl⟩
  repeat' (first | refine KO.nil ?_ | refine At.then_normal ?_ | refine KW.ret ?_ | ((first | apply KO.val rfl rfl rfl ?kq ?_); (case kq => ((first | apply qt_ev rfl ?hi ); (case hi => (intro h; (repeat' (first | with_reducible exact alln | with_reducible refine allc ?_ ?_ )); all_goals (first | with_reducible rfl )))))) | fail)
  ((first | apply At.done_ret ); (focus (repeat' (first | exact ResVs.nil' | apply ResVs.cons' | exact ResV.tmp' rfl ))); dsimp only [resVal])
  exact ⟨b, rfl, rfl⟩

theorem step_u64 {xs : List Nat} {i b : Nat} (hi : i < 8) (hx : xs[i]? = some b) (hB : Byt xs) :
    bits .or .u64 (IntKind.u64.wrap (((num (xs.take i) : Nat) : Int) * 2 ^ (min (8 : Int).toNat IntKind.u64.bits))) (IntKind.u64.wrap (b : Int)) = ((num (xs.take (i + 1)) : Nat) : Int) := by
  have hlt := (List.getElem?_eq_some_iff.1 hx).1
  have h1 := num_lt i (xs.take i) (by rw [List.length_take]; omega) (hB.take i)
  have h2 : 256 ^ i ≤ 256 ^ 7 := Nat.pow_le_pow_right (by omega) (by omega)
  have h3 : (256 : Nat) ^ 7 = 72057594037927936 := by decide
  have h4 : b < 256 := hB b (List.mem_of_getElem? hx)
  have e1 : min (8 : Int).toNat IntKind.u64.bits = 8 := by decide
  rw [e1]
  have e2 : ((num (xs.take i) : Nat) : Int) * 2 ^ 8 = ((num (xs.take i) * 256 : Nat) : Int) := by
    rw [Int.natCast_mul]; rfl
  rw [wrap_u64 (n := b) (by omega)]
  have e3 : IntKind.u64.wrap (((num (xs.take i) : Nat) : Int) * 2 ^ 8) = ((num (xs.take i) : Nat) : Int) * 2 ^ 8 := by
    rw [e2, wrap_u64 (by omega)]
  rw [e3, or_u64 (by omega) h4, List.take_add_one, hx]
  simp only [Option.toList_some]
  rw [num_snoc]

theorem Take_p (β : Nat → Option Obj) (σ : Heap) (br m c : Nat) (xs : List Nat) (p : Option Addr) (size : Int) (hl : xs.length = m) (hB : Byt xs) (hmc : m ≤ c) (hv : SL β ((br, cl [.slice p m c] 126) :: σ) 1 m (by8 xs) p) (hm : m ≤ 281474976710656) :
    Go.K.Tr Tryd.prog 73 [.pointer (some ⟨br, 0, none⟩), .int .i64 size] β ((br, cl [.slice p m c] 126) :: σ) (fun v' σ' =>
      (wMay size = false ∧ v' = .tuple #[.int .u64 0, .int .i64 1] ∧ σ' = (br, cl [.slice p m c] 126) :: σ) ∨
      (wMay size = true ∧ (m : Int) < size ∧ v' = .tuple #[.int .u64 0, .int .i64 17] ∧ σ' = (br, cl [.slice p m c] 126) :: σ) ∨
      (wMay size = true ∧ size ≤ m ∧ v' = .tuple #[.int .u64 ((num (xs.take size.toNat) : Nat) : Int), .int .i64 0] ∧ σ' = (br, cl [.slice (adv 1 p c size.toNat) (m - size.toNat) (c - size.toNat)] 126) :: σ)) := by
  refine Tr.of_body Tryd.tt (args := [.pointer (some ⟨br, 0, none⟩), .int .i64 size]) (fr := [(0, true, .pointer (some ⟨br, 0, none⟩)), (1, true, .int .i64 size)]) Tryd.func73 rfl (by decide) rfl Tryd.ntmps73 rfl rfl ?_
  intro E hE
  subst hE
  repeat' (first | refine KW.seq ?_ | refine KW.region ?_ | refine KO.nil ?_ | refine At.then_normal ?_ | refine KW.skip ?_ | refine KW.ret ?_ | refine At.then_ret ?_ | refine KW.block ?_ | refine At.block_ret ?_ | refine KW.cond_f rfl (by first | with_reducible rfl ) ?_ | ((first | apply KO.val rfl rfl rfl ?kq ?_); (case kq => ((first | apply qt_ev rfl ?hi | ((first | apply qt_load1 rfl rfl ?hi rfl rfl ?hm ?hc ); (case hm => repeat (first | exact List.Mem.head _ )); (case hc => rfl)) | refine qt_call rfl rfl ?hi (fun hg => may_p _) | apply qt_eqs rfl rfl rfl ?hi rfl (Or.inl rfl) ); (case hi => (intro h; (repeat' (first | with_reducible exact alln | with_reducible refine allc ?_ ?_ | with_reducible refine andi ?_ ?_)); all_goals (first | with_reducible rfl )))))) | (refine KW.cond rfl ?_ ?_ <;> (intro hc; try simp only [kBool, wMay] at hc)) | fail)
  · ((first | apply At.done_ret ); (focus (repeat' (first | exact ResVs.nil' | apply ResVs.cons' | exact ResV.tmp' rfl ))); dsimp only [resVal])
    refine .inl ⟨?_, rfl, rfl⟩
    simp only [wMay, Bool.and_eq_false_iff, decide_eq_false_iff_not]; exact hc
  · ((first | apply At.done_ret ); (focus (repeat' (first | exact ResVs.nil' | apply ResVs.cons' | exact ResV.tmp' rfl ))); dsimp only [resVal])
    refine .inr (.inl ⟨?_, hc, rfl, rfl⟩)
    simp only [wMay, Bool.and_eq_true, decide_eq_true_eq]; assumption
  · obtain ⟨Z, rfl⟩ : ∃ Z : Nat, size = Z := ⟨size.toNat, by omega⟩
    have hZ : 1 ≤ Z ∧ Z ≤ 8 ∧ Z ≤ m := by omega
    refine KW.loop (fun i : Nat => i ≤ Z) (fun i => ([(24, true, .int .i64 (i : Int)), (23, true, .int .i64 (Z : Int)), (6, true, .int .u64 ((num (xs.take i) : Nat) : Int)), (0, true, .pointer (some ⟨br, 0, none⟩)), (1, true, .int .i64 (Z : Int))], (br, cl [.slice p m c] 126) :: σ)) (fun i => Z - i) 0
      (Nat.zero_le _) (Le.sub (FLe.cons rfl rfl (FLe.cons rfl rfl (FLe.cons rfl rfl (FLe.cons rfl rfl (FLe.cons rfl rfl (FLe.nil _)))))) (List.Sublist.refl _)) ?_
    intro i hi
    dsimp only
    have hv1 := hv
    repeat' (first | refine KW.seq ?_ | refine KW.region ?_ | refine KO.nil ?_ | refine At.then_normal ?_ | refine KW.skip ?_ | refine KW.ret ?_ | refine KW.block ?_ | refine KW.exit ?_ | ((first | apply KO.val rfl rfl rfl ?kq ?_); (case kq => ((first | ((first | apply qt_add rfl rfl rfl ?hi ?om | apply qt_indexAddr_slice rfl rfl rfl ?hi rfl rfl ?om | apply qt_sliceL rfl rfl rfl ?hi rfl rfl ?om ); (case om => (intro hg; first | omega ))) | apply qt_ev rfl ?hi | ((first | apply qt_load1 rfl rfl ?hi rfl rfl ?hm ?hc ); (case hm => repeat (first | exact List.Mem.head _ )); (case hc => rfl)) | ((first | apply qt_shl rfl rfl rfl ?hi ?om); (case om => (intro hg; first | omega )))); (case hi => (intro h; (repeat' (first | with_reducible exact alln | with_reducible refine allc ?_ ?_ | with_reducible refine andi ?_ ?_)); all_goals (first | with_reducible rfl )))))) | (apply KO.store (i := _) rfl rfl rfl rfl rfl rfl rfl rfl ?hl ?sg ?hw ?ho ?hs; (case sg => first | exact (rfl : getI 0 _ = _) ); (case hl => rfl); (case hw => rfl); (case ho => rfl); (case hs => rfl)) | (refine KW.cond rfl ?_ ?_ <;> (intro hc; try simp only [kBool] at hc)) | ((replace hv1 := hv1.2 (by omega)); (obtain ⟨b1, o1, rfl, h1⟩ := hv1); (have hib : (0 : Int) ≤ i ∧ (i : Int) < m := by omega); (obtain ⟨y, hy⟩ : ∃ y, xs[i]? = some y := ⟨_, List.getElem?_eq_getElem (by omega)⟩)) | ((first | apply KO.val (g := true) rfl rfl rfl); (first | (apply qt_load1_cel rfl rfl ?hi rfl rfl ?hc; (case hc => first | exact fun _ => (cel8 h1 hy)))); (case hi => (first | exact fun _ => rfl ))) | fail)
    · refine At.loop_on (i + 1) (by omega) (by omega) (Le.sub (FLe.cons rfl rfl (FLe.cons rfl rfl (FLe.cons rfl ?_ (FLe.cons rfl rfl (FLe.cons rfl rfl (FLe.nil _)))))) (List.Sublist.refl _))
      rw [step_u64 (by omega) hy hB]
    · ((first | apply At.done_ret ); (focus (repeat' (first | exact ResVs.nil' | apply ResVs.cons' | exact ResV.tmp' rfl ))); dsimp only [resVal])
      have : i = Z := by omega
      subst this
      refine .inr (.inr ⟨?_, by omega, rfl, ?_⟩)
      · simp only [wMay, Bool.and_eq_true, decide_eq_true_eq]; omega
      · rfl
end Go.Proofs.YtnaclkdjchnbpaaDoor

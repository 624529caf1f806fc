/- Wire: a number, put; all bytes. -/
import Derived.Test.YtnaclkdjchnbpaaDoorW1
import Derived.Test.YtnaclkdjchnbpaaDoorK13
namespace Go.Proofs.YtnaclkdjchnbpaaDoor
open Go.K

/-- The first k of the size bytes of a number, the highest first. -/
def bes (X size k : Nat) : List Nat := (List.range k).map fun j => X / 2 ^ (8 * (size - 1 - j)) % 256
theorem bes_succ (X size k : Nat) : bes X size (k + 1) = bes X size k ++ [X / 2 ^ (8 * (size - 1 - k)) % 256] := by
  simp [bes, List.range_succ]
theorem bes_len (X size k : Nat) : (bes X size k).length = k := by simp [bes]
theorem bes_byt (X size k : Nat) : Byt (bes X size k) := fun n hn => by
  obtain ⟨j, _, rfl⟩ := List.mem_map.1 hn
  exact Nat.mod_lt _ (by decide)
theorem fdiv_nat (X n : Nat) : (X : Int).fdiv (2 ^ n) = ((X / 2 ^ n : Nat) : Int) := by
  rw [Int.fdiv_eq_ediv_of_nonneg _ (Int.le_of_lt (Int.pow_pos (by decide))), Int.natCast_ediv, Int.natCast_pow]
  rfl
theorem wrap_u8 (n : Nat) : IntKind.u8.wrap (n : Int) = ((n % 256 : Nat) : Int) := by
  rw [IntKind.wrap_u8]; omega

structure S19 where
  k : Nat
  v : Value
  φ : Heap

def putE (X : Nat) (size : Int) : Int := if wMay size then (if size < 8 ∧ X / 2 ^ (8 * size.toNat) ≠ 0 then 10 else 0) else 1
def putB (X : Nat) (size : Int) : List Nat := if putE X size = 0 then bes X size.toNat size.toNat else []
set_option maxHeartbeats 2000000 in
theorem Put_p (β : Nat → Option Obj) (bw m : Nat) (v : Value) (φ : Heap) (xs : List Nat) (hl : xs.length = m) (hv : Vec 5 1 m (by8 xs) v φ) (hm : m ≤ 1000000) (X : Nat) (size : Int) (hX : X < 18446744073709551616) :
    Go.K.Tr Tryd.prog 70 [.pointer (some ⟨bw, 0, none⟩), .int .u64 X, .int .i64 size] β ((bw, cl [v] 76) :: φ) (fun v' σ' =>
      v' = .int .i64 (putE X size) ∧ ∃ u φ', Vec 5 1 (m + (putB X size).length) (by8 (xs ++ putB X size)) u φ' ∧ σ' = (bw, cl [u] 76) :: φ') := by
  refine Tr.sub ?_
  obtain ⟨pv, cv, rfl⟩ := hv.len
  refine Tr.of_body Tryd.tt (args := [.pointer (some ⟨bw, 0, none⟩), .int .u64 X, .int .i64 size]) (fr := [(0, true, .pointer (some ⟨bw, 0, none⟩)), (1, true, .int .u64 X), (2, true, .int .i64 size)]) Tryd.func70 rfl (by decide) rfl Tryd.ntmps70 rfl rfl ?_
  intro E hE
  subst hE
  have hsh : ∀ s : Int, 0 ≤ s ∧ s ≤ 8 → (X : Int).fdiv (2 ^ min (8 * s).toNat IntKind.u64.bits) = ((X / 2 ^ (8 * s.toNat) : Nat) : Int) := by
    intro s hs
    have : min (8 * s).toNat IntKind.u64.bits = 8 * s.toNat := by show min (8 * s).toNat 64 = _; omega
    rw [this, fdiv_nat]
  repeat' (first | refine KW.seq ?_ | refine KW.region ?_ | refine KO.nil ?_ | refine At.then_normal ?_ | refine KW.skip ?_ | refine KW.ret ?_ | refine At.then_ret ?_ | refine KW.block ?_ | refine At.block_ret ?_ | refine KW.cond_f rfl (by first | with_reducible rfl ) ?_ | ((first | apply KO.val rfl rfl rfl ?kq ?_ ); (try (case ksub => (intro _ hp; first | exact hp | (cases hp; done) | (repeat (first | exact hp | apply List.mem_cons_of_mem | apply List.mem_append_right)) | (simp_all; done)))); (case kq => ((first | ((first | apply qt_mul rfl rfl rfl ?hi ?om ); (case om => (intro hg; first | omega ))) | apply qt_ev rfl ?hi | refine qt_call rfl rfl ?hi (fun hg => may_p _) | ((first | apply qt_pick_and rfl rfl rfl ?hi ?pj ); (case pj => (intro h h2; first | with_reducible exact h2 ))) | apply qt_eqs rfl rfl rfl ?hi rfl (Or.inl rfl) | ((first | apply qt_shr rfl rfl rfl ?hi ?om); (case om => (intro hg; first | omega )))); (case hi => (intro h; (repeat' (first | with_reducible exact alln | with_reducible refine allc ?_ ?_ | with_reducible refine andi ?_ ?_)); all_goals (first | with_reducible rfl | with_reducible exact h )))))) | (refine KW.cond rfl ?_ ?_ <;> (intro hc; try simp only [kBool, wMay] at hc)) | fail)
  · ((first | apply At.done_ret ); (focus (repeat' (first | exact ResVs.nil' | apply ResVs.cons' | exact ResV.tmp' rfl ))); dsimp only [resVal])
    have e : putE X size = 1 := by
      have : wMay size = false := by simp only [wMay, Bool.and_eq_false_iff, decide_eq_false_iff_not]; exact hc
      simp [putE, this]
    rw [e]
    refine ⟨_, List.Sublist.refl _, rfl, _, φ, ?_, rfl⟩
    simp [putB, e]; exact hv
  · ((first | apply At.done_ret ); (focus (repeat' (first | exact ResVs.nil' | apply ResVs.cons' | exact ResV.tmp' rfl ))); dsimp only [resVal])
    rw [hsh size (by omega)] at hc
    have hw : wMay size = true := by simp only [wMay, Bool.and_eq_true, decide_eq_true_eq]; assumption
    have e : putE X size = 10 := by
      have h2 : X / 2 ^ (8 * size.toNat) ≠ 0 := fun h => hc.2 (by rw [h]; rfl)
      simp only [putE, hw, if_true, hc.1, h2, ne_eq, not_false_eq_true, and_self]
    rw [e]
    refine ⟨_, List.Sublist.refl _, rfl, _, φ, ?_, rfl⟩
    simp [putB, e]; exact hv
  · obtain ⟨Z, rfl⟩ : ∃ Z : Nat, size = Z := ⟨size.toNat, by omega⟩
    have hZ : 1 ≤ Z ∧ Z ≤ 8 := by omega
    refine KW.loop (fun s : S19 => s.k ≤ Z ∧ Vec 5 1 (m + s.k) (by8 (xs ++ bes X Z s.k)) s.v s.φ) (fun s => ([(26, true, .int .i64 (s.k : Int)), (25, true, .int .i64 (Z : Int)), (1, true, .int .u64 (X : Int)), (2, true, .int .i64 (Z : Int)), (0, true, .pointer (some ⟨bw, 0, none⟩))], (bw, cl [s.v] 76) :: s.φ)) (fun s => Z - s.k) ⟨0, _, φ⟩
      ⟨Nat.zero_le _, by simpa [bes] using hv⟩ (Le.sub (FLe.cons rfl rfl (FLe.cons rfl rfl (FLe.cons rfl rfl (FLe.cons rfl rfl (FLe.cons rfl rfl (FLe.nil _)))))) (List.Sublist.refl _)) ?_
    rintro ⟨k, u, φ⟩ ⟨hk, hu⟩
    dsimp only at hk hu ⊢
    obtain ⟨pu, cu, rfl⟩ := hu.len
    repeat' (first | refine KW.seq ?_ | refine KW.region ?_ | refine KO.nil ?_ | refine At.then_normal ?_ | refine KW.skip ?_ | refine KW.ret ?_ | refine KW.block ?_ | refine KW.exit ?_ | refine KW.drawM (id := 10) [1, 0, 0, 0, 0, 0, 0, 0, 0, 0, 0, 0, 0, 2, 3] [] (by decide +kernel) rfl rfl rfl ?_ | refine KDH.mid2 ?_ | refine KDH.mid3 ?_ | refine KDH.done ?_ | refine KDM.head0 ?_ | refine KDM.head1 ?_ | ((first | refine KDM.eo2f rfl rfl rfl (eo_buildSlice rfl rfl rfl rfl rfl rfl rfl rfl rfl rfl rfl) ?_ ); rintro _ _ ⟨_, _, rfl, rfl⟩; refine ⟨?sub, ?_⟩; (case sub => (intro _ hp; first | (repeat (first | exact hp | apply List.mem_cons_of_mem )) ))) | ((first | apply KO.val rfl rfl rfl ?kq ?_ | apply KDH.val0 rfl rfl rfl ?kq ?_ | apply KDH.val1 rfl rfl rfl ?kq ?_ ); (try (case ksub => (intro _ hp; first | exact hp | (cases hp; done) | (repeat (first | exact hp | apply List.mem_cons_of_mem | apply List.mem_append_right)) | (simp_all; done)))); (case kq => ((first | ((first | apply qt_sub rfl rfl rfl ?hi ?om | apply qt_mul rfl rfl rfl ?hi ?om ); (case om => (intro hg; first | omega ))) | apply qt_ev rfl ?hi | ((first | apply qt_load1 rfl rfl ?hi rfl rfl ?hm ?hc ); (case hm => repeat (first | exact List.Mem.head _ )); (case hc => rfl)) | ((first | apply qt_shr rfl rfl rfl ?hi ?om); (case om => (intro hg; first | omega )))); (case hi => (intro h; (repeat' (first | with_reducible exact alln | with_reducible refine allc ?_ ?_ | with_reducible refine andi ?_ ?_)); all_goals (first | with_reducible rfl )))))) | (refine KW.cond rfl ?_ ?_ <;> (intro hc; try simp only [kBool] at hc)) | fail)
    · have e1 : IntKind.u8.wrap ((X : Int).fdiv (2 ^ min (8 * ((Z : Int) - 1 - (k : Int))).toNat IntKind.u64.bits)) = ((X / 2 ^ (8 * (Z - 1 - k)) % 256 : Nat) : Int) := by
        rw [hsh _ (by omega), show ((Z : Int) - 1 - (k : Int)).toNat = Z - 1 - k by omega, wrap_u8]
      refine KDM.eo3 rfl rfl rfl (eo_append [_, (bw, _)] φ rfl rfl rfl rfl rfl rfl rfl (by decide) rfl hu (k := 1) (news := by8 [X / 2 ^ (8 * (Z - 1 - k)) % 256]) rfl ?_ rfl ?_ ?_) ?_
      · intro j w hj
        refine .inl ⟨_, _, List.Mem.head _, ?_⟩
        rw [e1]
        simpa [by8] using hj
      · simp only [maxLen]; omega
      · omega
      · rintro v' _ ⟨φ', hv', rfl⟩
        refine ⟨(by intro p hp; cases hp), ?_⟩
        obtain ⟨p', c', rfl⟩ := hv'.len
        rw [← by8_append, List.append_assoc, ← bes_succ] at hv'
        repeat' (first | refine KW.region ?_ | refine KO.nil ?_ | refine KDM.fin ?_ | ((first | apply KO.val rfl rfl rfl ?kq ?_ ); (try (case ksub => (intro _ hp; first | exact hp | (cases hp; done) | (repeat (first | exact hp | apply List.mem_cons_of_mem | apply List.mem_append_right)) | (simp_all; done)))); (case kq => ((first | ((first | apply qt_add rfl rfl rfl ?hi ?om ); (case om => (intro hg; first | omega ))) | apply qt_ev rfl ?hi ); (case hi => (intro h; (repeat' (first | with_reducible exact alln | with_reducible refine allc ?_ ?_ | with_reducible refine andi ?_ ?_)); all_goals (first | with_reducible rfl )))))) | (apply KO.store (i := _) rfl rfl rfl rfl rfl rfl rfl rfl ?hl ?sg ?hw ?ho ?hs; (case sg => first | exact (rfl : getI 1 _ = _) ); (case hl => rfl); (case hw => rfl); (case ho => rfl); (case hs => rfl)) | fail)
        refine At.loop_on ⟨k + 1, _, φ'⟩ ⟨by dsimp only; omega, hv'⟩ (by dsimp only; omega) (Le.sub (FLe.cons rfl rfl (FLe.cons rfl rfl (FLe.cons rfl rfl (FLe.cons rfl rfl (FLe.cons rfl rfl (FLe.nil _)))))) (List.Sublist.cons _ (List.Sublist.refl _)))
    · ((first | apply At.done_ret ); (focus (repeat' (first | exact ResVs.nil' | apply ResVs.cons' | exact ResV.tmp' rfl ))); dsimp only [resVal])
      have hk2 : k = Z := by omega
      subst hk2
      have e : putE X (k : Int) = 0 := by
        have h1 : wMay (k : Int) = true := by simp only [wMay, Bool.and_eq_true, decide_eq_true_eq]; omega
        have hc3 : ¬ ((k : Int) < 8) ∨ ((X / 2 ^ (8 * (k : Int).toNat) : Nat) : Int) = 0 := by
          rw [← hsh _ (by omega)]; assumption
        have h2 : ¬ ((k : Int) < 8 ∧ X / 2 ^ (8 * (k : Int).toNat) ≠ 0) := by
          rintro ⟨h3, h4⟩
          rcases hc3 with h | h
          · exact h h3
          · exact h4 (by omega)
        rw [putE, h1, if_pos rfl, if_neg h2]
      rw [e]
      refine ⟨_, List.Sublist.refl _, rfl, _, φ, ?_, rfl⟩
      simp only [putB, e, if_true, Int.toNat_natCast, bes_len]
      exact hu
theorem Bytes_p (β : Nat → Option Obj) (bw m : Nat) (v : Value) (φ : Heap) (xs : List Nat) (hl : xs.length = m) (hv : Vec 5 1 m (by8 xs) v φ) (hm : m ≤ 1000000) :
    Go.K.Tr Tryd.prog 31 [.pointer (some ⟨bw, 0, none⟩)] β ((bw, cl [v] 76) :: φ) (fun v' σ' => ∃ b, v' = .slice (some ⟨b, 0, none⟩) m m ∧ σ' = (b, cl (by8 xs) 5) :: (bw, cl [v] 76) :: φ) := by
  obtain ⟨pv, cv, rfl⟩ := hv.len
  refine Tr.of_body Tryd.tt (args := [.pointer (some ⟨bw, 0, none⟩)]) (fr := [(0, true, .pointer (some ⟨bw, 0, none⟩))]) Tryd.func31 rfl (by decide) rfl Tryd.ntmps31 rfl rfl ?_
  intro E hE
  subst hE
  repeat' (first | refine KW.seq ?_ | refine KW.region ?_ | refine KO.nil ?_ | refine At.then_normal ?_ | refine KW.skip ?_ | refine KW.cond_f rfl (by first | with_reducible rfl ) ?_ | ((first | apply KO.val rfl rfl rfl ?kq ?_); (case kq => ((first | apply qt_ev rfl ?hi | ((first | apply qt_load1 rfl rfl ?hi rfl rfl ?hm ?hc ); (case hm => repeat (first | exact List.Mem.head _ )); (case hc => rfl)) | apply qt_eqs rfl rfl rfl ?hi rfl (Or.inl rfl) ); (case hi => (intro h; (repeat' (first | with_reducible exact alln | with_reducible refine allc ?_ ?_ | with_reducible refine andi ?_ ?_)); all_goals (first | with_reducible rfl )))))) | fail)
  refine KO.callA rfl rfl rfl rfl rfl rfl rfl (own_p _ _ _ _ (by8 xs) _ (SL.ofVec hv (fun q hq => List.mem_cons_of_mem _ hq)) ?_ (by8_one _) (by omega)) ?_
  · rintro rfl
    rcases hv.2 with ⟨h1, h2, _⟩ | ⟨g, cap, sp, h1, _⟩
    · simp only [Value.slice.injEq] at h1; exact ⟨h1.2.2, h2⟩
    · simp at h1
  rintro _ _ ⟨b, rfl, rfl⟩
  repeat' (first | refine KO.nil ?_ | refine At.then_normal ?_ | refine KW.ret ?_ | ((first | apply KO.val rfl rfl rfl ?kq ?_); (case kq => ((first | apply qt_ev rfl ?hi ); (case hi => (intro h; (repeat' (first | with_reducible exact alln | with_reducible refine allc ?_ ?_ )); all_goals (first | with_reducible rfl )))))) | fail)
  ((first | apply At.done_ret ); (focus (repeat' (first | exact ResVs.nil' | apply ResVs.cons' | exact ResV.tmp' rfl ))); dsimp only [resVal])
  exact ⟨b, rfl, rfl⟩
end Go.Proofs.YtnaclkdjchnbpaaDoor

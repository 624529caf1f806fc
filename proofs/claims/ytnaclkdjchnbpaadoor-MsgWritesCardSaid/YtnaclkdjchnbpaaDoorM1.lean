/- msg.form: a number put, or taken; what went wrong first. -/
import Derived.Test.YtnaclkdjchnbpaaDoorE6
namespace Go.Proofs.YtnaclkdjchnbpaaDoor
open Go Go.K

set_option maxHeartbeats 2000000 in
theorem PutF_p (β : Nat → Option Obj) (bw m : Nat) (a rv dv ev : Value) (v : Value) (φ : Heap) (xs : List Nat) (hl : xs.length = m) (hv : Vec 5 1 m (by8 xs) v φ) (hm : m ≤ 1000000) (X : Nat) (size : Int) (hX : X < 18446744073709551616) :
    Go.K.Tr Tryd.prog 70 [.pointer (some ⟨bw, 1, none⟩), .int .u64 X, .int .i64 size] β ((bw, cl [a, v, rv, dv, ev] 80) :: φ) (fun v' σ' =>
      v' = .int .i64 (putE X size) ∧ ∃ u φ', Vec 5 1 (m + (putB X size).length) (by8 (xs ++ putB X size)) u φ' ∧ σ' = (bw, cl [a, u, rv, dv, ev] 80) :: φ') := by
  refine Tr.sub ?_
  obtain ⟨pv, cv, rfl⟩ := hv.len
  refine Tr.of_body Tryd.tt (args := [.pointer (some ⟨bw, 1, none⟩), .int .u64 X, .int .i64 size]) (fr := [(0, true, .pointer (some ⟨bw, 1, none⟩)), (1, true, .int .u64 X), (2, true, .int .i64 size)]) Tryd.func70 rfl (by decide) rfl Tryd.ntmps70 rfl rfl ?_
  intro E hE
  subst hE
  have hsh : ∀ s : Int, 0 ≤ s ∧ s ≤ 8 → (X : Int).fdiv (2 ^ min (8 * s).toNat IntKind.u64.bits) = ((X / 2 ^ (8 * s.toNat) : Nat) : Int) := by
    intro s hs
    have : min (8 * s).toNat IntKind.u64.bits = 8 * s.toNat := by show min (8 * s).toNat 64 = _; omega
    rw [this, fdiv_nat]
  repeat' (first | refine KW.seq ?_ | refine KW.region ?_ | refine KO.nil ?_ | refine At.then_normal ?_ | refine KW.skip ?_ | refine KW.ret ?_ | refine At.then_ret ?_ | refine KW.block ?_ | refine At.block_ret ?_ | refine KW.cond_f rfl (by first | with_reducible rfl ) ?_ | ((first | apply KO.val rfl rfl rfl ?kq ?_ ); (try (case ksub => (intro _ hp; first | exact hp | (cases hp; done) | (repeat (first | exact hp | apply List.mem_cons_of_mem | apply List.mem_append_right)) | (simp_all; done)))); (case kq => ((first | ((first | apply qt_mul rfl rfl rfl ?hi ?om ); (case om => (intro hg; first | omega ))) | apply qt_ev rfl ?hi | refine qt_call rfl rfl ?hi (fun hg => may_p _) | ((first | apply qt_pick_and rfl rfl rfl ?hi ?pj ); (case pj => (intro h h2; first | with_reducible exact h2 ))) | apply qt_eqs rfl rfl rfl ?hi rfl (Or.inl rfl) | ((first | apply qt_shr rfl rfl rfl ?hi ?om); (case om => (intro hg; first | omega )))); (case hi => (intro h; (repeat' (first | with_reducible exact alln | with_reducible refine allc ?_ ?_ | with_reducible refine andi ?_ ?_)); all_goals (first | with_reducible rfl | with_reducible exact h )))))) | (refine KW.cond rfl ?_ ?_ <;> (intro hc; try simp only [kBool, wMay] at hc)) | fail)
  · ((first | apply At.done_ret ); (focus (repeat' (first | exact ResVs.nil' | apply ResVs.cons' | exact ResV.tmp' rfl ))); dsimp only [resVal])
    have e : putE X size = 1 := by
      have : wMay size = false := by simp only [wMay, Bool.and_eq_false_iff, decide_eq_false_iff_not]; exact hc
      simp [putE, this]
    rw [e]
    refine ⟨_, List.Sublist.refl _, rfl, _, φ, ?_, rfl⟩
    simp [putB, e]; exact hv
  · ((first | apply At.done_ret ); (focus (repeat' (first | exact ResVs.nil' | apply ResVs.cons' | exact ResV.tmp' rfl ))); dsimp only [resVal])
    rw [hsh size (by omega)] at hc
    have hw : wMay size = true := by simp only [wMay, Bool.and_eq_true, decide_eq_true_eq]; assumption
    have e : putE X size = 10 := by
      have h2 : X / 2 ^ (8 * size.toNat) ≠ 0 := fun h => hc.2 (by rw [h]; rfl)
      simp only [putE, hw, if_true, hc.1, h2, ne_eq, not_false_eq_true, and_self]
    rw [e]
    refine ⟨_, List.Sublist.refl _, rfl, _, φ, ?_, rfl⟩
    simp [putB, e]; exact hv
  · obtain ⟨Z, rfl⟩ : ∃ Z : Nat, size = Z := ⟨size.toNat, by omega⟩
    have hZ : 1 ≤ Z ∧ Z ≤ 8 := by omega
    refine KW.loop (fun s : S19 => s.k ≤ Z ∧ Vec 5 1 (m + s.k) (by8 (xs ++ bes X Z s.k)) s.v s.φ) (fun s => ([(26, true, .int .i64 (s.k : Int)), (25, true, .int .i64 (Z : Int)), (1, true, .int .u64 (X : Int)), (2, true, .int .i64 (Z : Int)), (0, true, .pointer (some ⟨bw, 1, none⟩))], (bw, cl [a, s.v, rv, dv, ev] 80) :: s.φ)) (fun s => Z - s.k) ⟨0, _, φ⟩
      ⟨Nat.zero_le _, by simpa [bes] using hv⟩ (Le.sub (FLe.cons rfl rfl (FLe.cons rfl rfl (FLe.cons rfl rfl (FLe.cons rfl rfl (FLe.cons rfl rfl (FLe.nil _)))))) (List.Sublist.refl _)) ?_
    rintro ⟨k, u, φ⟩ ⟨hk, hu⟩
    dsimp only at hk hu ⊢
    obtain ⟨pu, cu, rfl⟩ := hu.len
    repeat' (first | refine KW.seq ?_ | refine KW.region ?_ | refine KO.nil ?_ | refine At.then_normal ?_ | refine KW.skip ?_ | refine KW.ret ?_ | refine KW.block ?_ | refine KW.exit ?_ | refine KW.drawM (id := 10) [1, 0, 0, 0, 0, 0, 0, 0, 0, 0, 0, 0, 0, 2, 3] [] (by decide +kernel) rfl rfl rfl ?_ | refine KDH.mid2 ?_ | refine KDH.mid3 ?_ | refine KDH.done ?_ | refine KDM.head0 ?_ | refine KDM.head1 ?_ | ((first | refine KDM.eo2f rfl rfl rfl (eo_buildSlice rfl rfl rfl rfl rfl rfl rfl rfl rfl rfl rfl) ?_ ); rintro _ _ ⟨_, _, rfl, rfl⟩; refine ⟨?sub, ?_⟩; (case sub => (intro _ hp; first | (repeat (first | exact hp | apply List.mem_cons_of_mem )) ))) | ((first | apply KO.val rfl rfl rfl ?kq ?_ | apply KDH.val0 rfl rfl rfl ?kq ?_ | apply KDH.val1 rfl rfl rfl ?kq ?_ ); (try (case ksub => (intro _ hp; first | exact hp | (cases hp; done) | (repeat (first | exact hp | apply List.mem_cons_of_mem | apply List.mem_append_right)) | (simp_all; done)))); (case kq => ((first | ((first | apply qt_sub rfl rfl rfl ?hi ?om | apply qt_mul rfl rfl rfl ?hi ?om ); (case om => (intro hg; first | omega ))) | apply qt_ev rfl ?hi | ((first | apply qt_load1 rfl rfl ?hi rfl rfl ?hm ?hc ); (case hm => repeat (first | exact List.Mem.head _ )); (case hc => rfl)) | ((first | apply qt_shr rfl rfl rfl ?hi ?om); (case om => (intro hg; first | omega )))); (case hi => (intro h; (repeat' (first | with_reducible exact alln | with_reducible refine allc ?_ ?_ | with_reducible refine andi ?_ ?_)); all_goals (first | with_reducible rfl )))))) | (refine KW.cond rfl ?_ ?_ <;> (intro hc; try simp only [kBool] at hc)) | fail)
    · have e1 : IntKind.u8.wrap ((X : Int).fdiv (2 ^ min (8 * ((Z : Int) - 1 - (k : Int))).toNat IntKind.u64.bits)) = ((X / 2 ^ (8 * (Z - 1 - k)) % 256 : Nat) : Int) := by
        rw [hsh _ (by omega), show ((Z : Int) - 1 - (k : Int)).toNat = Z - 1 - k by omega, wrap_u8]
      refine KDM.eo3 rfl rfl rfl (eo_append [_, (bw, _)] φ rfl rfl rfl rfl rfl rfl rfl (by decide) rfl hu (k := 1) (news := by8 [X / 2 ^ (8 * (Z - 1 - k)) % 256]) rfl ?_ rfl ?_ ?_) ?_
      · intro j w hj
        refine .inl ⟨_, _, List.Mem.head _, ?_⟩
        rw [e1]
        simpa [by8] using hj
      · simp only [maxLen]; omega
      · omega
      · rintro v' _ ⟨φ', hv', rfl⟩
        refine ⟨(by intro p hp; cases hp), ?_⟩
        obtain ⟨p', c', rfl⟩ := hv'.len
        rw [← by8_append, List.append_assoc, ← bes_succ] at hv'
        repeat' (first | refine KW.region ?_ | refine KO.nil ?_ | refine KDM.fin ?_ | ((first | apply KO.val rfl rfl rfl ?kq ?_ ); (try (case ksub => (intro _ hp; first | exact hp | (cases hp; done) | (repeat (first | exact hp | apply List.mem_cons_of_mem | apply List.mem_append_right)) | (simp_all; done)))); (case kq => ((first | ((first | apply qt_add rfl rfl rfl ?hi ?om ); (case om => (intro hg; first | omega ))) | apply qt_ev rfl ?hi ); (case hi => (intro h; (repeat' (first | with_reducible exact alln | with_reducible refine allc ?_ ?_ | with_reducible refine andi ?_ ?_)); all_goals (first | with_reducible rfl )))))) | (apply KO.store (i := _) rfl rfl rfl rfl rfl rfl rfl rfl ?hl ?sg ?hw ?ho ?hs; (case sg => first | exact (rfl : getI 1 _ = _) ); (case hl => rfl); (case hw => rfl); (case ho => rfl); (case hs => rfl)) | fail)
        refine At.loop_on ⟨k + 1, _, φ'⟩ ⟨by dsimp only; omega, hv'⟩ (by dsimp only; omega) (Le.sub (FLe.cons rfl rfl (FLe.cons rfl rfl (FLe.cons rfl rfl (FLe.cons rfl rfl (FLe.cons rfl rfl (FLe.nil _)))))) (List.Sublist.cons _ (List.Sublist.refl _)))
    · ((first | apply At.done_ret ); (focus (repeat' (first | exact ResVs.nil' | apply ResVs.cons' | exact ResV.tmp' rfl ))); dsimp only [resVal])
      have hk2 : k = Z := by omega
      subst hk2
      have e : putE X (k : Int) = 0 := by
        have h1 : wMay (k : Int) = true := by simp only [wMay, Bool.and_eq_true, decide_eq_true_eq]; omega
        have hc3 : ¬ ((k : Int) < 8) ∨ ((X / 2 ^ (8 * (k : Int).toNat) : Nat) : Int) = 0 := by
          rw [← hsh _ (by omega)]; assumption
        have h2 : ¬ ((k : Int) < 8 ∧ X / 2 ^ (8 * (k : Int).toNat) ≠ 0) := by
          rintro ⟨h3, h4⟩
          rcases hc3 with h | h
          · exact h h3
          · exact h4 (by omega)
        rw [putE, h1, if_pos rfl, if_neg h2]
      rw [e]
      refine ⟨_, List.Sublist.refl _, rfl, _, φ, ?_, rfl⟩
      simp only [putB, e, if_true, Int.toNat_natCast, bes_len]
      exact hu

/-- What went wrong first, as it lies. -/
def EV (what : ByteArray) (x : Option (ByteArray × Int)) (ev : Value) (ε : Heap) : Prop :=
  match x with
  | none => ev = .nilIface ∧ ε = []
  | some (n, e) => ∃ b c, ev = .iface 100 (.pointer (some ⟨b, 0, none⟩)) ∧ ε = [(b, cl [.string what, .iface 100 (.pointer (some ⟨c, 0, none⟩))] 108), (c, cl [.string n, .iface 32 (.int .i64 e)] 108)]
/-- A first fault stays. -/
def note (x : Option (ByteArray × Int)) (n : ByteArray) (e : Int) : Option (ByteArray × Int) := match x with
  | none => if e = 0 then none else some (n, e)
  | some y => some y
theorem wrongS_p (β : Nat → Option Obj) (bf : Nat) (n : ByteArray) (e : Int) (a wv rv dv : Value) (T : TypeId) (u : Value) (σ : Heap) :
    Go.K.Tr Tryd.prog 53 [.pointer (some ⟨bf, 0, none⟩), .string n, .int .i64 e] β ((bf, cl [a, wv, rv, dv, .iface T u] 80) :: σ) (fun _ σ' => σ' = (bf, cl [a, wv, rv, dv, .iface T u] 80) :: σ) := by
  refine Tr.of_body Tryd.tt (args := [.pointer (some ⟨bf, 0, none⟩), .string n, .int .i64 e]) (fr := [(0, true, .pointer (some ⟨bf, 0, none⟩)), (1, true, .string n), (2, true, .int .i64 e)]) Tryd.func53 rfl (by decide) rfl Tryd.ntmps53 rfl rfl ?_
  intro E hE
  subst hE
  repeat' (first | refine KW.seq ?_ | refine KW.region ?_ | refine KO.nil ?_ | refine At.then_normal ?_ | refine KW.skip ?_ | refine KW.cond_f rfl (by first | with_reducible rfl ) ?_ | ((first | apply KO.val rfl rfl rfl ?kq ?_ ); (case kq => ((first | apply qt_ev rfl ?hi | ((first | apply qt_load1 rfl rfl ?hi rfl rfl ?hm ?hc ); (case hm => repeat (first | exact List.Mem.head _ )); (case hc => rfl)) | apply qt_eqs rfl rfl rfl ?hi rfl (Or.inl rfl) ); (case hi => (intro h; (repeat' (first | with_reducible exact alln | with_reducible refine allc ?_ ?_ | with_reducible refine andi ?_ ?_)); all_goals (first | with_reducible rfl )))))) | fail)
  ((first | apply At.done_normal); (focus (repeat' (first | exact ResVs.nil' ))); dsimp only [resVal])
theorem wrong0_p (β : Nat → Option Obj) (bf : Nat) (n what : ByteArray) (wv rv dv : Value) (σ : Heap) :
    Go.K.Tr Tryd.prog 53 [.pointer (some ⟨bf, 0, none⟩), .string n, .int .i64 0] β ((bf, cl [.string what, wv, rv, dv, .nilIface] 80) :: σ) (fun _ σ' => σ' = (bf, cl [.string what, wv, rv, dv, .nilIface] 80) :: σ) := by
  refine Tr.of_body Tryd.tt (args := [.pointer (some ⟨bf, 0, none⟩), .string n, .int .i64 0]) (fr := [(0, true, .pointer (some ⟨bf, 0, none⟩)), (1, true, .string n), (2, true, .int .i64 0)]) Tryd.func53 rfl (by decide) rfl Tryd.ntmps53 rfl rfl ?_
  intro E hE
  subst hE
  repeat' (first | refine KW.seq ?_ | refine KW.region ?_ | refine KO.nil ?_ | refine At.then_normal ?_ | refine KW.cond_t rfl (by first | with_reducible rfl ) ?_ | refine KW.drawU rfl (by decide +kernel) ?_ | refine KD.zero ?_ | ((first | apply KO.val rfl rfl rfl ?kq ?_ | apply KD.val rfl rfl rfl ?kq ?_); (case kq => ((first | apply qt_ev rfl ?hi | ((first | apply qt_load1 rfl rfl ?hi rfl rfl ?hm ?hc ); (case hm => repeat (first | exact List.Mem.head _ )); (case hc => rfl)) | refine qt_callQ rfl rfl ?hi (fun hg => Tr.quiet (Raise0_p E.β n)) | refine qt_callQ rfl rfl ?hi (fun hg => Tr.quiet (WrapNil_p E.β what)) | apply qt_eqs rfl rfl rfl ?hi rfl (Or.inr ⟨rfl, rfl, rfl⟩) ); (case hi => (intro h; (repeat' (first | with_reducible exact alln | with_reducible refine allc ?_ ?_ | with_reducible refine andi ?_ ?_)); all_goals (first | with_reducible rfl )))))) | (apply KO.store (i := _) rfl rfl rfl rfl rfl rfl rfl rfl ?hl ?sg ?hw ?ho ?hs; (case sg => first | exact (rfl : getI 0 _ = _) ); (case hl => rfl); (case hw => rfl); (case ho => rfl); (case hs => rfl)) | fail)
  ((first | apply At.done_normal); (focus (repeat' (first | exact ResVs.nil' ))); dsimp only [resVal])
theorem wrong1_p (β : Nat → Option Obj) (bf : Nat) (n what : ByteArray) (e : Int) (he : e ≠ 0) (wv rv dv : Value) (σ : Heap) :
    Go.K.Tr Tryd.prog 53 [.pointer (some ⟨bf, 0, none⟩), .string n, .int .i64 e] β ((bf, cl [.string what, wv, rv, dv, .nilIface] 80) :: σ) (fun _ σ' => ∃ ev ε, EV what (some (n, e)) ev ε ∧ σ' = (bf, cl [.string what, wv, rv, dv, ev] 80) :: ε ++ σ) := by
  refine Tr.perm ?_
  refine Tr.of_body Tryd.tt (args := [.pointer (some ⟨bf, 0, none⟩), .string n, .int .i64 e]) (fr := [(0, true, .pointer (some ⟨bf, 0, none⟩)), (1, true, .string n), (2, true, .int .i64 e)]) Tryd.func53 rfl (by decide) rfl Tryd.ntmps53 rfl rfl ?_
  intro E hE
  subst hE
  repeat' (first | refine KW.seq ?_ | refine KW.region ?_ | refine KO.nil ?_ | refine At.then_normal ?_ | refine KW.cond_t rfl (by first | with_reducible rfl ) ?_ | refine KW.drawM (id := 1) [0, 0, 0, 0, 0, 0, 0, 2, 2] [] (by decide +kernel) rfl rfl rfl ?_ | refine KDH.mid2 ?_ | refine KDH.done ?_ | refine KDM.head0 ?_ | ((first | apply KO.val rfl rfl rfl ?kq ?_ | apply KDH.val0 rfl rfl rfl ?kq ?_ ); (try (case ksub => (intro _ hp; first | exact hp | (cases hp; done) | (repeat (first | exact hp | apply List.mem_cons_of_mem | apply List.mem_append_right)) | (simp_all; done)))); (case kq => ((first | apply qt_ev rfl ?hi | ((first | apply qt_load1 rfl rfl ?hi rfl rfl ?hm ?hc ); (case hm => repeat (first | exact List.Mem.head _ )); (case hc => rfl)) | apply qt_eqs rfl rfl rfl ?hi rfl (Or.inr ⟨rfl, rfl, rfl⟩) ); (case hi => (intro h; (repeat' (first | with_reducible exact alln | with_reducible refine allc ?_ ?_ | with_reducible refine andi ?_ ?_)); all_goals (first | with_reducible rfl )))))) | fail)
  refine KDM.eo2f rfl rfl rfl (eo_callE rfl rfl rfl rfl rfl (Raise_p _ n e he)) ?_
  rintro _ _ ⟨_, ⟨c, rfl, rfl⟩, rfl⟩
  refine ⟨fun r hr => by simp [hr], ?_⟩
  repeat' (first | refine KW.seq ?_ | refine KW.region ?_ | refine KO.nil ?_ | refine At.then_normal ?_ | refine KW.skip ?_ | refine KW.ret ?_ | refine At.then_ret ?_ | refine KW.block ?_ | refine KW.exit ?_ | refine At.block_normal ?_ | refine At.block_ret ?_ | refine At.loop_ret ?_ | refine At.then_exit ?_ | refine At.block_here rfl ?_ | refine At.block_there rfl ?_ | refine At.loop_exit ?_ | refine At.cut_ret ?_ | refine At.cutA_ret ?_ | refine At.cutA_exit ?_ | refine At.cut_exit ?_ | (refine At.cut_same ?_; repeat' (first | exact FLe.nil _ | refine FLe.cons rfl rfl ?_)) | refine KW.cond_t rfl (by first | with_reducible rfl | decide) ?_ | refine KW.cond_f rfl (by first | with_reducible rfl | decide) ?_ | refine KW.scope ?_ | refine KW.label ?_ | refine At.scope_normal ?_ | refine At.scope_ret ?_ | refine At.scope_exit ?_ | refine KW.drawM (id := 1) [0, 0, 0, 0, 0, 0, 0, 2, 2] [] (by decide +kernel) rfl rfl rfl ?_ | refine KDH.mid2 ?_ | refine KDH.mid3 ?_ | refine KDH.done ?_ | refine KDM.head0 ?_ | refine KDM.head1 ?_ | refine KDM.fin ?_ | refine KDH.skip0' rfl (by first | with_reducible rfl | decide) rfl rfl ?_ | refine KDH.skip1' rfl (by first | with_reducible rfl | decide) rfl rfl ?_ | (refine KDM.eo30 rfl rfl (eo_store (i := _) rfl rfl rfl rfl rfl rfl rfl ?sg ?sw ?so ?ss) ?_; (case sg => first | exact (rfl : getI 0 _ = _) | exact (rfl : getI 1 _ = _) | exact (rfl : getI 2 _ = _) | exact (rfl : getI 3 _ = _) | exact (rfl : getI 4 _ = _) | exact (rfl : getI 5 _ = _) | exact (rfl : getI 6 _ = _) | exact (rfl : getI 7 _ = _)); (case sw => rfl); (case so => rfl); (case ss => rfl); rintro _ _ rfl; refine ⟨?sub, ?_⟩; (case sub => (intro _ hp; first | exact hp | (cases hp; done) | (repeat (first | exact hp | apply List.mem_cons_of_mem | apply List.mem_append_right)) | (simp_all; done)))) | refine KW.draw 0 (by decide +kernel) ?_ | refine KW.drawU rfl (by decide +kernel) ?_ | refine KD.zero ?_ | ((first | apply KO.val rfl rfl rfl ?kq ?_ | apply KD.val rfl rfl rfl ?kq ?_ | apply KDH.val0 rfl rfl rfl ?kq ?_ | apply KDH.val1 rfl rfl rfl ?kq ?_ | apply KDH.valIn0 rfl rfl rfl ?kq ?_ | apply KDH.valIn1 rfl rfl rfl ?kq ?_ | apply KDM.q2f rfl rfl rfl ?kq ?ksub ?_ | apply KDM.q2t rfl rfl rfl ?kq ?ksub ?_); (try (case ksub => (intro _ hp; first | exact hp | (cases hp; done) | (repeat (first | exact hp | apply List.mem_cons_of_mem | apply List.mem_append_right)) | (simp_all; done)))); (case kq => ((first | apply qt_ev rfl ?hi | ((first | apply qt_load1 rfl rfl ?hi rfl rfl ?hm ?hc | apply qt_loadN rfl rfl ?hi rfl rfl rfl ?hm ?hc); (case hm => repeat (first | exact List.Mem.head _ | apply List.Mem.tail _ | apply List.mem_append_right _)); (case hc => rfl)) | apply qt_cap rfl rfl ?hi rfl | apply qt_eqs rfl rfl rfl ?hi rfl (Or.inl rfl) | apply qt_nes rfl rfl rfl ?hi rfl (Or.inl rfl) | apply qt_eqs rfl rfl rfl ?hi rfl (Or.inr ⟨rfl, rfl, rfl⟩) | apply qt_nes rfl rfl rfl ?hi rfl (Or.inr ⟨rfl, rfl, rfl⟩)); (case hi => (intro h; (repeat' (first | with_reducible exact alln | with_reducible refine allc ?_ ?_ | with_reducible refine andi ?_ ?_)); all_goals (first | with_reducible rfl | with_reducible exact h | with_reducible exact andl h | with_reducible exact andr h | with_reducible exact andl (andl h) | (simp only [h, Bool.and_self]; done) | (simp [h]; done) | (simp_all; done))))))) | (apply KO.store (i := _) rfl rfl rfl rfl rfl rfl rfl rfl ?hl ?sg ?hw ?ho ?hs; (case sg => first | exact (rfl : getI 0 _ = _) | exact (rfl : getI 1 _ = _) | exact (rfl : getI 2 _ = _) | exact (rfl : getI 3 _ = _) | exact (rfl : getI 4 _ = _) | exact (rfl : getI 5 _ = _) | exact (rfl : getI 6 _ = _) | exact (rfl : getI 7 _ = _)); (case hl => rfl); (case hw => rfl); (case ho => rfl); (case hs => rfl)) | (refine KW.cond rfl ?_ ?_ <;> (intro hc; try simp only [kBool] at hc)) | exact absurd trivial ‹¬True› | fail)
  refine KDM.eo2f rfl rfl rfl (eo_callE rfl rfl rfl rfl rfl (Wrap_p _ what _ _)) ?_
  rintro _ _ ⟨_, ⟨b, rfl, rfl⟩, rfl⟩
  refine ⟨fun r hr => by simp only [List.mem_append] at hr ⊢; simp [hr], ?_⟩
  repeat' (first | refine KO.nil ?_ | refine KDM.fin ?_ | ((first | apply KO.val rfl rfl rfl ?kq ?_ ); (try (case ksub => (intro _ hp; first | exact hp | (cases hp; done) | (repeat (first | exact hp | apply List.mem_cons_of_mem | apply List.mem_append_right)) | (simp_all; done)))); (case kq => ((first | apply qt_ev rfl ?hi ); (case hi => (intro h; (repeat' (first | with_reducible exact alln | with_reducible refine allc ?_ ?_ )); all_goals (first | with_reducible rfl )))))) | (apply KO.store (i := _) rfl rfl rfl rfl rfl rfl rfl rfl ?hl ?sg ?hw ?ho ?hs; (case sg => first | exact (rfl : getI 2 _ = _) ); (case hl => rfl); (case hw => rfl); (case ho => rfl); (case hs => rfl)) | fail)
  exact At.end0 ⟨_, (by classical exact List.perm_iff_count.2 (fun _ => by first | (simp only [List.count_append, List.count_cons, List.count_nil, List.append_assoc, List.cons_append, List.nil_append]; omega))), _, _, ⟨b, c, rfl, rfl⟩, rfl⟩
/-- What one field does to a form that puts: the bytes, and the fault. -/
theorem wrong_p (β : Nat → Option Obj) (bf : Nat) (n what : ByteArray) (e : Int) (wv rv dv ev : Value) (x : Option (ByteArray × Int)) (ε σ : Heap) (hx : EV what x ev ε) :
    Go.K.Tr Tryd.prog 53 [.pointer (some ⟨bf, 0, none⟩), .string n, .int .i64 e] β ((bf, cl [.string what, wv, rv, dv, ev] 80) :: (ε ++ σ)) (fun _ σ' => ∃ ev' ε', EV what (note x n e) ev' ε' ∧ σ' = (bf, cl [.string what, wv, rv, dv, ev'] 80) :: (ε' ++ σ)) := by
  rcases x with _ | ⟨n', e'⟩
  · obtain ⟨rfl, rfl⟩ := hx
    by_cases he : e = 0
    · subst he
      exact (wrong0_p β bf n what wv rv dv σ).mono fun _ s hs => ⟨_, [], ⟨rfl, rfl⟩, hs⟩
    · have e1 : note none n e = some (n, e) := by simp [note, he]
      rw [e1]
      exact wrong1_p β bf n what e he wv rv dv σ
  · obtain ⟨b, c, rfl, rfl⟩ := hx
    exact (wrongS_p β bf n e _ wv rv dv _ _ _).mono fun _ s hs => ⟨_, _, ⟨b, c, rfl, rfl⟩, hs⟩
/-- f.put. -/
theorem put_p (β : Nat → Option Obj) (bf m bx : Nat) (cs : List Value) (t : TypeId) (ox : Nat) (a rv dv ev : Value) (v : Value) (φ : Heap) (xs : List Nat) (hl : xs.length = m) (hv : Vec 5 1 m (by8 xs) v φ) (hm : m ≤ 1000000) (X : Nat) (size : Int) (hX : X < 18446744073709551616) (hx : cs[ox]? = some (.int .u64 (X : Int))) :
    Go.K.Tr Tryd.prog 51 [.pointer (some ⟨bf, 0, none⟩), .pointer (some ⟨bx, ox, none⟩), .int .i64 size] β ((bf, cl [a, v, rv, dv, ev] 80) :: ((bx, cl cs t) :: φ)) (fun v' σ' => v' = .int .i64 (putE X size) ∧ ∃ u φ', Vec 5 1 (m + (putB X size).length) (by8 (xs ++ putB X size)) u φ' ∧ σ' = (bf, cl [a, u, rv, dv, ev] 80) :: ((bx, cl cs t) :: φ')) := by
  refine Tr.perm ?_
  refine Tr.of_body Tryd.tt (args := [.pointer (some ⟨bf, 0, none⟩), .pointer (some ⟨bx, ox, none⟩), .int .i64 size]) (fr := [(0, true, .pointer (some ⟨bf, 0, none⟩)), (1, true, .pointer (some ⟨bx, ox, none⟩)), (2, true, .int .i64 size)]) Tryd.func51 rfl (by decide) rfl Tryd.ntmps51 rfl rfl ?_
  intro E hE
  subst hE
  have k1 : Cel E.β ((bf, cl [a, v, rv, dv, ev] 80) :: ((bx, cl cs t) :: φ)) bx ox (.int .u64 (X : Int)) := .inl ⟨cs, t, List.Mem.tail _ (List.Mem.head _), hx⟩
  repeat' (first | refine KW.seq ?_ | refine KW.region ?_ | refine KO.nil ?_ | refine KW.draw (id := 1) 7 (by decide +kernel) ?_ | refine KD.zero ?_ | ((first | apply KO.val rfl rfl rfl ?kq ?_ | apply KD.val rfl rfl rfl ?kq ?_ ); (try (case ksub => (intro _ hp; first | exact hp | (cases hp; done) | (repeat (first | exact hp | apply List.mem_cons_of_mem | apply List.mem_append_right)) | (simp_all; done)))); (case kq => ((first | apply qt_ev rfl ?hi ); (case hi => (intro h; (repeat' (first | with_reducible exact alln | with_reducible refine allc ?_ ?_ )); all_goals (first | with_reducible rfl )))))) | ((first | apply KD.val (g := true) rfl rfl rfl ); (first | (apply qt_load1_cel rfl rfl ?hi rfl rfl ?hc; (case hc => first | exact fun _ => (k1)))); (case hi => (first | exact fun _ => rfl ))) | fail)
  refine KO.callF ((bf, cl [a, v, rv, dv, ev] 80) :: φ) [(bx, cl cs t)] (by classical exact List.perm_iff_count.2 (fun _ => by first | (simp only [List.count_append, List.count_cons, List.count_nil, List.append_assoc, List.cons_append, List.nil_append]; omega))) rfl rfl rfl rfl rfl rfl rfl (PutF_p _ bf m a rv dv ev v φ xs hl hv hm X size hX) ?_
  rintro _ _ ⟨rfl, u, φ', hu, rfl⟩
  repeat' (first | refine KO.nil ?_ | refine At.then_normal ?_ | refine KW.ret ?_ | ((first | apply KO.val rfl rfl rfl ?kq ?_ ); (try (case ksub => (intro _ hp; first | exact hp | (cases hp; done) | (repeat (first | exact hp | apply List.mem_cons_of_mem | apply List.mem_append_right)) | (simp_all; done)))); (case kq => ((first | apply qt_ev rfl ?hi ); (case hi => (intro h; (repeat' (first | with_reducible exact alln | with_reducible refine allc ?_ ?_ )); all_goals (first | with_reducible rfl )))))) | fail)
  ((first | apply At.done_ret ); (focus (repeat' (first | exact ResVs.nil' | apply ResVs.cons' | exact ResV.tmp' rfl ))); dsimp only [resVal])
  refine ⟨_, (by classical exact List.perm_iff_count.2 (fun _ => by first | (simp only [List.count_append, List.count_cons, List.count_nil, List.append_assoc, List.cons_append, List.nil_append]; omega))), rfl, u, φ', hu, rfl⟩
end Go.Proofs.YtnaclkdjchnbpaaDoor

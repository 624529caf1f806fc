/- Errors: errors.As for a number; Code. -/
import Derived.Test.YtnaclkdjchnbpaaDoorE5
namespace Go.Proofs.YtnaclkdjchnbpaaDoor
open Go Go.K Go.Extern

/-- What the variable of package errors holds. -/
def TBE (β : Nat → Option Obj) : Prop := Cel β [] 0 0 (rt 29)
theorem TBE.up {β β' : Nat → Option Obj} (h : ∀ b o, β b = some o → β' b = some o) (ht : TBE β) : TBE β' := Cel.frz (φ := []) h (fun _ hp => by cases hp) ht
set_option maxHeartbeats 4000000 in
theorem As_p (β : Nat → Option Obj) (hty : TBE β) (t : ErrT) (ht : t.Lies β []) (bc : Nat) (old : Int) :
    Go.K.Tr Tryd.prog 47 [t.val, .iface 103 (.pointer (some ⟨bc, 0, none⟩))] β [(bc, cl [.int .i64 old] 32)] (fun v σ' => v = .bool (asR t old).1 ∧ σ' = [(bc, cl [.int .i64 (asR t old).2] 32)]) := by
  obtain ⟨T, u, hv⟩ := t.val_iface
  refine Tr.sub ?_
  rw [hv]
  refine Tr.of_body Tryd.tt (args := [.iface T u, .iface 103 (.pointer (some ⟨bc, 0, none⟩))]) (fr := [(0, true, .iface T u), (1, true, .iface 103 (.pointer (some ⟨bc, 0, none⟩)))]) Tryd.func47 rfl (by decide) rfl Tryd.ntmps47 rfl rfl ?_
  intro E hE
  subst hE
  repeat' (first | refine KW.seq ?_ | refine KW.region ?_ | refine KO.nil ?_ | refine At.then_normal ?_ | refine KW.skip ?_ | refine KW.cond_f rfl (by first | with_reducible rfl ) ?_ | ((first | apply KO.val rfl rfl rfl ?kq ?_ ); (case kq => ((first | apply qt_ev rfl ?hi | apply qt_eqs rfl rfl rfl ?hi rfl (Or.inl rfl) ); (case hi => (intro h; (repeat' (first | with_reducible exact alln | with_reducible refine allc ?_ ?_ | with_reducible refine andi ?_ ?_)); all_goals (first | with_reducible rfl )))))) | fail)
  refine KO.xa rfl rfl rfl rfl rfl rfl (xa_valE _) ?_
  intro ba hba
  repeat' (first | refine KW.seq ?_ | refine KW.region ?_ | refine KO.nil ?_ | refine At.then_normal ?_ | refine KW.skip ?_ | refine KW.cond_f rfl (by first | with_reducible rfl | decide) ?_ | ((first | apply KO.val rfl rfl rfl ?kq ?_ ); (case kq => ((first | apply qt_ev rfl ?hi | ((first | apply qt_loadN rfl rfl ?hi rfl rfl rfl ?hm ?hc); (case hm => repeat (first | exact List.Mem.head _ )); (case hc => rfl)) | refine qt_xv rfl rfl ?hi (xv_typeE _) | refine qt_xi rfl rfl rfl ?hi (me_kind _) xv_kindP | refine qt_xi rfl rfl rfl ?hi (me_kind _) xv_kindN | refine qt_xi rfl rfl rfl ?hi (me_elem _) xv_elem | refine qt_xi rfl rfl rfl ?hi (me_impl _) xv_impl | (refine q_isNil (b := ba) (p := bc) rfl rfl ?hi ?hm; (case hm => repeat (first | exact List.Mem.head _ | apply List.Mem.tail _))) | apply qt_pick_t rfl rfl (by first | decide) rfl ?hi | apply qt_pick_f rfl rfl (by first | decide) rfl ?hi ); (case hi => (intro h; (repeat' (first | with_reducible exact alln | with_reducible refine allc ?_ ?_ | with_reducible refine andi ?_ ?_)); all_goals (first | with_reducible rfl | with_reducible exact h | (simp [h]; done) )))))) | (refine KO.alloc rfl rfl rfl rfl rfl rfl ?_; intro _ _) | (apply KO.store (i := _) rfl rfl rfl rfl rfl rfl rfl rfl ?hl ?sg ?hw ?ho ?hs; (case sg => first | exact (rfl : getI 0 _ = _) ); (case hl => rfl); (case hw => rfl); (case ho => rfl); (case hs => rfl)) | ((first | apply KO.val (g := true) rfl rfl rfl ); (first | (apply qt_load1_cel rfl rfl ?hi rfl rfl ?hc; (case hc => first | exact fun _ => (hty.mono (fun _ hq => by cases hq))))); (case hi => (first | exact fun _ => rfl ))) | fail)
  rename_i b5 _
  have c := as_p E.β bc ba old t.size t (Nat.le_refl _) ht
  rw [hv] at c
  refine KO.callF (asH bc ba old) [(b5, cl [hdl 103, .pointer (some ⟨ba, 0, none⟩), .int .u64 150] 130)] (by dsimp only [asH]; exact (by classical exact List.perm_iff_count.2 (fun _ => by first | (simp only [List.count_append, List.count_cons, List.count_nil, List.append_assoc, List.cons_append, List.nil_append]; omega)))) rfl rfl rfl rfl rfl rfl rfl c ?_
  rintro _ _ ⟨rfl, rfl⟩
  repeat' (first | refine KO.nil ?_ | refine At.then_normal ?_ | refine KW.ret ?_ | ((first | apply KO.val rfl rfl rfl ?kq ?_ ); (case kq => ((first | apply qt_ev rfl ?hi ); (case hi => (intro h; (repeat' (first | with_reducible exact alln | with_reducible refine allc ?_ ?_ )); all_goals (first | with_reducible rfl )))))) | fail)
  ((first | apply At.done_ret ); (focus (repeat' (first | exact ResVs.nil' | apply ResVs.cons' | exact ResV.tmp' rfl ))); dsimp only [resVal])
  exact ⟨_, .cons_cons _ (List.nil_sublist _), rfl, rfl⟩
theorem AsNil_p (β : Nat → Option Obj) (σ : Heap) (v : Value) : Go.K.Tr Tryd.prog 47 [.nilIface, v] β σ (fun z σ' => z = .bool false ∧ σ' = σ) := by
  refine Tr.of_body Tryd.tt (args := [.nilIface, v]) (fr := [(0, true, .nilIface), (1, true, v)]) Tryd.func47 rfl (by decide) rfl Tryd.ntmps47 rfl rfl ?_
  intro E hE
  subst hE
  repeat' (first | refine KW.seq ?_ | refine KW.region ?_ | refine KO.nil ?_ | refine At.then_normal ?_ | refine KW.ret ?_ | refine At.then_ret ?_ | refine KW.cond_t rfl (by first | with_reducible rfl ) ?_ | ((first | apply KO.val rfl rfl rfl ?kq ?_ ); (case kq => ((first | apply qt_ev rfl ?hi | apply qt_eqs rfl rfl rfl ?hi rfl (Or.inr ⟨rfl, rfl, rfl⟩) ); (case hi => (intro h; (repeat' (first | with_reducible exact alln | with_reducible refine allc ?_ ?_ | with_reducible refine andi ?_ ?_)); all_goals (first | with_reducible rfl )))))) | fail)
  ((first | apply At.done_ret ); (focus (repeat' (first | exact ResVs.nil' | apply ResVs.cons' | exact ResV.tmp' rfl ))); dsimp only [resVal])
  exact ⟨rfl, rfl⟩
/-- The first number; 24 if there is none. -/
def ErrT.first (t : ErrT) : Int := match t.codes with
  | [] => 24
  | c :: _ => c
theorem Code_p (β : Nat → Option Obj) (hty : TBE β) (t : ErrT) (ht : t.Lies β []) : Go.K.Tr Tryd.prog 23 [t.val] β [] (fun v σ => v = .int .i64 t.first ∧ σ = []) := by
  obtain ⟨T, u, hv⟩ := t.val_iface
  refine Tr.sub ?_
  rw [hv]
  refine Tr.of_body Tryd.tt (args := [.iface T u]) (fr := [(0, true, .iface T u)]) Tryd.func23 rfl (by decide) rfl Tryd.ntmps23 rfl rfl ?_
  intro E hE
  subst hE
  repeat' (first | refine KW.seq ?_ | refine KW.region ?_ | refine KO.nil ?_ | refine At.then_normal ?_ | refine KW.block ?_ | refine KW.cond_f rfl (by first | with_reducible rfl ) ?_ | ((first | apply KO.val rfl rfl rfl ?kq ?_); (case kq => ((first | apply qt_ev rfl ?hi | apply qt_eqs rfl rfl rfl ?hi rfl (Or.inl rfl) ); (case hi => (intro h; (repeat' (first | with_reducible exact alln | with_reducible refine allc ?_ ?_ | with_reducible refine andi ?_ ?_)); all_goals (first | with_reducible rfl )))))) | (refine KO.alloc rfl rfl rfl rfl rfl rfl ?_; intro _ _) | fail)
  rename_i bc _
  have c := As_p E.β hty t ht bc 0
  rw [hv] at c
  refine KO.callF [(bc, cl [.int .i64 0] 32)] [] (by classical exact List.perm_iff_count.2 (fun _ => by first | (simp only [List.count_append, List.count_cons, List.count_nil, List.append_assoc, List.cons_append, List.nil_append]; done) )) rfl rfl rfl rfl rfl rfl rfl c ?_
  rintro _ _ ⟨rfl, rfl⟩
  cases hc : t.codes with
  | nil =>
    rw [show asR t 0 = (false, 0) by unfold asR; rw [hc]]
    repeat' (first | refine KW.seq ?_ | refine KW.region ?_ | refine KO.nil ?_ | refine At.then_normal ?_ | refine KW.skip ?_ | refine KW.ret ?_ | refine KW.cond_f rfl (by first | with_reducible rfl ) ?_ | ((first | apply KO.val rfl rfl rfl ?kq ?_); (case kq => ((first | apply qt_ev rfl ?hi ); (case hi => (intro h; (repeat' (first | with_reducible exact alln | with_reducible refine allc ?_ ?_ )); all_goals (first | with_reducible rfl )))))) | fail)
    ((first | apply At.done_ret ); (focus (repeat' (first | exact ResVs.nil' | apply ResVs.cons' | exact ResV.tmp' rfl ))); dsimp only [resVal])
    exact ⟨[], List.nil_sublist _, by unfold ErrT.first; rw [hc], rfl⟩
  | cons a l =>
    rw [show asR t 0 = (true, a) by unfold asR; rw [hc]]
    repeat' (first | refine KW.seq ?_ | refine KW.region ?_ | refine KO.nil ?_ | refine At.then_normal ?_ | refine KW.ret ?_ | refine At.then_ret ?_ | refine At.block_ret ?_ | refine KW.cond_t rfl (by first | with_reducible rfl ) ?_ | ((first | apply KO.val rfl rfl rfl ?kq ?_); (case kq => ((first | apply qt_ev rfl ?hi | ((first | apply qt_load1 rfl rfl ?hi rfl rfl ?hm ?hc ); (case hm => repeat (first | exact List.Mem.head _ )); (case hc => rfl)) ); (case hi => (intro h; (repeat' (first | with_reducible exact alln | with_reducible refine allc ?_ ?_ )); all_goals (first | with_reducible rfl )))))) | fail)
    ((first | apply At.done_ret ); (focus (repeat' (first | exact ResVs.nil' | apply ResVs.cons' | exact ResV.tmp' rfl ))); dsimp only [resVal])
    exact ⟨[], List.nil_sublist _, by unfold ErrT.first; rw [hc], rfl⟩
theorem CodeNil_p (β : Nat → Option Obj) : Go.K.Tr Tryd.prog 23 [.nilIface] β [] (fun v σ => v = .int .i64 0 ∧ σ = []) := by
  refine Tr.sub ?_
  refine Tr.of_body Tryd.tt (args := [.nilIface]) (fr := [(0, true, .nilIface)]) Tryd.func23 rfl (by decide) rfl Tryd.ntmps23 rfl rfl ?_
  intro E hE
  subst hE
  repeat' (first | refine KW.seq ?_ | refine KW.region ?_ | refine KO.nil ?_ | refine At.then_normal ?_ | refine KW.ret ?_ | refine At.then_ret ?_ | refine KW.block ?_ | refine At.block_ret ?_ | refine KW.cond_t rfl (by first | with_reducible rfl ) ?_ | ((first | apply KO.val rfl rfl rfl ?kq ?_); (case kq => ((first | apply qt_ev rfl ?hi | apply qt_eqs rfl rfl rfl ?hi rfl (Or.inr ⟨rfl, rfl, rfl⟩) ); (case hi => (intro h; (repeat' (first | with_reducible exact alln | with_reducible refine allc ?_ ?_ | with_reducible refine andi ?_ ?_)); all_goals (first | with_reducible rfl )))))) | (refine KO.alloc rfl rfl rfl rfl rfl rfl ?_; intro _ _) | fail)
  ((first | apply At.done_ret ); (focus (repeat' (first | exact ResVs.nil' | apply ResVs.cons' | exact ResV.tmp' rfl ))); dsimp only [resVal])
  exact ⟨[], List.nil_sublist _, rfl, rfl⟩
theorem WrapNil_p (β : Nat → Option Obj) (op : ByteArray) : Go.K.Tr Tryd.prog 26 [.string op, .nilIface] β [] (fun v σ => v = .nilIface ∧ σ = []) := by
  refine Tr.of_body Tryd.tt (args := [.string op, .nilIface]) (fr := [(0, true, .string op), (1, true, .nilIface)]) Tryd.func26 rfl (by decide) rfl Tryd.ntmps26 rfl rfl ?_
  intro E hE
  subst hE
  repeat' (first | refine KW.seq ?_ | refine KW.region ?_ | refine KO.nil ?_ | refine At.then_normal ?_ | refine KW.ret ?_ | refine At.then_ret ?_ | refine KW.cond_t rfl (by first | with_reducible rfl ) ?_ | ((first | apply KO.val rfl rfl rfl ?kq ?_); (case kq => ((first | apply qt_ev rfl ?hi | apply qt_eqs rfl rfl rfl ?hi rfl (Or.inr ⟨rfl, rfl, rfl⟩) ); (case hi => (intro h; (repeat' (first | with_reducible exact alln | with_reducible refine allc ?_ ?_ | with_reducible refine andi ?_ ?_)); all_goals (first | with_reducible rfl )))))) | fail)
  ((first | apply At.done_ret ); (focus (repeat' (first | exact ResVs.nil' | apply ResVs.cons' | exact ResV.tmp' rfl ))); dsimp only [resVal])
  exact ⟨rfl, rfl⟩
theorem Wrap_p (β : Nat → Option Obj) (op : ByteArray) (T : TypeId) (u : Value) : Go.K.Tr Tryd.prog 26 [.string op, .iface T u] β [] (fun v σ => ∃ b, v = .iface 100 (.pointer (some ⟨b, 0, none⟩)) ∧ σ = [(b, cl [.string op, .iface T u] 108)]) := by
  refine Tr.sub ?_
  refine Tr.of_body Tryd.tt (args := [.string op, .iface T u]) (fr := [(0, true, .string op), (1, true, .iface T u)]) Tryd.func26 rfl (by decide) rfl Tryd.ntmps26 rfl rfl ?_
  intro E hE
  subst hE
  repeat' (first | refine KW.seq ?_ | refine KW.region ?_ | refine KO.nil ?_ | refine At.then_normal ?_ | refine KW.skip ?_ | refine KW.ret ?_ | refine KW.cond_f rfl (by first | with_reducible rfl ) ?_ | ((first | apply KO.val rfl rfl rfl ?kq ?_); (case kq => ((first | apply qt_ev rfl ?hi | apply qt_build rfl rfl ?hi rfl | apply qt_eqs rfl rfl rfl ?hi rfl (Or.inl rfl) ); (case hi => (intro h; (repeat' (first | with_reducible exact alln | with_reducible refine allc ?_ ?_ | with_reducible refine andi ?_ ?_)); all_goals (first | with_reducible rfl )))))) | (refine KO.box rfl rfl rfl rfl rfl rfl ?_; intro _ _) | fail)
  ((first | apply At.done_ret ); (focus (repeat' (first | exact ResVs.nil' | apply ResVs.cons' | exact ResV.tmp' rfl ))); dsimp only [resVal])
  exact ⟨_, List.Sublist.refl _, _, rfl, rfl⟩
theorem Raise0_p (β : Nat → Option Obj) (op : ByteArray) : Go.K.Tr Tryd.prog 27 [.string op, .int .i64 0] β [] (fun v σ => v = .nilIface ∧ σ = []) := by
  refine Tr.of_body Tryd.tt (args := [.string op, .int .i64 0]) (fr := [(0, true, .string op), (1, true, .int .i64 0)]) Tryd.func27 rfl (by decide) rfl Tryd.ntmps27 rfl rfl ?_
  intro E hE
  subst hE
  repeat' (first | refine KW.seq ?_ | refine KW.region ?_ | refine KO.nil ?_ | refine At.then_normal ?_ | refine KW.ret ?_ | refine At.then_ret ?_ | refine KW.cond_t rfl (by first | decide) ?_ | ((first | apply KO.val rfl rfl rfl ?kq ?_); (case kq => ((first | apply qt_ev rfl ?hi ); (case hi => (intro h; (repeat' (first | with_reducible exact alln | with_reducible refine allc ?_ ?_ )); all_goals (first | with_reducible rfl )))))) | fail)
  ((first | apply At.done_ret ); (focus (repeat' (first | exact ResVs.nil' | apply ResVs.cons' | exact ResV.tmp' rfl ))); dsimp only [resVal])
  exact ⟨rfl, rfl⟩
theorem Raise_p (β : Nat → Option Obj) (op : ByteArray) (c : Int) (hc0 : c ≠ 0) : Go.K.Tr Tryd.prog 27 [.string op, .int .i64 c] β [] (fun v σ => ∃ b, v = .iface 100 (.pointer (some ⟨b, 0, none⟩)) ∧ σ = [(b, cl [.string op, .iface 32 (.int .i64 c)] 108)]) := by
  refine Tr.sub ?_
  refine Tr.of_body Tryd.tt (args := [.string op, .int .i64 c]) (fr := [(0, true, .string op), (1, true, .int .i64 c)]) Tryd.func27 rfl (by decide) rfl Tryd.ntmps27 rfl rfl ?_
  intro E hE
  subst hE
  repeat' (first | refine KW.seq ?_ | refine KW.region ?_ | refine KO.nil ?_ | refine At.then_normal ?_ | refine KW.skip ?_ | refine KW.ret ?_ | refine At.then_ret ?_ | ((first | apply KO.val rfl rfl rfl ?kq ?_); (case kq => ((first | apply qt_ev rfl ?hi | apply qt_build rfl rfl ?hi rfl ); (case hi => (intro h; (repeat' (first | with_reducible exact alln | with_reducible refine allc ?_ ?_ )); all_goals (first | with_reducible rfl )))))) | (refine KO.box rfl rfl rfl rfl rfl rfl ?_; intro _ _) | (refine KW.cond rfl ?_ ?_ <;> (intro hc; try simp only [kBool] at hc)) | (exfalso; exact hc0 hc; done) | fail)
  ((first | apply At.done_ret ); (focus (repeat' (first | exact ResVs.nil' | apply ResVs.cons' | exact ResV.tmp' rfl ))); dsimp only [resVal])
  exact ⟨_, List.Sublist.refl _, _, rfl, rfl⟩
end Go.Proofs.YtnaclkdjchnbpaaDoor

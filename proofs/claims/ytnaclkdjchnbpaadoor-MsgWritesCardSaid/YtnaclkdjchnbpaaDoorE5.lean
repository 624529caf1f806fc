/- Errors: errors.As for a number; Code. -/
import Derived.Test.YtnaclkdjchnbpaaDoorE2
import Derived.Test.YtnaclkdjchnbpaaDoorE4
namespace Go.Proofs.YtnaclkdjchnbpaaDoor
open Go Go.K Go.Extern

def ErrT.size : ErrT → Nat
  | .code _ => 1
  | .fault _ _ t => t.size + 1
  | .pair _ l r => l.size + r.size + 1
theorem ErrT.val_iface : ∀ t : ErrT, ∃ T u, t.val = .iface T u
  | .code _ => ⟨_, _, rfl⟩
  | .fault _ _ _ => ⟨_, _, rfl⟩
  | .pair _ _ _ => ⟨_, _, rfl⟩
theorem ErrT.codes_fault (b : Nat) (op : ByteArray) (t : ErrT) : (ErrT.fault b op t).codes = t.codes := rfl
theorem ErrT.codes_pair (b : Nat) (l r : ErrT) : (ErrT.pair b l r).codes = l.codes ++ r.codes := by
  show List.filterMap ErrT.codeOf (.pair b l r :: (l.pre ++ r.pre)) = _
  rw [List.filterMap_cons_none rfl, List.filterMap_append]; rfl
theorem q_isNil {L : Look} {σ : Heap} {g : Bool} {o : Oper} {r : Option Nat} {N b p : Nat} {E : Env} {H : Heap} {args : Array Operand} {ts : Array TypeId} {gs : List Bool} (ho : o.op = .call ⟨.value (.func 68), args, ts⟩)
    (ha : opnds L args.toList = some (gs, [rv 103 b 150])) (hi : g = true → gs.all id = true) (hc : (b, cl [.pointer (some ⟨p, 0, none⟩)] 103) ∈ σ) : Qt ⟨Tryd.prog, Tryd.tt, r, N, E, H⟩ L σ g o (.bool false) :=
  qt_extR ho ha hi (fun _ w hO => x_isNil b p w (by rw [cell_of_cl (hO.has.has _ hc)]; rfl))
theorem q_elem {L : Look} {σ : Heap} {g : Bool} {o : Oper} {r : Option Nat} {N b p : Nat} {E : Env} {H : Heap} {args : Array Operand} {ts : Array TypeId} {gs : List Bool} (ho : o.op = .call ⟨.value (.func 75), args, ts⟩)
    (ha : opnds L args.toList = some (gs, [rv 103 b 150])) (hi : g = true → gs.all id = true) (hc : (b, cl [.pointer (some ⟨p, 0, none⟩)] 103) ∈ σ) : Qt ⟨Tryd.prog, Tryd.tt, r, N, E, H⟩ L σ g o (rv 32 p 386) :=
  qt_extR ho ha hi (fun _ w hO => x_elem b p w (by rw [cell_of_cl (hO.has.has _ hc)]; rfl))
theorem UnF_p (β : Nat → Option Obj) (σ : Heap) (b : Nat) (v : Value) (h : Cel β [] b 1 v) : Go.K.Tr Tryd.prog 97 [.pointer (some ⟨b, 0, none⟩)] β σ (fun z s => z = v ∧ s = σ) := by
  refine Tr.of_body Tryd.tt (args := [.pointer (some ⟨b, 0, none⟩)]) (fr := [(0, true, .pointer (some ⟨b, 0, none⟩))]) Tryd.func97 rfl (by decide) rfl Tryd.ntmps97 rfl rfl ?_
  intro E hE
  subst hE
  repeat' (first | refine KW.seq ?_ | refine KW.region ?_ | refine KO.nil ?_ | refine At.then_normal ?_ | refine KW.ret ?_ | ((first | apply KO.val rfl rfl rfl ?kq ?_); (case kq => ((first | apply qt_ev rfl ?hi ); (case hi => (intro h; (repeat' (first | with_reducible exact alln | with_reducible refine allc ?_ ?_ )); all_goals (first | with_reducible rfl )))))) | ((first | apply KO.val (g := true) rfl rfl rfl); (first | (apply qt_load1_cel rfl rfl ?hi rfl rfl ?hc; (case hc => first | exact fun _ => (h.mono (fun _ hq => by cases hq))))); (case hi => (first | exact fun _ => rfl ))) | fail)
  ((first | apply At.done_ret ); (focus (repeat' (first | exact ResVs.nil' | apply ResVs.cons' | exact ResV.tmp' rfl ))); dsimp only [resVal])
  exact ⟨rfl, rfl⟩
set_option maxRecDepth 4000 in
theorem UnP_p (β : Nat → Option Obj) (σ : Heap) (b : Nat) (T U : TypeId) (u v : Value) (h0 : Cel β [] b 0 (.iface T u)) (h : Cel β [] b 1 (.iface U v)) : Go.K.Tr Tryd.prog 102 [.pointer (some ⟨b, 0, none⟩)] β σ (fun z s => ∃ bs, z = .slice (some ⟨bs, 0, none⟩) 2 2 ∧ s = (bs, cl [.iface T u, .iface U v] 29) :: σ) := by
  refine Tr.of_body Tryd.tt (args := [.pointer (some ⟨b, 0, none⟩)]) (fr := [(0, true, .pointer (some ⟨b, 0, none⟩))]) Tryd.func102 rfl (by decide) rfl Tryd.ntmps102 rfl rfl ?_
  intro E hE
  subst hE
  repeat' (first | refine KW.seq ?_ | refine KW.region ?_ | refine KO.nil ?_ | refine At.then_normal ?_ | refine KW.ret ?_ | refine KW.drawU rfl (by decide +kernel) ?_ | refine KD.zero ?_ | ((first | apply KO.val rfl rfl rfl ?kq ?_ | apply KD.val rfl rfl rfl ?kq ?_); (case kq => ((first | apply qt_ev rfl ?hi ); (case hi => (intro h; (repeat' (first | with_reducible exact alln | with_reducible refine allc ?_ ?_ )); all_goals (first | with_reducible rfl )))))) | (refine KO.buildSlice rfl rfl rfl rfl rfl rfl rfl rfl rfl rfl rfl rfl rfl rfl ?_; intro _ _) | ((first | apply KD.val (g := true) rfl rfl rfl ); (first | (apply qt_load1_cel rfl rfl ?hi rfl rfl ?hc; (case hc => first | exact fun _ => (h0.mono (fun _ hq => by cases hq)) | exact fun _ => (h.mono (fun _ hq => by cases hq))))); (case hi => (first | exact fun _ => rfl ))) | fail)
  ((first | apply At.done_ret ); (focus (repeat' (first | exact ResVs.nil' | apply ResVs.cons' | exact ResV.tmp' rfl ))); dsimp only [resVal])
  exact ⟨_, rfl, rfl⟩
def asR (t : ErrT) (old : Int) : Bool × Int := match t.codes with
  | [] => (false, old)
  | c :: _ => (true, c)
def asH (bc ba : Nat) (c : Int) : Heap := [(bc, cl [.int .i64 c] 32), (ba, cl [.pointer (some ⟨bc, 0, none⟩)] 103)]
set_option maxRecDepth 4000 in
set_option maxHeartbeats 4000000 in
theorem as_p (β : Nat → Option Obj) (bc ba : Nat) (old : Int) : ∀ (n : Nat) (t : ErrT), t.size ≤ n → t.Lies β [] →
    Go.K.Tr Tryd.prog 69 [t.val, .iface 103 (.pointer (some ⟨bc, 0, none⟩)), rv 103 ba 150, rt 32] β (asH bc ba old) (fun v σ' => v = .bool (asR t old).1 ∧ σ' = asH bc ba (asR t old).2) := by
  intro n
  induction n with
  | zero => intro t hs; exfalso; cases t <;> simp [ErrT.size] at hs
  | succ n ih =>
    intro t hs hl
    refine Tr.sub ?_
    refine Tr.of_body Tryd.tt (args := [t.val, .iface 103 (.pointer (some ⟨bc, 0, none⟩)), rv 103 ba 150, rt 32]) (fr := [(0, true, t.val), (1, true, .iface 103 (.pointer (some ⟨bc, 0, none⟩))), (2, true, rv 103 ba 150), (3, true, rt 32)]) Tryd.func69 rfl (by decide) rfl Tryd.ntmps69 rfl rfl ?_
    intro E hE
    subst hE
    repeat' (first | refine KW.seq ?_ | refine KW.region ?_ | refine KO.nil ?_ | refine At.then_normal ?_ | refine KW.block ?_ | ((first | apply KO.val rfl rfl rfl ?kq ?_ ); (case kq => ((first | apply qt_ev rfl ?hi ); (case hi => (intro h; (repeat' (first | with_reducible exact alln | with_reducible refine allc ?_ ?_ )); all_goals (first | with_reducible rfl )))))) | (refine KO.box rfl rfl rfl rfl rfl rfl ?_; intro _ _) | fail)
    rename_i b6 _
    refine KW.loop (fun s : ErrT => s.Lies E.β [] ∧ s.codes = t.codes ∧ s.size ≤ t.size) (fun s => ([(0, true, s.val), (1, true, .iface 103 (.pointer (some ⟨bc, 0, none⟩))), (3, true, rt 32), (6, true, .pointer (some ⟨b6, 0, none⟩))], (b6, cl [hdl 103, .pointer (some ⟨ba, 0, none⟩), .int .u64 150] 130) :: asH bc ba old)) (fun s => s.size) t
      ⟨hl, rfl, Nat.le_refl _⟩ (Le.perm (by repeat' (first | exact FLe.nil _ | refine FLe.cons rfl rfl ?_)) (by classical exact List.perm_iff_count.2 (fun _ => by first | (simp only [List.count_append, List.count_cons, List.count_nil, List.append_assoc, List.cons_append, List.nil_append]; done) ))) ?_
    rintro s ⟨h1, h2, h3⟩
    dsimp only
    cases s with
    | code e =>
      unfold asH
      repeat' (first | refine KW.seq ?_ | refine KW.region ?_ | refine KO.nil ?_ | refine At.then_normal ?_ | refine KW.block ?_ | refine KW.cond_t rfl (by first | with_reducible rfl ) ?_ | ((first | apply KO.val rfl rfl rfl ?kq ?_ ); (case kq => ((first | apply qt_ev rfl ?hi | ((first | apply qt_loadN rfl rfl ?hi rfl rfl rfl ?hm ?hc); (case hm => repeat (first | exact List.Mem.head _ )); (case hc => rfl)) | refine qt_xv rfl rfl ?hi (xv_toN _) | refine qt_xi rfl rfl rfl ?hi (me_assn _) xv_asN ); (case hi => (intro h; (repeat' (first | with_reducible exact alln | with_reducible refine allc ?_ ?_ | with_reducible refine andi ?_ ?_)); all_goals (first | with_reducible rfl )))))) | fail)
      refine KO.val rfl rfl rfl (q_elem (b := ba) (p := bc) rfl rfl (by intro _; rfl) (by simp)) ?_
      repeat' (first | ((first | apply KO.val rfl rfl rfl ?kq ?_ ); (case kq => ((first | apply qt_ev rfl ?hi ); (case hi => (intro h; (repeat' (first | with_reducible exact alln | with_reducible refine allc ?_ ?_ )); all_goals (first | with_reducible rfl )))))) | fail)
      refine KO.xa rfl rfl rfl rfl rfl rfl (xa_valN e) ?_
      intro bn hbn
      refine KO.ofEO rfl rfl rfl (eo_extS (b := bc) (off := 0) (i := 2) (v := .int .i64 e) (r := .tuple #[]) rfl rfl rfl rfl rfl (by simp) rfl (fun w hO => x_set bc bn e (.int .i64 old) w (by rw [cell_of_cl (hO.has.has (bn, cl [.int .i64 e] 32) (by simp))]; rfl) (by rw [cell_of_cl (hO.has.has (bc, cl [.int .i64 old] 32) (by simp))]; rfl) (frozen_of_cl (hO.has.has (bc, cl [.int .i64 old] 32) (by simp))))) ?_
      rintro _ _ ⟨rfl, rfl⟩
      have hr : asR t old = (true, e) := by unfold asR; rw [← h2]; rfl
      repeat' (first | refine KW.seq ?_ | refine KW.region ?_ | refine KO.nil ?_ | refine At.then_normal ?_ | refine KW.ret ?_ | refine At.then_ret ?_ | refine At.block_ret ?_ | refine At.loop_ret ?_ | ((first | apply KO.val rfl rfl rfl ?kq ?_ ); (case kq => ((first | apply qt_ev rfl ?hi ); (case hi => (intro h; (repeat' (first | with_reducible exact alln | with_reducible refine allc ?_ ?_ )); all_goals (first | with_reducible rfl )))))) | fail)
      ((first | apply At.done_ret ); (focus (repeat' (first | exact ResVs.nil' | apply ResVs.cons' | exact ResV.tmp' rfl ))); dsimp only [resVal])
      rw [hr]
      exact ⟨asH bc ba e, .cons _ (.cons _ (List.Sublist.refl _)), rfl, rfl⟩
    | fault b op s =>
      unfold asH
      obtain ⟨T, u, hv⟩ := s.val_iface
      have hun := UnF_p E.β ((b6, cl [hdl 103, .pointer (some ⟨ba, 0, none⟩), .int .u64 150] 130) :: asH bc ba old) b _ h1.2.1
      rw [hv] at hun
      repeat' (first | refine KW.seq ?_ | refine KW.region ?_ | refine KO.nil ?_ | refine At.then_normal ?_ | refine KW.skip ?_ | refine KW.block ?_ | refine At.block_normal ?_ | refine KW.cond_t rfl (by first | with_reducible rfl ) ?_ | refine KW.cond_f rfl (by first | with_reducible rfl ) ?_ | refine KO.skip' rfl (by first | with_reducible rfl ) rfl rfl ?_ | ((first | apply KO.val rfl rfl rfl ?kq ?_ ); (case kq => ((first | apply qt_ev rfl ?hi | refine qt_xv rfl rfl ?hi (xv_toF _) | refine qt_xi rfl rfl rfl ?hi (me_assn _) xv_asF | refine qt_ta rfl rfl ?hi (tiAs_F _ _) | refine qt_ta rfl rfl ?hi (tiUn_F _ _) | refine qt_invQ rfl rfl rfl ?hi (me_unF _) (fun _ => hun) | apply qt_pick_f rfl rfl (by first | with_reducible rfl ) rfl ?hi | apply qt_eqs rfl rfl rfl ?hi rfl (Or.inl rfl) ); (case hi => (intro h; (repeat' (first | with_reducible exact alln | with_reducible refine allc ?_ ?_ | with_reducible refine andi ?_ ?_)); all_goals (first | with_reducible rfl )))))) | fail)
      have h3' : s.size + 1 ≤ t.size := h3
      exact At.loop_on s ⟨h1.2.2, h2, by omega⟩ (by show s.size < s.size + 1; omega) (Le.perm (FLe.cons rfl hv.symm (by repeat' (first | exact FLe.nil _ | refine FLe.cons rfl rfl ?_))) (by classical exact List.perm_iff_count.2 (fun _ => by first | (simp only [List.count_append, List.count_cons, List.count_nil, List.append_assoc, List.cons_append, List.nil_append]; done) )))
    | pair b l r =>
      unfold asH
      repeat' (first | refine KW.seq ?_ | refine KW.region ?_ | refine KO.nil ?_ | refine At.then_normal ?_ | refine KW.skip ?_ | refine KW.block ?_ | refine KW.cond_t rfl (by first | with_reducible rfl ) ?_ | refine KW.cond_f rfl (by first | with_reducible rfl ) ?_ | refine KO.skip' rfl (by first | with_reducible rfl ) rfl rfl ?_ | ((first | apply KO.val rfl rfl rfl ?kq ?_ ); (case kq => ((first | apply qt_ev rfl ?hi | refine qt_xv rfl rfl ?hi (xv_toP _) | refine qt_xi rfl rfl rfl ?hi (me_assn _) xv_asP | refine qt_ta rfl rfl ?hi (tiAs_P _ _) | refine qt_ta rfl rfl ?hi (tiUn_P _ _) | refine qt_ta rfl rfl ?hi (tiUs_P _ _) | apply qt_pick_f rfl rfl (by first | with_reducible rfl ) rfl ?hi ); (case hi => (intro h; (repeat' (first | with_reducible exact alln | with_reducible refine allc ?_ ?_ | with_reducible refine andi ?_ ?_)); all_goals (first | with_reducible rfl )))))) | fail)
      obtain ⟨T, u, hv⟩ := l.val_iface
      obtain ⟨U, v, hw⟩ := r.val_iface
      have k1 := h1.1
      have k2 := h1.2.1
      rw [hv] at k1
      rw [hw] at k2
      have h3' : l.size + r.size + 1 ≤ t.size := h3
      have c1 := ih l (by omega) h1.2.2.1
      have c2 := ih r (by omega) h1.2.2.2
      rw [hv] at c1
      rw [hw] at c2
      refine KO.inv rfl rfl rfl rfl rfl rfl rfl (me_unP _) (UnP_p E.β _ b T U u v k1 k2) ?_
      rintro _ _ ⟨bs, rfl, rfl⟩
      repeat' (first | refine KO.nil ?_ | refine At.then_normal ?_ | refine KW.block ?_ | ((first | apply KO.val rfl rfl rfl ?kq ?_ ); (case kq => ((first | apply qt_ev rfl ?hi ); (case hi => (intro h; (repeat' (first | with_reducible exact alln | with_reducible refine allc ?_ ?_ )); all_goals (first | with_reducible rfl )))))) | fail)
      refine KW.loop (fun i : Nat => i ≤ 2 ∧ (1 ≤ i → l.codes = []) ∧ (2 ≤ i → r.codes = [])) (fun i => ([(50, true, .int .i64 (i : Int)), (49, true, .int .i64 2), (48, true, .slice (some ⟨bs, 0, none⟩) 2 2), (1, true, .iface 103 (.pointer (some ⟨bc, 0, none⟩))), (3, true, rt 32), (6, true, .pointer (some ⟨b6, 0, none⟩))], (bs, cl [.iface T u, .iface U v] 29) :: (b6, cl [hdl 103, .pointer (some ⟨ba, 0, none⟩), .int .u64 150] 130) :: asH bc ba old)) (fun i => 2 - i) 0
        ⟨by omega, fun h => by omega, fun h => by omega⟩ (Le.perm (by repeat' (first | exact FLe.nil _ | refine FLe.cons rfl rfl ?_)) (by dsimp only [asH]; exact (by classical exact List.perm_iff_count.2 (fun _ => by first | (simp only [List.count_append, List.count_cons, List.count_nil, List.append_assoc, List.cons_append, List.nil_append]; done) )))) ?_
      rintro i ⟨hi, ha, hb⟩
      dsimp only
      rcases (show i = 0 ∨ i = 1 ∨ i = 2 by omega) with rfl | rfl | rfl
      · cases hlc : l.codes with
        | nil =>
          have hr : asR l old = (false, old) := by unfold asR; rw [hlc]
          rw [hr] at c1
          repeat' (first | refine KW.seq ?_ | refine KW.region ?_ | refine KO.nil ?_ | refine At.then_normal ?_ | refine KW.skip ?_ | refine KW.block ?_ | refine KW.cond_t rfl (by first | decide) ?_ | refine KW.cond_f rfl (by first | with_reducible rfl ) ?_ | ((first | apply KO.val rfl rfl rfl ?kq ?_ ); (case kq => ((first | ((first | apply qt_indexAddr_slice rfl rfl rfl ?hi rfl rfl ?om); (case om => (intro hg; first | omega ))) | apply qt_ev rfl ?hi | ((first | apply qt_load1 rfl rfl ?hi rfl rfl ?hm ?hc | apply qt_loadN rfl rfl ?hi rfl rfl rfl ?hm ?hc); (case hm => repeat (first | exact List.Mem.head _ | apply List.Mem.tail _ )); (case hc => rfl)) | apply qt_eqs rfl rfl rfl ?hi rfl (Or.inl rfl) ); (case hi => (intro h; (repeat' (first | with_reducible exact alln | with_reducible refine allc ?_ ?_ | with_reducible refine andi ?_ ?_)); all_goals (first | with_reducible rfl )))))) | fail)
          refine KO.callF (asH bc ba old) ((bs, cl [.iface T u, .iface U v] 29) :: (b6, cl [hdl 103, .pointer (some ⟨ba, 0, none⟩), .int .u64 150] 130) :: []) (by classical exact List.perm_iff_count.2 (fun _ => by first | (simp only [List.count_append, List.count_cons, List.count_nil, List.append_assoc, List.cons_append, List.nil_append]; omega))) rfl rfl rfl rfl rfl rfl rfl c1 ?_
          rintro _ _ ⟨rfl, rfl⟩
          repeat' (first | refine KW.region ?_ | refine KO.nil ?_ | refine At.then_normal ?_ | refine KW.skip ?_ | refine KW.cond_f rfl (by first | with_reducible rfl ) ?_ | ((first | apply KO.val rfl rfl rfl ?kq ?_ ); (case kq => ((first | ((first | apply qt_add rfl rfl rfl ?hi ?om ); (case om => (intro hg; first | omega ))) | apply qt_ev rfl ?hi ); (case hi => (intro h; (repeat' (first | with_reducible exact alln | with_reducible refine allc ?_ ?_ | with_reducible refine andi ?_ ?_)); all_goals (first | with_reducible rfl )))))) | fail)
          exact At.loop_on 1 ⟨by omega, fun _ => by first | rfl, fun h => by omega⟩ (by omega) (Le.perm (by repeat' (first | exact FLe.nil _ | refine FLe.cons rfl rfl ?_)) (by classical exact List.perm_iff_count.2 (fun _ => by first | (simp only [List.count_append, List.count_cons, List.count_nil, List.append_assoc, List.cons_append, List.nil_append]; omega))))
        | cons c cs =>
          have hr : asR l old = (true, c) := by unfold asR; rw [hlc]
          have hrt : asR t old = (true, c) := by unfold asR; rw [← h2, ErrT.codes_pair, hlc]; rfl
          rw [hr] at c1
          repeat' (first | refine KW.seq ?_ | refine KW.region ?_ | refine KO.nil ?_ | refine At.then_normal ?_ | refine KW.skip ?_ | refine KW.block ?_ | refine KW.cond_t rfl (by first | decide) ?_ | refine KW.cond_f rfl (by first | with_reducible rfl ) ?_ | ((first | apply KO.val rfl rfl rfl ?kq ?_ ); (case kq => ((first | ((first | apply qt_indexAddr_slice rfl rfl rfl ?hi rfl rfl ?om); (case om => (intro hg; first | omega ))) | apply qt_ev rfl ?hi | ((first | apply qt_load1 rfl rfl ?hi rfl rfl ?hm ?hc | apply qt_loadN rfl rfl ?hi rfl rfl rfl ?hm ?hc); (case hm => repeat (first | exact List.Mem.head _ | apply List.Mem.tail _ )); (case hc => rfl)) | apply qt_eqs rfl rfl rfl ?hi rfl (Or.inl rfl) ); (case hi => (intro h; (repeat' (first | with_reducible exact alln | with_reducible refine allc ?_ ?_ | with_reducible refine andi ?_ ?_)); all_goals (first | with_reducible rfl )))))) | fail)
          refine KO.callF (asH bc ba old) ((bs, cl [.iface T u, .iface U v] 29) :: (b6, cl [hdl 103, .pointer (some ⟨ba, 0, none⟩), .int .u64 150] 130) :: []) (by classical exact List.perm_iff_count.2 (fun _ => by first | (simp only [List.count_append, List.count_cons, List.count_nil, List.append_assoc, List.cons_append, List.nil_append]; omega))) rfl rfl rfl rfl rfl rfl rfl c1 ?_
          rintro _ _ ⟨rfl, rfl⟩
          repeat' (first | refine KW.seq ?_ | refine KW.region ?_ | refine KO.nil ?_ | refine At.then_normal ?_ | refine KW.ret ?_ | refine At.then_ret ?_ | refine At.block_ret ?_ | refine At.loop_ret ?_ | refine KW.cond_t rfl (by first | with_reducible rfl ) ?_ | ((first | apply KO.val rfl rfl rfl ?kq ?_ ); (case kq => ((first | apply qt_ev rfl ?hi ); (case hi => (intro h; (repeat' (first | with_reducible exact alln | with_reducible refine allc ?_ ?_ )); all_goals (first | with_reducible rfl )))))) | fail)
          ((first | apply At.done_ret ); (focus (repeat' (first | exact ResVs.nil' | apply ResVs.cons' | exact ResV.tmp' rfl ))); dsimp only [resVal])
          rw [hrt]
          exact ⟨asH bc ba c, List.sublist_append_left _ _, rfl, rfl⟩
      · cases hlc : r.codes with
        | nil =>
          have hr : asR r old = (false, old) := by unfold asR; rw [hlc]
          rw [hr] at c2
          repeat' (first | refine KW.seq ?_ | refine KW.region ?_ | refine KO.nil ?_ | refine At.then_normal ?_ | refine KW.skip ?_ | refine KW.block ?_ | refine KW.cond_t rfl (by first | decide) ?_ | refine KW.cond_f rfl (by first | with_reducible rfl ) ?_ | ((first | apply KO.val rfl rfl rfl ?kq ?_ ); (case kq => ((first | ((first | apply qt_indexAddr_slice rfl rfl rfl ?hi rfl rfl ?om); (case om => (intro hg; first | omega ))) | apply qt_ev rfl ?hi | ((first | apply qt_load1 rfl rfl ?hi rfl rfl ?hm ?hc | apply qt_loadN rfl rfl ?hi rfl rfl rfl ?hm ?hc); (case hm => repeat (first | exact List.Mem.head _ | apply List.Mem.tail _ )); (case hc => rfl)) | apply qt_eqs rfl rfl rfl ?hi rfl (Or.inl rfl) ); (case hi => (intro h; (repeat' (first | with_reducible exact alln | with_reducible refine allc ?_ ?_ | with_reducible refine andi ?_ ?_)); all_goals (first | with_reducible rfl )))))) | fail)
          refine KO.callF (asH bc ba old) ((bs, cl [.iface T u, .iface U v] 29) :: (b6, cl [hdl 103, .pointer (some ⟨ba, 0, none⟩), .int .u64 150] 130) :: []) (by classical exact List.perm_iff_count.2 (fun _ => by first | (simp only [List.count_append, List.count_cons, List.count_nil, List.append_assoc, List.cons_append, List.nil_append]; omega))) rfl rfl rfl rfl rfl rfl rfl c2 ?_
          rintro _ _ ⟨rfl, rfl⟩
          repeat' (first | refine KW.region ?_ | refine KO.nil ?_ | refine At.then_normal ?_ | refine KW.skip ?_ | refine KW.cond_f rfl (by first | with_reducible rfl ) ?_ | ((first | apply KO.val rfl rfl rfl ?kq ?_ ); (case kq => ((first | ((first | apply qt_add rfl rfl rfl ?hi ?om ); (case om => (intro hg; first | omega ))) | apply qt_ev rfl ?hi ); (case hi => (intro h; (repeat' (first | with_reducible exact alln | with_reducible refine allc ?_ ?_ | with_reducible refine andi ?_ ?_)); all_goals (first | with_reducible rfl )))))) | fail)
          exact At.loop_on 2 ⟨by omega, fun _ => ha (by omega), fun _ => by first | rfl⟩ (by omega) (Le.perm (by repeat' (first | exact FLe.nil _ | refine FLe.cons rfl rfl ?_)) (by classical exact List.perm_iff_count.2 (fun _ => by first | (simp only [List.count_append, List.count_cons, List.count_nil, List.append_assoc, List.cons_append, List.nil_append]; omega))))
        | cons c cs =>
          have hr : asR r old = (true, c) := by unfold asR; rw [hlc]
          have hrt : asR t old = (true, c) := by unfold asR; rw [← h2, ErrT.codes_pair, ha (by omega), hlc]; rfl
          rw [hr] at c2
          repeat' (first | refine KW.seq ?_ | refine KW.region ?_ | refine KO.nil ?_ | refine At.then_normal ?_ | refine KW.skip ?_ | refine KW.block ?_ | refine KW.cond_t rfl (by first | decide) ?_ | refine KW.cond_f rfl (by first | with_reducible rfl ) ?_ | ((first | apply KO.val rfl rfl rfl ?kq ?_ ); (case kq => ((first | ((first | apply qt_indexAddr_slice rfl rfl rfl ?hi rfl rfl ?om); (case om => (intro hg; first | omega ))) | apply qt_ev rfl ?hi | ((first | apply qt_load1 rfl rfl ?hi rfl rfl ?hm ?hc | apply qt_loadN rfl rfl ?hi rfl rfl rfl ?hm ?hc); (case hm => repeat (first | exact List.Mem.head _ | apply List.Mem.tail _ )); (case hc => rfl)) | apply qt_eqs rfl rfl rfl ?hi rfl (Or.inl rfl) ); (case hi => (intro h; (repeat' (first | with_reducible exact alln | with_reducible refine allc ?_ ?_ | with_reducible refine andi ?_ ?_)); all_goals (first | with_reducible rfl )))))) | fail)
          refine KO.callF (asH bc ba old) ((bs, cl [.iface T u, .iface U v] 29) :: (b6, cl [hdl 103, .pointer (some ⟨ba, 0, none⟩), .int .u64 150] 130) :: []) (by classical exact List.perm_iff_count.2 (fun _ => by first | (simp only [List.count_append, List.count_cons, List.count_nil, List.append_assoc, List.cons_append, List.nil_append]; omega))) rfl rfl rfl rfl rfl rfl rfl c2 ?_
          rintro _ _ ⟨rfl, rfl⟩
          repeat' (first | refine KW.seq ?_ | refine KW.region ?_ | refine KO.nil ?_ | refine At.then_normal ?_ | refine KW.ret ?_ | refine At.then_ret ?_ | refine At.block_ret ?_ | refine At.loop_ret ?_ | refine KW.cond_t rfl (by first | with_reducible rfl ) ?_ | ((first | apply KO.val rfl rfl rfl ?kq ?_ ); (case kq => ((first | apply qt_ev rfl ?hi ); (case hi => (intro h; (repeat' (first | with_reducible exact alln | with_reducible refine allc ?_ ?_ )); all_goals (first | with_reducible rfl )))))) | fail)
          ((first | apply At.done_ret ); (focus (repeat' (first | exact ResVs.nil' | apply ResVs.cons' | exact ResV.tmp' rfl ))); dsimp only [resVal])
          rw [hrt]
          exact ⟨asH bc ba c, List.sublist_append_left _ _, rfl, rfl⟩
      · have hrt : asR t old = (false, old) := by unfold asR; rw [← h2, ErrT.codes_pair, ha (by omega), hb (by omega)]; rfl
        repeat' (first | refine KW.seq ?_ | refine KW.region ?_ | refine KO.nil ?_ | refine At.then_normal ?_ | refine KW.ret ?_ | refine KW.exit ?_ | refine At.block_ret ?_ | refine At.loop_ret ?_ | refine KW.cond_f rfl (by first | decide) ?_ | ((first | apply KO.val rfl rfl rfl ?kq ?_ ); (case kq => ((first | apply qt_ev rfl ?hi ); (case hi => (intro h; (repeat' (first | with_reducible exact alln | with_reducible refine allc ?_ ?_ )); all_goals (first | with_reducible rfl )))))) | fail)
        ((first | apply At.done_ret ); (focus (repeat' (first | exact ResVs.nil' | apply ResVs.cons' | exact ResV.tmp' rfl ))); dsimp only [resVal])
        rw [hrt]
        exact ⟨asH bc ba old, .cons _ (.cons _ (List.Sublist.refl _)), rfl, rfl⟩
end Go.Proofs.YtnaclkdjchnbpaaDoor

/- Errors: what they are, and how they lie in memory; what is asked of their types; a walk through them. -/
import Derived.Test.YtnaclkdjchnbpaaDoorTt
import Derived.Test.YtnaclkdjchnbpaaDoorK30
import Derived.Test.YtnaclkdjchnbpaaDoorK20
import Derived.Stop.Asserts
import Derived.Test.YtnaclkdjchnbpaaDoorW2
namespace Go.Proofs.YtnaclkdjchnbpaaDoor
open Go Go.K


/-- An error: a number; one that came of another one; two; another one. -/
inductive ErrT where
  | code (e : Int)
  | fault (b : Nat) (op : ByteArray) (t : ErrT)
  | pair (b : Nat) (l r : ErrT)
def ErrT.val : ErrT → Value
  | .code e => .iface 32 (.int .i64 e)
  | .fault b _ _ => .iface 100 (.pointer (some ⟨b, 0, none⟩))
  | .pair b _ _ => .iface 141 (.pointer (some ⟨b, 0, none⟩))
def ErrT.Lies (β : Nat → Option Obj) (σ : Heap) : ErrT → Prop
  | .code _ => True
  | .fault b op t => Cel β σ b 0 (.string op) ∧ Cel β σ b 1 t.val ∧ t.Lies β σ
  | .pair b l r => Cel β σ b 0 l.val ∧ Cel β σ b 1 r.val ∧ l.Lies β σ ∧ r.Lies β σ
theorem ErrT.Lies.mono {β : Nat → Option Obj} {σ σ' : Heap} (hs : ∀ q ∈ σ, q ∈ σ') : ∀ {t : ErrT}, t.Lies β σ → t.Lies β σ'
  | .code _, _ => trivial
  | .fault _ _ _, h => ⟨h.1.mono hs, h.2.1.mono hs, ErrT.Lies.mono hs h.2.2⟩
  | .pair _ _ _, h => ⟨h.1.mono hs, h.2.1.mono hs, ErrT.Lies.mono hs h.2.2.1, ErrT.Lies.mono hs h.2.2.2⟩
theorem ErrT.Lies.frz {β β' : Nat → Option Obj} {φ : Heap} (h1 : ∀ b o, β b = some o → β' b = some o) (h2 : ∀ p ∈ φ, β' p.1 = some p.2) : ∀ {t : ErrT}, t.Lies β φ → t.Lies β' []
  | .code _, _ => trivial
  | .fault _ _ _, h => ⟨h.1.frz h1 h2, h.2.1.frz h1 h2, ErrT.Lies.frz h1 h2 h.2.2⟩
  | .pair _ _ _, h => ⟨h.1.frz h1 h2, h.2.1.frz h1 h2, ErrT.Lies.frz h1 h2 h.2.2.1, ErrT.Lies.frz h1 h2 h.2.2.2⟩
/-- The errors that a walk sees, in order. -/
def ErrT.pre : ErrT → List ErrT
  | .code e => [.code e]
  | .fault b op t => .fault b op t :: t.pre
  | .pair b l r => .pair b l r :: (l.pre ++ r.pre)
/-- A type asked for: one that is no interface's. -/
theorem ta_conc {P : Program} {A : TypeId} {z : Value} {d : TypeDesc} (hd : P.underlying A = some d) (hn : (match d with | .interface _ => true | _ => false) = false) (hz : (P.info? A).map (·.zero) = some (some z)) (T xt : TypeId) (v : Value) (w : World) :
    (Instr.typeAssert (.iface T v) xt A true).run P w = .ok (.tuple [if T = A then v else z, .bool (decide (T = A))].toArray) w := by
  unfold Instr.typeAssert
  have e1 : (underlying A).run P w = .ok d w := by simp [underlying, hd]
  have e2 : (zeroValue A).run P w = .ok z w := by
    cases hi : P.info? A with
    | none => rw [hi] at hz; cases hz
    | some i => rw [hi] at hz; simp only [Option.map_some, Option.some.injEq] at hz; simp [zeroValue, typeInfo, hi, hz]
  by_cases e : T = A
  · cases d <;> first | (cases hn; done) | simp [Sem.run_bind, e1, e]
  · cases d <;> first | (cases hn; done) | simp [Sem.run_bind, e1, e2, e]
theorem ta_hit {P : Program} {A : TypeId} {z : Value} {d : TypeDesc} (hd : P.underlying A = some d) (hn : (match d with | .interface _ => true | _ => false) = false) (hz : (P.info? A).map (·.zero) = some (some z)) (xt : TypeId) (v : Value) (w : World) :
    (Instr.typeAssert (.iface A v) xt A true).run P w = .ok (.tuple [v, .bool true].toArray) w := by
  have := ta_conc hd hn hz A xt v w
  rwa [if_pos rfl, decide_eq_true rfl] at this
theorem ta_miss {P : Program} {A : TypeId} {z : Value} {d : TypeDesc} (hd : P.underlying A = some d) (hn : (match d with | .interface _ => true | _ => false) = false) (hz : (P.info? A).map (·.zero) = some (some z)) {T : TypeId} (hT : T ≠ A) (xt : TypeId) (v : Value) (w : World) :
    (Instr.typeAssert (.iface T v) xt A true).run P w = .ok (.tuple [z, .bool false].toArray) w := by
  have := ta_conc hd hn hz T xt v w
  rwa [if_neg hT, decide_eq_false hT] at this
theorem taF1 (xt : TypeId) (v : Value) : TAs Tryd.prog (.iface 100 v) xt 100 (.tuple [v, .bool true].toArray) := ⟨fun w => ta_hit Tryd.underlying100 rfl (z := .pointer none) (by kernel_rfl) xt v w⟩
theorem taF0 {T : TypeId} (hT : T ≠ 100) (xt : TypeId) (v : Value) : TAs Tryd.prog (.iface T v) xt 100 (.tuple [.pointer none, .bool false].toArray) := ⟨fun w => ta_miss Tryd.underlying100 rfl (by kernel_rfl) hT xt v w⟩
theorem taP1 (xt : TypeId) (v : Value) : TAs Tryd.prog (.iface 141 v) xt 141 (.tuple [v, .bool true].toArray) := ⟨fun w => ta_hit Tryd.underlying141 rfl (z := .pointer none) (by kernel_rfl) xt v w⟩
theorem taP0 {T : TypeId} (hT : T ≠ 141) (xt : TypeId) (v : Value) : TAs Tryd.prog (.iface T v) xt 141 (.tuple [.pointer none, .bool false].toArray) := ⟨fun w => ta_miss Tryd.underlying141 rfl (by kernel_rfl) hT xt v w⟩
theorem taE1 (xt : TypeId) (v : Value) : TAs Tryd.prog (.iface 32 v) xt 32 (.tuple [v, .bool true].toArray) := ⟨fun w => ta_hit Tryd.underlying32 rfl (z := .int .i64 0) (by kernel_rfl) xt v w⟩
theorem taE0 {T : TypeId} (hT : T ≠ 32) (xt : TypeId) (v : Value) : TAs Tryd.prog (.iface T v) xt 32 (.tuple [.int .i64 0, .bool false].toArray) := ⟨fun w => ta_miss Tryd.underlying32 rfl (by kernel_rfl) hT xt v w⟩
theorem walk_p (β : Nat → Option Obj) (f : FuncId) (bo : Nat) (N : Nat) (P : List ErrT → Heap → Prop)
    (hsee : ∀ l σ e, l.length < N → P l σ → e.Lies β [] → Go.K.Tr Tryd.prog f [e.val, .pointer (some ⟨bo, 0, none⟩)] β σ (fun v σ' => v = .tuple #[] ∧ P (l ++ [e]) σ')) :
    ∀ (t : ErrT), t.Lies β [] → ∀ l σ, l.length + t.pre.length ≤ N → P l σ → Go.K.Tr Tryd.prog 59 [t.val, .func (.func f) #[] #[.pointer (some ⟨bo, 0, none⟩)]] β σ (fun v σ' => v = .tuple #[] ∧ P (l ++ t.pre) σ') := by
  intro t
  induction t with
  | code e =>
    intro hl l σ hN hP
    simp only [ErrT.pre, List.length_cons, List.length_append, List.length_nil] at hN
    have hs : Go.K.Tr Tryd.prog f [.iface 32 (.int .i64 e), .pointer (some ⟨bo, 0, none⟩)] β σ (fun v σ' => v = .tuple #[] ∧ P (l ++ [.code e]) σ') := hsee l σ (.code e) (by omega) hP hl
    show Go.K.Tr Tryd.prog 59 [.iface 32 (.int .i64 e), .func (.func f) #[] #[.pointer (some ⟨bo, 0, none⟩)]] β σ _
    refine Tr.of_body Tryd.tt (args := [.iface 32 (.int .i64 e), .func (.func f) #[] #[.pointer (some ⟨bo, 0, none⟩)]]) (fr := [(0, true, .iface 32 (.int .i64 e)), (1, true, .func (.func f) #[] #[.pointer (some ⟨bo, 0, none⟩)])]) Tryd.func59 rfl (by decide) rfl Tryd.ntmps59 rfl rfl ?_
    intro E hE
    subst hE
    repeat' (first | refine KW.seq ?_ | refine KW.region ?_ | refine KO.nil ?_ | refine At.then_normal ?_ | refine KW.skip ?_ | refine KW.cond_f rfl (by first | with_reducible rfl ) ?_ | ((first | apply KO.val rfl rfl rfl ?kq ?_); (case kq => ((first | apply qt_ev rfl ?hi | apply qt_eqs rfl rfl rfl ?hi rfl (Or.inl rfl) ); (case hi => (intro h; (repeat' (first | with_reducible exact alln | with_reducible refine allc ?_ ?_ | with_reducible refine andi ?_ ?_)); all_goals (first | with_reducible rfl )))))) | fail)
    refine KO.callF σ [] (by simp) rfl rfl rfl rfl rfl rfl rfl hs ?_
    rintro _ σ1 ⟨rfl, h1⟩
    rw [List.append_nil]
    repeat' (first | refine KW.seq ?_ | refine KW.region ?_ | refine KO.nil ?_ | refine At.then_normal ?_ | refine KW.skip ?_ | refine KW.block ?_ | refine At.block_normal ?_ | refine KW.cond_f rfl (by first | with_reducible rfl ) ?_ | ((first | apply KO.val rfl rfl rfl ?kq ?_); (case kq => ((first | apply qt_ev rfl ?hi | (refine qt_ta rfl rfl ?hi (taF0 ?hT _ _); (case hT => decide)) | (refine qt_ta rfl rfl ?hi (taP0 ?hT _ _); (case hT => decide)) ); (case hi => (intro h; (repeat' (first | with_reducible exact alln | with_reducible refine allc ?_ ?_ )); all_goals (first | with_reducible rfl )))))) | fail)
    ((first | apply At.done_normal); (focus (repeat' (first | exact ResVs.nil' ))); dsimp only [resVal])
    exact ⟨rfl, h1⟩
  | fault b op t ih =>
    intro hl l σ hN hP
    simp only [ErrT.pre, List.length_cons, List.length_append, List.length_nil] at hN
    have hs : Go.K.Tr Tryd.prog f [.iface 100 (.pointer (some ⟨b, 0, none⟩)), .pointer (some ⟨bo, 0, none⟩)] β σ (fun v σ' => v = .tuple #[] ∧ P (l ++ [.fault b op t]) σ') := hsee l σ (.fault b op t) (by omega) hP hl
    show Go.K.Tr Tryd.prog 59 [.iface 100 (.pointer (some ⟨b, 0, none⟩)), .func (.func f) #[] #[.pointer (some ⟨bo, 0, none⟩)]] β σ _
    refine Tr.of_body Tryd.tt (args := [.iface 100 (.pointer (some ⟨b, 0, none⟩)), .func (.func f) #[] #[.pointer (some ⟨bo, 0, none⟩)]]) (fr := [(0, true, .iface 100 (.pointer (some ⟨b, 0, none⟩))), (1, true, .func (.func f) #[] #[.pointer (some ⟨bo, 0, none⟩)])]) Tryd.func59 rfl (by decide) rfl Tryd.ntmps59 rfl rfl ?_
    intro E hE
    subst hE
    repeat' (first | refine KW.seq ?_ | refine KW.region ?_ | refine KO.nil ?_ | refine At.then_normal ?_ | refine KW.skip ?_ | refine KW.cond_f rfl (by first | with_reducible rfl ) ?_ | ((first | apply KO.val rfl rfl rfl ?kq ?_); (case kq => ((first | apply qt_ev rfl ?hi | apply qt_eqs rfl rfl rfl ?hi rfl (Or.inl rfl) ); (case hi => (intro h; (repeat' (first | with_reducible exact alln | with_reducible refine allc ?_ ?_ | with_reducible refine andi ?_ ?_)); all_goals (first | with_reducible rfl )))))) | fail)
    refine KO.callF σ [] (by simp) rfl rfl rfl rfl rfl rfl rfl hs ?_
    rintro _ σ1 ⟨rfl, h1⟩
    rw [List.append_nil]
    repeat' (first | refine KW.seq ?_ | refine KW.region ?_ | refine KO.nil ?_ | refine At.then_normal ?_ | refine KW.block ?_ | refine KW.cond_t rfl (by first | with_reducible rfl ) ?_ | ((first | apply KO.val rfl rfl rfl ?kq ?_); (case kq => ((first | apply qt_ev rfl ?hi | refine qt_ta rfl rfl ?hi (taF1 _ _) ); (case hi => (intro h; (repeat' (first | with_reducible exact alln | with_reducible refine allc ?_ ?_ )); all_goals (first | with_reducible rfl )))))) | ((first | apply KO.val (g := true) rfl rfl rfl); (first | (apply qt_load1_cel rfl rfl ?hi rfl rfl ?hc; (case hc => first | exact fun _ => (hl.2.1.mono (fun _ hq => by cases hq))))); (case hi => (first | exact fun _ => rfl ))) | fail)
    refine KO.callF σ1 [] (by simp) rfl rfl rfl rfl rfl rfl rfl (ih hl.2.2 _ σ1 (by simp only [List.length_append, List.length_cons, List.length_nil]; omega) h1) ?_
    rintro _ σ2 ⟨rfl, h2⟩
    rw [List.append_nil]
    repeat' (first | refine KO.nil ?_ | refine At.block_normal ?_ | fail)
    ((first | apply At.done_normal); (focus (repeat' (first | exact ResVs.nil' ))); dsimp only [resVal])
    refine ⟨rfl, ?_⟩
    rw [show l ++ ErrT.pre (.fault b op t) = l ++ [.fault b op t] ++ t.pre by rw [ErrT.pre, List.append_assoc]; rfl]
    exact h2
  | pair b t r ih1 ih2 =>
    intro hl l σ hN hP
    simp only [ErrT.pre, List.length_cons, List.length_append, List.length_nil] at hN
    have hs : Go.K.Tr Tryd.prog f [.iface 141 (.pointer (some ⟨b, 0, none⟩)), .pointer (some ⟨bo, 0, none⟩)] β σ (fun v σ' => v = .tuple #[] ∧ P (l ++ [.pair b t r]) σ') := hsee l σ (.pair b t r) (by omega) hP hl
    show Go.K.Tr Tryd.prog 59 [.iface 141 (.pointer (some ⟨b, 0, none⟩)), .func (.func f) #[] #[.pointer (some ⟨bo, 0, none⟩)]] β σ _
    refine Tr.of_body Tryd.tt (args := [.iface 141 (.pointer (some ⟨b, 0, none⟩)), .func (.func f) #[] #[.pointer (some ⟨bo, 0, none⟩)]]) (fr := [(0, true, .iface 141 (.pointer (some ⟨b, 0, none⟩))), (1, true, .func (.func f) #[] #[.pointer (some ⟨bo, 0, none⟩)])]) Tryd.func59 rfl (by decide) rfl Tryd.ntmps59 rfl rfl ?_
    intro E hE
    subst hE
    repeat' (first | refine KW.seq ?_ | refine KW.region ?_ | refine KO.nil ?_ | refine At.then_normal ?_ | refine KW.skip ?_ | refine KW.cond_f rfl (by first | with_reducible rfl ) ?_ | ((first | apply KO.val rfl rfl rfl ?kq ?_); (case kq => ((first | apply qt_ev rfl ?hi | apply qt_eqs rfl rfl rfl ?hi rfl (Or.inl rfl) ); (case hi => (intro h; (repeat' (first | with_reducible exact alln | with_reducible refine allc ?_ ?_ | with_reducible refine andi ?_ ?_)); all_goals (first | with_reducible rfl )))))) | fail)
    refine KO.callF σ [] (by simp) rfl rfl rfl rfl rfl rfl rfl hs ?_
    rintro _ σ1 ⟨rfl, h1⟩
    rw [List.append_nil]
    repeat' (first | refine KW.seq ?_ | refine KW.region ?_ | refine KO.nil ?_ | refine At.then_normal ?_ | refine KW.block ?_ | refine KW.cond_t rfl (by first | with_reducible rfl ) ?_ | refine KW.cond_f rfl (by first | with_reducible rfl ) ?_ | ((first | apply KO.val rfl rfl rfl ?kq ?_); (case kq => ((first | apply qt_ev rfl ?hi | (refine qt_ta rfl rfl ?hi (taF0 ?hT _ _); (case hT => decide)) | refine qt_ta rfl rfl ?hi (taP1 _ _) ); (case hi => (intro h; (repeat' (first | with_reducible exact alln | with_reducible refine allc ?_ ?_ )); all_goals (first | with_reducible rfl )))))) | ((first | apply KO.val (g := true) rfl rfl rfl); (first | (apply qt_load1_cel rfl rfl ?hi rfl rfl ?hc; (case hc => first | exact fun _ => (hl.1.mono (fun _ hq => by cases hq)) ))); (case hi => (first | exact fun _ => rfl ))) | fail)
    refine KO.callF σ1 [] (by simp) rfl rfl rfl rfl rfl rfl rfl (ih1 hl.2.2.1 _ σ1 (by simp only [List.length_append, List.length_cons, List.length_nil]; omega) h1) ?_
    rintro _ σ2 ⟨rfl, h2⟩
    rw [List.append_nil]
    repeat' (first | refine KW.region ?_ | refine KO.nil ?_ | ((first | apply KO.val rfl rfl rfl ?kq ?_); (case kq => ((first | apply qt_ev rfl ?hi ); (case hi => (intro h; (repeat' (first | with_reducible exact alln | with_reducible refine allc ?_ ?_ )); all_goals (first | with_reducible rfl )))))) | ((first | apply KO.val (g := true) rfl rfl rfl); (first | (apply qt_load1_cel rfl rfl ?hi rfl rfl ?hc; (case hc => first | exact fun _ => (hl.2.1.mono (fun _ hq => by cases hq))))); (case hi => (first | exact fun _ => rfl ))) | fail)
    refine KO.callF σ2 [] (by simp) rfl rfl rfl rfl rfl rfl rfl (ih2 hl.2.2.2 _ σ2 (by simp only [List.length_append, List.length_cons, List.length_nil]; omega) h2) ?_
    rintro _ σ3 ⟨rfl, h3⟩
    rw [List.append_nil]
    repeat' (first | refine KO.nil ?_ | refine At.block_normal ?_ | fail)
    ((first | apply At.done_normal); (focus (repeat' (first | exact ResVs.nil' ))); dsimp only [resVal])
    refine ⟨rfl, ?_⟩
    rw [show l ++ ErrT.pre (.pair b t r) = l ++ [.pair b t r] ++ t.pre ++ r.pre by rw [ErrT.pre, List.append_assoc, List.append_assoc]; rfl]
    exact h3
end Go.Proofs.YtnaclkdjchnbpaaDoor

/- msg.form: a flag; a response, and whether it has a body. -/
import Derived.Test.YtnaclkdjchnbpaaDoorM7
namespace Go.Proofs.YtnaclkdjchnbpaaDoor
open Go Go.K

/-- A response. -/
structure Rs where
  st : Int
  op : Int
  tok : Nat
  unit : Int
  ax : Int
  ay : Int
  new : Int
  expl : Int
  ver : Int
  hit : Bool
  cost : Nat
  settled : Int
  left : Int
  mv : Value
  units : Int
  cache : Int
  sess : Int
def Rs.cells (r : Rs) : List Value := [.int .i64 r.st, .int .i64 r.op, .int .u64 (r.tok : Int), .int .i64 r.unit, .int .i64 r.ax, .int .i64 r.ay, .int .i64 r.new, .int .i64 r.expl, .int .i64 r.ver, .bool r.hit, .int .u64 (r.cost : Int), .int .i64 r.settled, .int .i64 r.left, r.mv, .int .i64 r.units, .int .i64 r.cache, .int .i64 r.sess]
def bodyB (op st : Int) : Bool := decide (op ≠ 255) && (decide (st = 0) || (decide (op = 4 ∨ op = 5) && decide (st = 22 ∨ st = 23)))
def stepF (md : Md) (x : Flt) (name : ByteArray) (b : Bool) : Md × Flt × Bool :=
  let a := stepN md x name (if b then 1 else 0) 1
  (a.1, if 1 < a.2.2 then note a.2.1 name 11 else a.2.1, decide (a.2.2 = 1))
theorem flag_p (β : Nat → Option Obj) (bf bn : Nat) (cs : List Value) (t : TypeId) (on : Nat) (what name : ByteArray) (md : Md) (x : Flt) (σ : Heap) (hf : FormB β bf what md x σ) (hm : md.len ≤ 900000) (b : Bool) (hx : cs[on]? = some (.bool b)) :
    Go.K.Tr Tryd.prog 71 [.pointer (some ⟨bf, 0, none⟩), .string name, .pointer (some ⟨bn, on, none⟩)] β ((bn, cl cs t) :: σ) (fun _ σ' => ∃ s, FormB β bf what (stepF md x name b).1 (stepF md x name b).2.1 s ∧ σ' = (bn, cl (cs.set on (.bool (stepF md x name b).2.2)) t) :: s) := by
  have hlt : on < cs.length := (List.getElem?_eq_some_iff.1 hx).1
  refine Tr.sub ?_
  refine Tr.of_body Tryd.tt (args := [.pointer (some ⟨bf, 0, none⟩), .string name, .pointer (some ⟨bn, on, none⟩)]) (fr := [(0, true, .pointer (some ⟨bf, 0, none⟩)), (1, true, .string name), (2, true, .pointer (some ⟨bn, on, none⟩))]) Tryd.func71 rfl (by decide) rfl Tryd.ntmps71 rfl rfl ?_
  intro E hE
  subst hE
  have k1 : ∀ (q : Nat × Obj), Cel E.β (q :: ((bn, cl cs t) :: σ)) bn on (.bool b) := fun q => .inl ⟨cs, t, List.Mem.tail _ (List.Mem.head _), hx⟩
  repeat' (first | refine KW.seq ?_ | refine KW.region ?_ | refine KO.nil ?_ | refine At.then_normal ?_ | refine KW.skip ?_ | ((first | apply KO.val rfl rfl rfl ?kq ?_); (case kq => ((first | apply qt_ev rfl ?hi ); (case hi => (intro h; (repeat' (first | with_reducible exact alln | with_reducible refine allc ?_ ?_ )); all_goals (first | with_reducible rfl )))))) | (refine KO.alloc rfl rfl rfl rfl rfl rfl ?_; intro _ _) | (apply KO.store (i := _) rfl rfl rfl rfl rfl rfl rfl rfl ?hl ?sg ?hw ?ho ?hs; (case sg => first | exact (rfl : getI 0 _ = _) ); (case hl => rfl); (case hw => rfl); (case ho => rfl); (case hs => rfl)) | (refine KW.cond rfl ?_ ?_ <;> (intro hc; try simp only [kBool] at hc)) | ((first | apply KO.val (g := true) rfl rfl rfl); (first | (apply qt_load1_cel rfl rfl ?hi rfl rfl ?hc; (case hc => first | exact fun _ => (k1 _)))); (case hi => (first | exact fun _ => rfl ))) | fail)
  · rename_i b6 _
    subst hc
    refine KO.callF ((b6, cl [.int .i64 1] 3) :: σ) [(bn, cl cs t)] (by classical exact List.perm_iff_count.2 (fun _ => by first | (simp only [List.count_append, List.count_cons, List.count_nil, List.append_assoc, List.cons_append, List.nil_append]; omega))) rfl rfl rfl rfl rfl rfl rfl (number_p _ bf b6 [.int .i64 1] 3 0 what name md x σ hf (by omega) 1 1 rfl) ?_
    rintro _ _ ⟨s, hs, rfl⟩
    rcases hN : stepN md x name 1 1 with ⟨m1, x1, n1⟩
    rw [hN] at hs
    dsimp only at hs
    have e : stepF md x name true = (m1, if 1 < n1 then note x1 name 11 else x1, decide (n1 = 1)) := by
      show ((stepN md x name 1 1).1, (if 1 < (stepN md x name 1 1).2.2 then note (stepN md x name 1 1).2.1 name 11 else (stepN md x name 1 1).2.1), decide ((stepN md x name 1 1).2.2 = 1)) = _
      rw [hN]
    rw [e]
    obtain ⟨wv, rv, dv, ev, φ, ε, hF, hE, rfl⟩ := hs
    refine KO.perm (σ' := (bn, cl cs t) :: ((b6, cl [.int .i64 n1] 3) :: ((bf, cl [.string what, wv, rv, dv, ev] 80) :: (ε ++ φ)))) ?_ ?_
    · show List.Perm ((b6, cl [.int .i64 n1] 3) :: ((bf, cl [.string what, wv, rv, dv, ev] 80) :: (ε ++ φ)) ++ [(bn, cl cs t)]) _
      exact (by classical exact List.perm_iff_count.2 (fun _ => by first | (simp only [List.count_append, List.count_cons, List.count_nil, List.append_assoc, List.cons_append, List.nil_append]; omega)))
    repeat' (first | refine KW.seq ?_ | refine KW.region ?_ | refine KO.nil ?_ | refine At.then_normal ?_ | refine KW.skip ?_ | ((first | apply KO.val rfl rfl rfl ?kq ?_); (case kq => ((first | apply qt_ev rfl ?hi | ((first | apply qt_load1 rfl rfl ?hi rfl rfl ?hm ?hc ); (case hm => repeat (first | exact List.Mem.head _ | apply List.Mem.tail _ )); (case hc => rfl)) ); (case hi => (intro h; (repeat' (first | with_reducible exact alln | with_reducible refine allc ?_ ?_ )); all_goals (first | with_reducible rfl )))))) | (refine KW.cond rfl ?_ ?_ <;> (intro hc; try simp only [kBool] at hc)) | fail)
    · have htr := trivial
      refine KO.callF ((bf, cl [.string what, wv, rv, dv, ev] 80) :: (ε ++ φ)) [(bn, cl cs t), (b6, cl [.int .i64 n1] 3)] (by classical exact List.perm_iff_count.2 (fun _ => by first | (simp only [List.count_append, List.count_cons, List.count_nil, List.append_assoc, List.cons_append, List.nil_append]; omega))) rfl rfl rfl rfl rfl rfl rfl (wrong_p _ bf name what 11 wv rv dv ev x1 ε φ hE) ?_
      rintro _ _ ⟨ev', ε', hE', rfl⟩
      refine KO.perm (σ' := (bn, cl cs t) :: ((b6, cl [.int .i64 n1] 3) :: ((bf, cl [.string what, wv, rv, dv, ev'] 80) :: (ε' ++ φ)))) (by classical exact List.perm_iff_count.2 (fun _ => by first | (simp only [List.count_append, List.count_cons, List.count_nil, List.append_assoc, List.cons_append, List.nil_append]; omega))) ?_
      repeat' (first | refine KW.region ?_ | refine KO.nil ?_ | ((first | apply KO.val rfl rfl rfl ?kq ?_); (case kq => ((first | apply qt_ev rfl ?hi | ((first | apply qt_load1 rfl rfl ?hi rfl rfl ?hm ?hc ); (case hm => repeat (first | exact List.Mem.head _ | apply List.Mem.tail _ )); (case hc => rfl)) ); (case hi => (intro h; (repeat' (first | with_reducible exact alln | with_reducible refine allc ?_ ?_ )); all_goals (first | with_reducible rfl )))))) | fail)
      refine KO.storeW (i := 0) (vs := [_]) (cs' := cs.set on (.bool (decide (n1 = 1)))) rfl rfl rfl rfl rfl rfl rfl rfl rfl rfl (wr_set hlt) rfl ?_
      repeat' (first | refine KO.nil ?_ | fail)
      refine At.end0 ⟨_, List.Sublist.cons_cons _ (List.Sublist.cons _ (List.Sublist.refl _)), _, ⟨wv, rv, dv, ev', φ, ε', hF, ?_, rfl⟩, rfl⟩
      rw [if_pos (by assumption)]
      exact hE'
    · have htr := trivial
      refine KO.storeW (i := 0) (vs := [_]) (cs' := cs.set on (.bool (decide (n1 = 1)))) rfl rfl rfl rfl rfl rfl rfl rfl rfl rfl (wr_set hlt) rfl ?_
      repeat' (first | refine KO.nil ?_ | fail)
      refine At.end0 ⟨_, List.Sublist.cons_cons _ (List.Sublist.cons _ (List.Sublist.refl _)), _, ⟨wv, rv, dv, ev, φ, ε, hF, ?_, rfl⟩, rfl⟩
      rw [if_neg (by omega)]
      exact hE
  · rename_i b6 _
    subst hc
    refine KO.callF ((b6, cl [.int .i64 0] 3) :: σ) [(bn, cl cs t)] (by classical exact List.perm_iff_count.2 (fun _ => by first | (simp only [List.count_append, List.count_cons, List.count_nil, List.append_assoc, List.cons_append, List.nil_append]; omega))) rfl rfl rfl rfl rfl rfl rfl (number_p _ bf b6 [.int .i64 0] 3 0 what name md x σ hf (by omega) 0 1 rfl) ?_
    rintro _ _ ⟨s, hs, rfl⟩
    rcases hN : stepN md x name 0 1 with ⟨m1, x1, n1⟩
    rw [hN] at hs
    dsimp only at hs
    have e : stepF md x name false = (m1, if 1 < n1 then note x1 name 11 else x1, decide (n1 = 1)) := by
      show ((stepN md x name 0 1).1, (if 1 < (stepN md x name 0 1).2.2 then note (stepN md x name 0 1).2.1 name 11 else (stepN md x name 0 1).2.1), decide ((stepN md x name 0 1).2.2 = 1)) = _
      rw [hN]
    rw [e]
    obtain ⟨wv, rv, dv, ev, φ, ε, hF, hE, rfl⟩ := hs
    refine KO.perm (σ' := (bn, cl cs t) :: ((b6, cl [.int .i64 n1] 3) :: ((bf, cl [.string what, wv, rv, dv, ev] 80) :: (ε ++ φ)))) ?_ ?_
    · show List.Perm ((b6, cl [.int .i64 n1] 3) :: ((bf, cl [.string what, wv, rv, dv, ev] 80) :: (ε ++ φ)) ++ [(bn, cl cs t)]) _
      exact (by classical exact List.perm_iff_count.2 (fun _ => by first | (simp only [List.count_append, List.count_cons, List.count_nil, List.append_assoc, List.cons_append, List.nil_append]; omega)))
    repeat' (first | refine KW.seq ?_ | refine KW.region ?_ | refine KO.nil ?_ | refine At.then_normal ?_ | refine KW.skip ?_ | ((first | apply KO.val rfl rfl rfl ?kq ?_); (case kq => ((first | apply qt_ev rfl ?hi | ((first | apply qt_load1 rfl rfl ?hi rfl rfl ?hm ?hc ); (case hm => repeat (first | exact List.Mem.head _ | apply List.Mem.tail _ )); (case hc => rfl)) ); (case hi => (intro h; (repeat' (first | with_reducible exact alln | with_reducible refine allc ?_ ?_ )); all_goals (first | with_reducible rfl )))))) | (refine KW.cond rfl ?_ ?_ <;> (intro hc; try simp only [kBool] at hc)) | fail)
    · have htr := trivial
      refine KO.callF ((bf, cl [.string what, wv, rv, dv, ev] 80) :: (ε ++ φ)) [(bn, cl cs t), (b6, cl [.int .i64 n1] 3)] (by classical exact List.perm_iff_count.2 (fun _ => by first | (simp only [List.count_append, List.count_cons, List.count_nil, List.append_assoc, List.cons_append, List.nil_append]; omega))) rfl rfl rfl rfl rfl rfl rfl (wrong_p _ bf name what 11 wv rv dv ev x1 ε φ hE) ?_
      rintro _ _ ⟨ev', ε', hE', rfl⟩
      refine KO.perm (σ' := (bn, cl cs t) :: ((b6, cl [.int .i64 n1] 3) :: ((bf, cl [.string what, wv, rv, dv, ev'] 80) :: (ε' ++ φ)))) (by classical exact List.perm_iff_count.2 (fun _ => by first | (simp only [List.count_append, List.count_cons, List.count_nil, List.append_assoc, List.cons_append, List.nil_append]; omega))) ?_
      repeat' (first | refine KW.region ?_ | refine KO.nil ?_ | ((first | apply KO.val rfl rfl rfl ?kq ?_); (case kq => ((first | apply qt_ev rfl ?hi | ((first | apply qt_load1 rfl rfl ?hi rfl rfl ?hm ?hc ); (case hm => repeat (first | exact List.Mem.head _ | apply List.Mem.tail _ )); (case hc => rfl)) ); (case hi => (intro h; (repeat' (first | with_reducible exact alln | with_reducible refine allc ?_ ?_ )); all_goals (first | with_reducible rfl )))))) | fail)
      refine KO.storeW (i := 0) (vs := [_]) (cs' := cs.set on (.bool (decide (n1 = 1)))) rfl rfl rfl rfl rfl rfl rfl rfl rfl rfl (wr_set hlt) rfl ?_
      repeat' (first | refine KO.nil ?_ | fail)
      refine At.end0 ⟨_, List.Sublist.cons_cons _ (List.Sublist.cons _ (List.Sublist.refl _)), _, ⟨wv, rv, dv, ev', φ, ε', hF, ?_, rfl⟩, rfl⟩
      rw [if_pos (by assumption)]
      exact hE'
    · have htr := trivial
      refine KO.storeW (i := 0) (vs := [_]) (cs' := cs.set on (.bool (decide (n1 = 1)))) rfl rfl rfl rfl rfl rfl rfl rfl rfl rfl (wr_set hlt) rfl ?_
      repeat' (first | refine KO.nil ?_ | fail)
      refine At.end0 ⟨_, List.Sublist.cons_cons _ (List.Sublist.cons _ (List.Sublist.refl _)), _, ⟨wv, rv, dv, ev, φ, ε, hF, ?_, rfl⟩, rfl⟩
      rw [if_neg (by omega)]
      exact hE
theorem body_p (β : Nat → Option Obj) (r : Rs) : Go.K.Tr Tryd.prog 61 [.agg r.cells.toArray] β [] (fun v s => v = .bool (bodyB r.op r.st) ∧ s = []) := by
  refine Tr.sub ?_
  refine Tr.of_body Tryd.tt (args := [.agg r.cells.toArray]) (fr := [(0, true, .agg r.cells.toArray)]) Tryd.func61 rfl (by decide) rfl Tryd.ntmps61 rfl rfl ?_
  intro E hE
  subst hE
  dsimp only [Rs.cells]
  repeat' (first | refine KW.seq ?_ | refine KW.region ?_ | refine KO.nil ?_ | refine At.then_normal ?_ | refine KW.ret ?_ | ((first | apply KO.val rfl rfl rfl ?kq ?_ | apply KO.valIn rfl rfl rfl ?kq ?_); (case kq => ((first | apply qt_ev rfl ?hi | ((first | apply qt_load1 rfl rfl ?hi rfl rfl ?hm ?hc ); (case hm => repeat (first | exact List.Mem.head _ )); (case hc => rfl)) | ((first | apply qt_pick_and rfl rfl rfl ?hi ?pj | apply qt_pick_or rfl rfl rfl ?hi ?pj); (case pj => (intro h h2; first | with_reducible exact h2 | with_reducible exact andi h h2 | (rw [h2]; rfl) | (rw [h, h2]; rfl) ))) ); (case hi => (intro h; (repeat' (first | with_reducible exact alln | with_reducible refine allc ?_ ?_ | with_reducible refine andi ?_ ?_)); all_goals (first | with_reducible rfl | with_reducible exact h | with_reducible exact andl h | with_reducible exact andr h | with_reducible exact andl (andl h) | (simp_all; done))))))) | (refine KO.box rfl rfl rfl rfl rfl rfl ?_; intro _ _) | fail)
  ((first | apply At.done_ret ); (focus (repeat' (first | exact ResVs.nil' | apply ResVs.cons' | exact ResV.tmp' rfl ))); dsimp only [resVal])
  refine ⟨[], List.nil_sublist _, ?_, rfl⟩
  unfold bodyB
  congr 1
  by_cases h1 : r.op = 255
  · simp [h1]
  · by_cases h2 : r.st = 0
    · simp [h1, h2]
    · simp [h1, h2]
end Go.Proofs.YtnaclkdjchnbpaaDoor

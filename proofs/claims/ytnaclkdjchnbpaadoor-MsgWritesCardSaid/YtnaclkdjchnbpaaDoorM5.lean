/- msg.form: a request's fields; msg.form: its beginning, its end. -/
import Derived.Test.YtnaclkdjchnbpaaDoorM3
namespace Go.Proofs.YtnaclkdjchnbpaaDoor
open Go Go.K

def opSize (o : Int) : Int := if o = 4 ∨ o = 5 then 16 else if o = 1 ∨ o = 3 ∨ o = 6 then 8 else if o = 2 then 10 else 0
theorem size_p (β : Nat → Option Obj) (σ : Heap) (o : Int) : Go.K.Tr Tryd.prog 54 [.int .i64 o] β σ (fun z s => z = .int .i64 (opSize o) ∧ s = σ) := by
  refine Tr.of_body Tryd.tt (args := [.int .i64 o]) (fr := [(0, true, .int .i64 o)]) Tryd.func54 rfl (by decide) rfl Tryd.ntmps54 rfl rfl ?_
  intro E hE
  subst hE
  repeat' (first | refine KW.seq ?_ | refine KW.region ?_ | refine KO.nil ?_ | refine At.then_normal ?_ | refine KW.skip ?_ | refine KW.ret ?_ | refine KW.block ?_ | refine KW.exit ?_ | ((first | apply KO.val rfl rfl rfl ?kq ?_); (case kq => ((first | ((first | apply qt_add rfl rfl rfl ?hi ?om); (case om => (intro hg; first | omega ))) | apply qt_ev rfl ?hi ); (case hi => (intro h; (repeat' (first | with_reducible exact alln | with_reducible refine allc ?_ ?_ | with_reducible refine andi ?_ ?_)); all_goals (first | with_reducible rfl )))))) | (refine KW.cond rfl ?_ ?_ <;> (intro hc; try simp only [kBool] at hc)) | fail)
  all_goals
    ((first | apply At.done_ret ); (focus (repeat' (first | exact ResVs.nil' | apply ResVs.cons' | exact ResV.tmp' rfl ))); dsimp only [resVal])
    refine ⟨?_, rfl⟩
    congr 1
    unfold opSize
    (repeat' split) <;> omega
theorem FormB.none_ {β : Nat → Option Obj} {bf : Nat} {what : ByteArray} {md : Md} {σ : Heap} (h : FormB β bf what md none σ) : ∃ wv rv dv φ, FormH β bf md wv rv dv φ ∧ σ = (bf, cl [.string what, wv, rv, dv, .nilIface] 80) :: φ := by
  obtain ⟨wv, rv, dv, ev, φ, ε, h1, ⟨rfl, rfl⟩, rfl⟩ := h
  exact ⟨wv, rv, dv, φ, h1, rfl⟩
theorem FormB.some_ {β : Nat → Option Obj} {bf : Nat} {what : ByteArray} {md : Md} {y : ByteArray × Int} {σ : Heap} (h : FormB β bf what md (some y) σ) : ∃ wv rv dv b φ, σ = (bf, cl [.string what, wv, rv, dv, .iface 100 (.pointer (some ⟨b, 0, none⟩))] 80) :: φ := by
  obtain ⟨wv, rv, dv, ev, φ, ε, h1, ⟨b, c, rfl, rfl⟩, rfl⟩ := h
  exact ⟨wv, rv, dv, b, _, rfl⟩
/-- A request. -/
structure Rq where
  op : Int
  tok : Nat
  unit : Int
  dir : Int
  fx : Int
  fy : Int
  tx : Int
  ty : Int
def Rq.cells (r : Rq) : List Value := [.int .i64 r.op, .int .u64 (r.tok : Int), .int .i64 r.unit, .int .i64 r.dir, .int .i64 r.fx, .int .i64 r.fy, .int .i64 r.tx, .int .i64 r.ty]
abbrev Flt := Option (ByteArray × Int)
def sOp : ByteArray := ⟨#[111, 112]⟩
def sToken : ByteArray := ⟨#[116, 111, 107, 101, 110]⟩
def sUnit : ByteArray := ⟨#[117, 110, 105, 116]⟩
def sDir : ByteArray := ⟨#[100, 105, 114]⟩
def sFrom : ByteArray := ⟨#[102, 114, 111, 109]⟩
def sTo : ByteArray := ⟨#[116, 111]⟩
/-- Behind the op. -/
def stepR2 (md : Md) (r : Rq) : Md × Flt × Rq :=
  let b := stepW md none sToken r.tok 8
  if r.op = 2 then
    let c := stepN b.1 b.2.1 sUnit r.unit 1
    let d := stepN c.1 c.2.1 sDir r.dir 1
    (d.1, d.2.1, { r with tok := b.2.2, unit := c.2.2, dir := d.2.2 })
  else if r.op = 4 ∨ r.op = 5 then
    let c := stepC b.1 b.2.1 sFrom r.fx r.fy
    let d := stepC c.1 c.2.1 sTo r.tx r.ty
    (d.1, d.2.1, { r with tok := b.2.2, fx := c.2.2.1, fy := c.2.2.2, tx := d.2.2.1, ty := d.2.2.2 })
  else (b.1, b.2.1, { r with tok := b.2.2 })
def stepR (md : Md) (r : Rq) : Md × Flt × Rq :=
  let a := stepN md none sOp r.op 1
  match a.2.1 with
  | some y => (a.1, some y, { r with op := a.2.2 })
  | none => if a.2.2 < 0 ∨ 7 ≤ a.2.2 then (a.1, some (sOp, 18), { r with op := a.2.2 })
    else if opSize a.2.2 = 0 then (a.1, none, { r with op := a.2.2 }) else stepR2 a.1 { r with op := a.2.2 }
theorem stepW_len (md : Md) (x : Flt) (name : ByteArray) (X : Nat) (size : Int) (hs : size ≤ 8) : (stepW md x name X size).1.len ≤ md.len + 8 := by
  rcases x with _ | y
  · exact Md.step_len md _ size hs
  · show md.len ≤ md.len + 8; omega
theorem stepC_len (md : Md) (x : Flt) (name : ByteArray) (X Y : Int) : (stepC md x name X Y).1.len ≤ md.len + 16 := by
  have h1 := stepN_len md x name X 2 (by omega)
  have h2 := stepN_len (stepN md x name X 2).1 (stepN md x name X 2).2.1 name Y 2 (by omega)
  show (stepN (stepN md x name X 2).1 (stepN md x name X 2).2.1 name Y 2).1.len ≤ _
  omega
set_option maxHeartbeats 2000000 in
theorem fields_p (β : Nat → Option Obj) (bf bn : Nat) (what : ByteArray) (md : Md) (r : Rq) (σ : Heap) (hf : FormB β bf what md none σ) (hm : md.len ≤ 900000) (hT : r.tok < 18446744073709551616) :
    Go.K.Tr Tryd.prog 29 [.pointer (some ⟨bf, 0, none⟩), .pointer (some ⟨bn, 0, none⟩)] β ((bn, cl r.cells 26) :: σ) (fun _ σ' => ∃ s, FormB β bf what (stepR md r).1 (stepR md r).2.1 s ∧ σ' = (bn, cl (stepR md r).2.2.cells 26) :: s) := by
  refine Tr.perm ?_
  refine Tr.of_body Tryd.tt (args := [.pointer (some ⟨bf, 0, none⟩), .pointer (some ⟨bn, 0, none⟩)]) (fr := [(0, true, .pointer (some ⟨bf, 0, none⟩)), (1, true, .pointer (some ⟨bn, 0, none⟩))]) Tryd.func29 rfl (by decide) rfl Tryd.ntmps29 rfl rfl ?_
  intro E hE
  subst hE
  have l1 := stepN_len md none sOp r.op 1 (by omega)
  repeat' (first | refine KW.seq ?_ | refine KW.region ?_ | ((first | apply KO.val rfl rfl rfl ?kq ?_ ); (case kq => ((first | apply qt_ev rfl ?hi ); (case hi => (intro h; (repeat' (first | with_reducible exact alln | with_reducible refine allc ?_ ?_ )); all_goals (first | with_reducible rfl )))))) | fail)
  refine KO.callF ((bn, cl r.cells 26) :: σ) [] (by classical exact List.perm_iff_count.2 (fun _ => by first | (simp only [List.count_append, List.count_cons, List.count_nil, List.append_assoc, List.cons_append, List.nil_append]; omega))) rfl rfl rfl rfl rfl rfl rfl (number_p _ bf bn r.cells 26 0 what sOp md none σ hf (by omega) r.op 1 rfl) ?_
  rintro _ _ ⟨s, hs, rfl⟩
  refine KO.perm (σ' := (bn, cl { r with op := (stepN md none sOp r.op 1).2.2 }.cells 26) :: s) (by rw [List.append_nil]; exact List.Perm.refl _) ?_
  rcases hN : stepN md none sOp r.op 1 with ⟨m1, x1, o1⟩
  rw [hN] at hs l1
  dsimp only at hs l1 ⊢
  rcases x1 with _ | y
  · obtain ⟨wv, rv, dv, φ, hF, rfl⟩ := hs.none_
    dsimp only [Rq.cells]
    repeat' (first | refine KW.seq ?_ | refine KW.region ?_ | refine KO.nil ?_ | refine At.then_normal ?_ | refine KW.skip ?_ | refine KW.ret ?_ | refine At.then_ret ?_ | ((first | apply KO.val rfl rfl rfl ?kq ?_ ); (case kq => ((first | apply qt_ev rfl ?hi | ((first | apply qt_load1 rfl rfl ?hi rfl rfl ?hm ?hc ); (case hm => repeat (first | exact List.Mem.head _ | apply List.Mem.tail _ )); (case hc => rfl)) | refine qt_callQ rfl rfl ?hi (fun hg => size_p _ _ o1) | apply qt_pick_t rfl rfl (by first | with_reducible rfl ) rfl ?hi | apply qt_pick_f rfl rfl (by first | decide) rfl ?hi | ((first | apply qt_pick_or rfl rfl rfl ?hi ?pj); (case pj => (intro h h2; first | (rw [h2]; rfl) ))) | apply qt_eqs rfl rfl rfl ?hi rfl (Or.inr ⟨rfl, rfl, rfl⟩) | apply qt_nes rfl rfl rfl ?hi rfl (Or.inr ⟨rfl, rfl, rfl⟩)); (case hi => (intro h; (repeat' (first | with_reducible exact alln | with_reducible refine allc ?_ ?_ | with_reducible refine andi ?_ ?_)); all_goals (first | with_reducible rfl | with_reducible exact h | (simp [h]; done) )))))) | (refine KW.cond rfl ?_ ?_ <;> (intro hc; try simp only [kBool] at hc)) | fail)
    · have e : stepR md r = (m1, some (sOp, 18), { r with op := o1 }) := by simp only [stepR, hN]; rw [if_pos hc]
      rw [e]
      refine KO.callF ((bf, cl [.string what, wv, rv, dv, .nilIface] 80) :: ([] ++ [])) ((bn, cl [.int .i64 o1, .int .u64 (r.tok : Int), .int .i64 r.unit, .int .i64 r.dir, .int .i64 r.fx, .int .i64 r.fy, .int .i64 r.tx, .int .i64 r.ty] 26) :: φ) (by classical exact List.perm_iff_count.2 (fun _ => by first | (simp only [List.count_append, List.count_cons, List.count_nil, List.append_assoc, List.cons_append, List.nil_append]; omega))) rfl rfl rfl rfl rfl rfl rfl (wrong_p _ bf sOp what 18 wv rv dv .nilIface none [] [] ⟨rfl, rfl⟩) ?_
      rintro _ _ ⟨ev', ε', hE', rfl⟩
      rw [show note none sOp 18 = some (sOp, 18) by simp [note]] at hE'
      have hE2 := hE'
      obtain ⟨b, c, rfl, rfl⟩ := hE'
      refine KO.perm (σ' := (bn, cl [.int .i64 o1, .int .u64 (r.tok : Int), .int .i64 r.unit, .int .i64 r.dir, .int .i64 r.fx, .int .i64 r.fy, .int .i64 r.tx, .int .i64 r.ty] 26) :: ((bf, cl [.string what, wv, rv, dv, .iface 100 (.pointer (some ⟨b, 0, none⟩))] 80) :: ([(b, cl [.string what, .iface 100 (.pointer (some ⟨c, 0, none⟩))] 108), (c, cl [.string sOp, .iface 32 (.int .i64 18)] 108)] ++ φ))) (by classical exact List.perm_iff_count.2 (fun _ => by first | (simp only [List.count_append, List.count_cons, List.count_nil, List.append_assoc, List.cons_append, List.nil_append]; omega))) ?_
      repeat' (first | refine KW.seq ?_ | refine KW.region ?_ | refine KO.nil ?_ | refine At.then_normal ?_ | refine KW.ret ?_ | refine At.then_ret ?_ | refine KW.cond_t rfl (by first | with_reducible rfl ) ?_ | refine KO.skip' rfl (by first | decide) rfl rfl ?_ | ((first | apply KO.val rfl rfl rfl ?kq ?_ ); (case kq => ((first | apply qt_ev rfl ?hi | ((first | apply qt_load1 rfl rfl ?hi rfl rfl ?hm ?hc ); (case hm => repeat (first | exact List.Mem.head _ | apply List.Mem.tail _ )); (case hc => rfl)) | apply qt_pick_t rfl rfl (by first | decide) rfl ?hi | apply qt_nes rfl rfl rfl ?hi rfl (Or.inl rfl) ); (case hi => (intro h; (repeat' (first | with_reducible exact alln | with_reducible refine allc ?_ ?_ | with_reducible refine andi ?_ ?_)); all_goals (first | with_reducible rfl )))))) | fail)
      exact At.done_ret [] trivial ⟨_, List.Perm.refl _, _, ⟨wv, rv, dv, _, φ, _, hF, hE2, rfl⟩, rfl⟩
    · have e : stepR md r = (m1, none, { r with op := o1 }) := by simp only [stepR, hN]; rw [if_neg (by omega), if_pos hc]
      rw [e]
      exact At.done_ret [] trivial ⟨_, List.Perm.refl _, _, hs, rfl⟩
    · have e : stepR md r = stepR2 m1 { r with op := o1 } := by simp only [stepR, hN]; rw [if_neg (by omega), if_neg hc]
      rw [e]
      refine KO.callF ((bn, cl [.int .i64 o1, .int .u64 (r.tok : Int), .int .i64 r.unit, .int .i64 r.dir, .int .i64 r.fx, .int .i64 r.fy, .int .i64 r.tx, .int .i64 r.ty] 26) :: ((bf, cl [.string what, wv, rv, dv, .nilIface] 80) :: φ)) [] (by classical exact List.perm_iff_count.2 (fun _ => by first | (simp only [List.count_append, List.count_cons, List.count_nil, List.append_assoc, List.cons_append, List.nil_append]; omega))) rfl rfl rfl rfl rfl rfl rfl (word_p _ bf bn [.int .i64 o1, .int .u64 (r.tok : Int), .int .i64 r.unit, .int .i64 r.dir, .int .i64 r.fx, .int .i64 r.fy, .int .i64 r.tx, .int .i64 r.ty] 26 1 what sToken m1 none _ hs (by omega) r.tok 8 hT rfl) ?_
      rintro _ _ ⟨s, hs2, rfl⟩
      have l2 := stepW_len m1 none sToken r.tok 8 (by omega)
      rcases hW : stepW m1 none sToken r.tok 8 with ⟨m2, x2, t2⟩
      rw [hW] at hs2 l2
      dsimp only at hs2 l2
      refine KO.perm (σ' := (bn, cl [.int .i64 o1, .int .u64 (t2 : Int), .int .i64 r.unit, .int .i64 r.dir, .int .i64 r.fx, .int .i64 r.fy, .int .i64 r.tx, .int .i64 r.ty] 26) :: s) (by rw [List.append_nil]; exact List.Perm.refl _) ?_
      repeat' (first | refine KW.seq ?_ | refine KW.region ?_ | refine KO.nil ?_ | refine At.then_normal ?_ | refine KW.skip ?_ | refine KW.block ?_ | refine At.block_normal ?_ | ((first | apply KO.val rfl rfl rfl ?kq ?_ ); (case kq => ((first | apply qt_ev rfl ?hi | ((first | apply qt_load1 rfl rfl ?hi rfl rfl ?hm ?hc ); (case hm => repeat (first | exact List.Mem.head _ )); (case hc => rfl)) ); (case hi => (intro h; (repeat' (first | with_reducible exact alln | with_reducible refine allc ?_ ?_ )); all_goals (first | with_reducible rfl )))))) | (refine KW.cond rfl ?_ ?_ <;> (intro hc; try simp only [kBool] at hc)) | fail)
      · have htr := trivial
        refine KO.callF ((bn, cl [.int .i64 o1, .int .u64 (t2 : Int), .int .i64 r.unit, .int .i64 r.dir, .int .i64 r.fx, .int .i64 r.fy, .int .i64 r.tx, .int .i64 r.ty] 26) :: s) [] (by classical exact List.perm_iff_count.2 (fun _ => by first | (simp only [List.count_append, List.count_cons, List.count_nil, List.append_assoc, List.cons_append, List.nil_append]; omega))) rfl rfl rfl rfl rfl rfl rfl (number_p _ bf bn [.int .i64 o1, .int .u64 (t2 : Int), .int .i64 r.unit, .int .i64 r.dir, .int .i64 r.fx, .int .i64 r.fy, .int .i64 r.tx, .int .i64 r.ty] 26 2 what sUnit m2 x2 s hs2 (by omega) r.unit 1 rfl) ?_
        rintro _ _ ⟨s, hs3, rfl⟩
        have l3 := stepN_len m2 x2 sUnit r.unit 1 (by omega)
        rcases hU : stepN m2 x2 sUnit r.unit 1 with ⟨m3, x3, u3⟩
        rw [hU] at hs3 l3
        dsimp only at hs3 l3
        refine KO.perm (σ' := (bn, cl [.int .i64 o1, .int .u64 (t2 : Int), .int .i64 u3, .int .i64 r.dir, .int .i64 r.fx, .int .i64 r.fy, .int .i64 r.tx, .int .i64 r.ty] 26) :: s) (by rw [List.append_nil]; exact List.Perm.refl _) ?_
        repeat' (first | refine KW.region ?_ | refine KO.nil ?_ | ((first | apply KO.val rfl rfl rfl ?kq ?_ ); (case kq => ((first | apply qt_ev rfl ?hi ); (case hi => (intro h; (repeat' (first | with_reducible exact alln | with_reducible refine allc ?_ ?_ )); all_goals (first | with_reducible rfl )))))) | fail)
        refine KO.callF ((bn, cl [.int .i64 o1, .int .u64 (t2 : Int), .int .i64 u3, .int .i64 r.dir, .int .i64 r.fx, .int .i64 r.fy, .int .i64 r.tx, .int .i64 r.ty] 26) :: s) [] (by classical exact List.perm_iff_count.2 (fun _ => by first | (simp only [List.count_append, List.count_cons, List.count_nil, List.append_assoc, List.cons_append, List.nil_append]; omega))) rfl rfl rfl rfl rfl rfl rfl (number_p _ bf bn [.int .i64 o1, .int .u64 (t2 : Int), .int .i64 u3, .int .i64 r.dir, .int .i64 r.fx, .int .i64 r.fy, .int .i64 r.tx, .int .i64 r.ty] 26 3 what sDir m3 x3 s hs3 (by omega) r.dir 1 rfl) ?_
        rintro _ _ ⟨s, hs4, rfl⟩
        rcases hD : stepN m3 x3 sDir r.dir 1 with ⟨m4, x4, d4⟩
        rw [hD] at hs4
        dsimp only at hs4
        refine KO.perm (σ' := (bn, cl [.int .i64 o1, .int .u64 (t2 : Int), .int .i64 u3, .int .i64 d4, .int .i64 r.fx, .int .i64 r.fy, .int .i64 r.tx, .int .i64 r.ty] 26) :: s) (by rw [List.append_nil]; exact List.Perm.refl _) ?_
        have e2 : stepR2 m1 { r with op := o1 } = (m4, x4, ⟨o1, t2, u3, d4, r.fx, r.fy, r.tx, r.ty⟩) := by simp only [stepR2, hW]; rw [if_pos hc]; simp only [hU, hD]
        rw [e2]
        repeat' (first | refine KO.nil ?_ | refine At.block_normal ?_ | fail)
        exact At.end0 ⟨_, List.Perm.refl _, s, hs4, rfl⟩
      · have htr := trivial
        refine KO.callF ((bn, cl [.int .i64 o1, .int .u64 (t2 : Int), .int .i64 r.unit, .int .i64 r.dir, .int .i64 r.fx, .int .i64 r.fy, .int .i64 r.tx, .int .i64 r.ty] 26) :: s) [] (by classical exact List.perm_iff_count.2 (fun _ => by first | (simp only [List.count_append, List.count_cons, List.count_nil, List.append_assoc, List.cons_append, List.nil_append]; omega))) rfl rfl rfl rfl rfl rfl rfl (cell_p _ bf bn [.int .i64 o1, .int .u64 (t2 : Int), .int .i64 r.unit, .int .i64 r.dir, .int .i64 r.fx, .int .i64 r.fy, .int .i64 r.tx, .int .i64 r.ty] 26 4 what sFrom m2 x2 s hs2 (by omega) r.fx r.fy rfl rfl) ?_
        rintro _ _ ⟨s, hs3, rfl⟩
        have l3 := stepC_len m2 x2 sFrom r.fx r.fy
        rcases hU : stepC m2 x2 sFrom r.fx r.fy with ⟨m3, x3, a3, b3⟩
        rw [hU] at hs3 l3
        dsimp only at hs3 l3
        refine KO.perm (σ' := (bn, cl [.int .i64 o1, .int .u64 (t2 : Int), .int .i64 r.unit, .int .i64 r.dir, .int .i64 a3, .int .i64 b3, .int .i64 r.tx, .int .i64 r.ty] 26) :: s) (by rw [List.append_nil]; exact List.Perm.refl _) ?_
        repeat' (first | refine KW.region ?_ | refine KO.nil ?_ | ((first | apply KO.val rfl rfl rfl ?kq ?_ ); (case kq => ((first | apply qt_ev rfl ?hi ); (case hi => (intro h; (repeat' (first | with_reducible exact alln | with_reducible refine allc ?_ ?_ )); all_goals (first | with_reducible rfl )))))) | fail)
        refine KO.callF ((bn, cl [.int .i64 o1, .int .u64 (t2 : Int), .int .i64 r.unit, .int .i64 r.dir, .int .i64 a3, .int .i64 b3, .int .i64 r.tx, .int .i64 r.ty] 26) :: s) [] (by classical exact List.perm_iff_count.2 (fun _ => by first | (simp only [List.count_append, List.count_cons, List.count_nil, List.append_assoc, List.cons_append, List.nil_append]; omega))) rfl rfl rfl rfl rfl rfl rfl (cell_p _ bf bn [.int .i64 o1, .int .u64 (t2 : Int), .int .i64 r.unit, .int .i64 r.dir, .int .i64 a3, .int .i64 b3, .int .i64 r.tx, .int .i64 r.ty] 26 6 what sTo m3 x3 s hs3 (by omega) r.tx r.ty rfl rfl) ?_
        rintro _ _ ⟨s, hs4, rfl⟩
        rcases hD : stepC m3 x3 sTo r.tx r.ty with ⟨m4, x4, a4, b4⟩
        rw [hD] at hs4
        dsimp only at hs4
        refine KO.perm (σ' := (bn, cl [.int .i64 o1, .int .u64 (t2 : Int), .int .i64 r.unit, .int .i64 r.dir, .int .i64 a3, .int .i64 b3, .int .i64 a4, .int .i64 b4] 26) :: s) (by rw [List.append_nil]; exact List.Perm.refl _) ?_
        have e2 : stepR2 m1 { r with op := o1 } = (m4, x4, ⟨o1, t2, r.unit, r.dir, a3, b3, a4, b4⟩) := by simp only [stepR2, hW]; rw [if_neg (by omega), if_pos (by omega)]; simp only [hU, hD]
        rw [e2]
        repeat' (first | refine KO.nil ?_ | refine At.block_normal ?_ | fail)
        exact At.end0 ⟨_, List.Perm.refl _, s, hs4, rfl⟩
      · exfalso; omega
      · have htr := trivial
        refine KO.callF ((bn, cl [.int .i64 o1, .int .u64 (t2 : Int), .int .i64 r.unit, .int .i64 r.dir, .int .i64 r.fx, .int .i64 r.fy, .int .i64 r.tx, .int .i64 r.ty] 26) :: s) [] (by classical exact List.perm_iff_count.2 (fun _ => by first | (simp only [List.count_append, List.count_cons, List.count_nil, List.append_assoc, List.cons_append, List.nil_append]; omega))) rfl rfl rfl rfl rfl rfl rfl (cell_p _ bf bn [.int .i64 o1, .int .u64 (t2 : Int), .int .i64 r.unit, .int .i64 r.dir, .int .i64 r.fx, .int .i64 r.fy, .int .i64 r.tx, .int .i64 r.ty] 26 4 what sFrom m2 x2 s hs2 (by omega) r.fx r.fy rfl rfl) ?_
        rintro _ _ ⟨s, hs3, rfl⟩
        have l3 := stepC_len m2 x2 sFrom r.fx r.fy
        rcases hU : stepC m2 x2 sFrom r.fx r.fy with ⟨m3, x3, a3, b3⟩
        rw [hU] at hs3 l3
        dsimp only at hs3 l3
        refine KO.perm (σ' := (bn, cl [.int .i64 o1, .int .u64 (t2 : Int), .int .i64 r.unit, .int .i64 r.dir, .int .i64 a3, .int .i64 b3, .int .i64 r.tx, .int .i64 r.ty] 26) :: s) (by rw [List.append_nil]; exact List.Perm.refl _) ?_
        repeat' (first | refine KW.region ?_ | refine KO.nil ?_ | ((first | apply KO.val rfl rfl rfl ?kq ?_ ); (case kq => ((first | apply qt_ev rfl ?hi ); (case hi => (intro h; (repeat' (first | with_reducible exact alln | with_reducible refine allc ?_ ?_ )); all_goals (first | with_reducible rfl )))))) | fail)
        refine KO.callF ((bn, cl [.int .i64 o1, .int .u64 (t2 : Int), .int .i64 r.unit, .int .i64 r.dir, .int .i64 a3, .int .i64 b3, .int .i64 r.tx, .int .i64 r.ty] 26) :: s) [] (by classical exact List.perm_iff_count.2 (fun _ => by first | (simp only [List.count_append, List.count_cons, List.count_nil, List.append_assoc, List.cons_append, List.nil_append]; omega))) rfl rfl rfl rfl rfl rfl rfl (cell_p _ bf bn [.int .i64 o1, .int .u64 (t2 : Int), .int .i64 r.unit, .int .i64 r.dir, .int .i64 a3, .int .i64 b3, .int .i64 r.tx, .int .i64 r.ty] 26 6 what sTo m3 x3 s hs3 (by omega) r.tx r.ty rfl rfl) ?_
        rintro _ _ ⟨s, hs4, rfl⟩
        rcases hD : stepC m3 x3 sTo r.tx r.ty with ⟨m4, x4, a4, b4⟩
        rw [hD] at hs4
        dsimp only at hs4
        refine KO.perm (σ' := (bn, cl [.int .i64 o1, .int .u64 (t2 : Int), .int .i64 r.unit, .int .i64 r.dir, .int .i64 a3, .int .i64 b3, .int .i64 a4, .int .i64 b4] 26) :: s) (by rw [List.append_nil]; exact List.Perm.refl _) ?_
        have e2 : stepR2 m1 { r with op := o1 } = (m4, x4, ⟨o1, t2, r.unit, r.dir, a3, b3, a4, b4⟩) := by simp only [stepR2, hW]; rw [if_neg (by omega), if_pos (by omega)]; simp only [hU, hD]
        rw [e2]
        repeat' (first | refine KO.nil ?_ | refine At.block_normal ?_ | fail)
        exact At.end0 ⟨_, List.Perm.refl _, s, hs4, rfl⟩
      · have e2 : stepR2 m1 { r with op := o1 } = (m2, x2, ⟨o1, t2, r.unit, r.dir, r.fx, r.fy, r.tx, r.ty⟩) := by simp only [stepR2, hW]; rw [if_neg (by omega), if_neg (by omega)]
        rw [e2]
        exact At.end0 ⟨_, List.Perm.refl _, s, hs2, rfl⟩
  · obtain ⟨wv, rv, dv, b, φ, rfl⟩ := hs.some_
    dsimp only [Rq.cells]
    have e : stepR md r = (m1, some y, { r with op := o1 }) := by simp only [stepR, hN]
    rw [e]
    repeat' (first | refine KW.seq ?_ | refine KW.region ?_ | refine KO.nil ?_ | refine At.then_normal ?_ | refine KW.skip ?_ | refine KW.ret ?_ | refine At.then_ret ?_ | refine KW.cond_t rfl (by first | with_reducible rfl ) ?_ | refine KW.cond_f rfl (by first | with_reducible rfl ) ?_ | refine KO.skip' rfl (by first | with_reducible rfl | decide) rfl rfl ?_ | refine KO.skipIn rfl (by first | with_reducible rfl ) rfl rfl ?_ | ((first | apply KO.val rfl rfl rfl ?kq ?_ ); (case kq => ((first | apply qt_ev rfl ?hi | ((first | apply qt_load1 rfl rfl ?hi rfl rfl ?hm ?hc ); (case hm => repeat (first | exact List.Mem.head _ | apply List.Mem.tail _ )); (case hc => rfl)) | apply qt_pick_t rfl rfl (by first | decide) rfl ?hi | apply qt_pick_f rfl rfl (by first | with_reducible rfl ) rfl ?hi | apply qt_eqs rfl rfl rfl ?hi rfl (Or.inl rfl) | apply qt_nes rfl rfl rfl ?hi rfl (Or.inl rfl) ); (case hi => (intro h; (repeat' (first | with_reducible exact alln | with_reducible refine allc ?_ ?_ | with_reducible refine andi ?_ ?_)); all_goals (first | with_reducible rfl )))))) | fail)
    exact At.done_ret [] trivial ⟨_, List.Perm.refl _, _, hs, rfl⟩

theorem writes_p (β : Nat → Option Obj) (what : ByteArray) :
    Go.K.Tr Tryd.prog 28 [.string what] β [] (fun v σ' => ∃ bf, v = .pointer (some ⟨bf, 0, none⟩) ∧ FormB β bf what (.put []) none σ') := by
  refine Tr.of_body Tryd.tt (args := [.string what]) (fr := [(0, true, .string what)]) Tryd.func28 rfl (by decide) rfl Tryd.ntmps28 rfl rfl ?_
  intro E hE
  subst hE
  repeat' (first | refine KW.seq ?_ | refine KW.region ?_ | refine KO.nil ?_ | refine At.then_normal ?_ | refine KW.ret ?_ | ((first | apply KO.val rfl rfl rfl ?kq ?_); (case kq => ((first | apply qt_ev rfl ?hi | apply qt_build rfl rfl ?hi rfl ); (case hi => (intro h; (repeat' (first | with_reducible exact alln | with_reducible refine allc ?_ ?_ )); all_goals (first | with_reducible rfl | (simp [h]; done) )))))) | (refine KO.box rfl rfl rfl rfl rfl rfl ?_; intro _ _) | (apply KO.store (i := _) rfl rfl rfl rfl rfl rfl rfl rfl ?hl ?sg ?hw ?ho ?hs; (case sg => first | exact (rfl : getI 0 _ = _) ); (case hl => rfl); (case hw => rfl); (case ho => rfl); (case hs => rfl)) | fail)
  ((first | apply At.done_ret ); (focus (repeat' (first | exact ResVs.nil' | apply ResVs.cons' | exact ResV.tmp' rfl ))); dsimp only [resVal])
  rename_i bf _
  exact ⟨bf, rfl, _, _, _, _, [], [], ⟨rfl, Vec.nil 5 1, rfl⟩, ⟨rfl, rfl⟩, rfl⟩
theorem reads_p (β : Nat → Option Obj) (what : ByteArray) (m c : Nat) (l : List Nat) (p : Option Addr) (hl : l.length = m) (hB : Byt l) (hv : SL β [] 1 m (by8 l) p) (hpc : p = none → c = 0 ∧ m = 0) (hm : m ≤ 281474976710656) :
    Go.K.Tr Tryd.prog 45 [.string what, .slice p m c] β [] (fun v σ' => ∃ bf, v = .pointer (some ⟨bf, 0, none⟩) ∧ FormB β bf what (.take l) none σ') := by
  refine Tr.of_body Tryd.tt (args := [.string what, .slice p m c]) (fr := [(0, true, .string what), (1, true, .slice p m c)]) Tryd.func45 rfl (by decide) rfl Tryd.ntmps45 rfl rfl ?_
  intro E hE
  subst hE
  repeat' (first | refine KW.seq ?_ | refine KW.region ?_ | refine KO.nil ?_ | ((first | apply KO.val rfl rfl rfl ?kq ?_); (case kq => ((first | apply qt_ev rfl ?hi ); (case hi => (intro h; (repeat' (first | with_reducible exact alln | with_reducible refine allc ?_ ?_ )); all_goals (first | with_reducible rfl )))))) | fail)
  refine KO.callA rfl rfl rfl rfl rfl rfl rfl (Read_p _ [] m c (by8 l) p hv hpc (by8_one _) hm) ?_
  rintro _ _ ⟨br, b, rfl, hne, rfl⟩
  repeat' (first | refine KW.seq ?_ | refine KW.region ?_ | refine KO.nil ?_ | refine At.then_normal ?_ | refine KW.ret ?_ | ((first | apply KO.val rfl rfl rfl ?kq ?_); (case kq => ((first | apply qt_ev rfl ?hi | apply qt_build rfl rfl ?hi rfl ); (case hi => (intro h; (repeat' (first | with_reducible exact alln | with_reducible refine allc ?_ ?_ )); all_goals (first | with_reducible rfl | (simp [h]; done) )))))) | (refine KO.box rfl rfl rfl rfl rfl rfl ?_; intro _ _) | (apply KO.store (i := _) rfl rfl rfl rfl rfl rfl rfl rfl ?hl ?sg ?hw ?ho ?hs; (case sg => first | exact (rfl : getI 0 _ = _) ); (case hl => rfl); (case hw => rfl); (case ho => rfl); (case hs => rfl)) | fail)
  ((first | apply At.done_ret ); (focus (repeat' (first | exact ResVs.nil' | apply ResVs.cons' | exact ResV.tmp' rfl ))); dsimp only [resVal])
  rename_i bf _
  refine ⟨bf, rfl, _, _, _, _, [(br, cl [.slice (some ⟨b, 0, none⟩) m m] 126), (b, cl (by8 l) 5)], [], ⟨rfl, rfl, br, some ⟨b, 0, none⟩, m, [(b, cl (by8 l) 5)], rfl, by rw [hl], hB, by omega, (by intro h; cases h), ?_⟩, ⟨rfl, rfl⟩, rfl⟩
  exact SL.ofBlk (List.Mem.head _) (by simp [by8_len])
/-- f.end. -/
theorem end_p (β : Nat → Option Obj) (bf : Nat) (what : ByteArray) (md : Md) (x : Flt) (σ : Heap) (hf : FormB β bf what md x σ) (rest : Bool) (e : Int) :
    Go.K.Tr Tryd.prog 30 [.pointer (some ⟨bf, 0, none⟩), .bool rest, .int .i64 e] β σ (fun v σ' => ∃ wv rv dv ev φ ε, FormH β bf md wv rv dv φ ∧ EV what (if rest then note x ⟨#[101, 110, 100]⟩ e else x) ev ε ∧ v = ev ∧ σ' = (bf, cl [.string what, wv, rv, dv, ev] 80) :: (ε ++ φ)) := by
  refine Tr.perm ?_
  obtain ⟨wv, rv, dv, ev, φ, ε, hF, hE, rfl⟩ := hf
  cases rest
  · have htr := trivial
    refine Tr.of_body Tryd.tt (args := [.pointer (some ⟨bf, 0, none⟩), .bool false, .int .i64 e]) (fr := [(0, true, .pointer (some ⟨bf, 0, none⟩)), (1, true, .bool false), (2, true, .int .i64 e)]) Tryd.func30 rfl (by decide) rfl Tryd.ntmps30 rfl rfl ?_
    intro E hE'
    subst hE'
    repeat' (first | refine KW.seq ?_ | refine KW.region ?_ | refine KO.nil ?_ | refine At.then_normal ?_ | refine KW.skip ?_ | refine KW.ret ?_ | refine KW.cond_f rfl (by first | with_reducible rfl ) ?_ | ((first | apply KO.val rfl rfl rfl ?kq ?_); (case kq => ((first | apply qt_ev rfl ?hi | ((first | apply qt_load1 rfl rfl ?hi rfl rfl ?hm ?hc ); (case hm => repeat (first | exact List.Mem.head _ )); (case hc => rfl)) ); (case hi => (intro h; (repeat' (first | with_reducible exact alln | with_reducible refine allc ?_ ?_ )); all_goals (first | with_reducible rfl )))))) | fail)
    ((first | apply At.done_ret ); (focus (repeat' (first | exact ResVs.nil' | apply ResVs.cons' | exact ResV.tmp' rfl ))); dsimp only [resVal])
    exact ⟨_, List.Perm.refl _, wv, rv, dv, ev, φ, ε, hF, hE, rfl, rfl⟩
  · have htr := trivial
    refine Tr.of_body Tryd.tt (args := [.pointer (some ⟨bf, 0, none⟩), .bool true, .int .i64 e]) (fr := [(0, true, .pointer (some ⟨bf, 0, none⟩)), (1, true, .bool true), (2, true, .int .i64 e)]) Tryd.func30 rfl (by decide) rfl Tryd.ntmps30 rfl rfl ?_
    intro E hE'
    subst hE'
    repeat' (first | refine KW.seq ?_ | refine KW.region ?_ | refine KO.nil ?_ | refine At.then_normal ?_ | refine KW.cond_t rfl (by first | with_reducible rfl ) ?_ | ((first | apply KO.val rfl rfl rfl ?kq ?_); (case kq => ((first | apply qt_ev rfl ?hi ); (case hi => (intro h; (repeat' (first | with_reducible exact alln | with_reducible refine allc ?_ ?_ )); all_goals (first | with_reducible rfl )))))) | fail)
    refine KO.callF ((bf, cl [.string what, wv, rv, dv, ev] 80) :: (ε ++ φ)) [] (by classical exact List.perm_iff_count.2 (fun _ => by first | (simp only [List.count_append, List.count_cons, List.count_nil, List.append_assoc, List.cons_append, List.nil_append]; omega))) rfl rfl rfl rfl rfl rfl rfl (wrong_p _ bf ⟨#[101, 110, 100]⟩ what e wv rv dv ev x ε φ hE) ?_
    rintro _ _ ⟨ev', ε', hE', rfl⟩
    repeat' (first | refine KW.seq ?_ | refine KW.region ?_ | refine KO.nil ?_ | refine At.then_normal ?_ | refine KW.ret ?_ | ((first | apply KO.val rfl rfl rfl ?kq ?_); (case kq => ((first | apply qt_ev rfl ?hi | ((first | apply qt_load1 rfl rfl ?hi rfl rfl ?hm ?hc ); (case hm => repeat (first | exact List.Mem.head _ )); (case hc => rfl)) ); (case hi => (intro h; (repeat' (first | with_reducible exact alln | with_reducible refine allc ?_ ?_ )); all_goals (first | with_reducible rfl )))))) | fail)
    ((first | apply At.done_ret ); (focus (repeat' (first | exact ResVs.nil' | apply ResVs.cons' | exact ResV.tmp' rfl ))); dsimp only [resVal])
    exact ⟨_, by rw [List.append_nil], wv, rv, dv, ev', φ, ε', hF, hE', rfl, rfl⟩
end Go.Proofs.YtnaclkdjchnbpaaDoor

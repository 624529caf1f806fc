/- msg.Encode; msg.Decode. -/
import Derived.Test.YtnaclkdjchnbpaaDoorM5
namespace Go.Proofs.YtnaclkdjchnbpaaDoor
open Go Go.K

theorem BytesF_p (β : Nat → Option Obj) (bf m : Nat) (a rv dv ev v : Value) (φ σ : Heap) (xs : List Nat) (hl : xs.length = m) (hv : Vec 5 1 m (by8 xs) v φ) (hm : m ≤ 1000000) (hs : ∀ q ∈ φ, q ∈ σ) :
    Go.K.Tr Tryd.prog 31 [.pointer (some ⟨bf, 1, none⟩)] β ((bf, cl [a, v, rv, dv, ev] 80) :: σ) (fun v' σ' => ∃ b, v' = .slice (some ⟨b, 0, none⟩) m m ∧ σ' = (b, cl (by8 xs) 5) :: (bf, cl [a, v, rv, dv, ev] 80) :: σ) := by
  obtain ⟨pv, cv, rfl⟩ := hv.len
  refine Tr.of_body Tryd.tt (args := [.pointer (some ⟨bf, 1, none⟩)]) (fr := [(0, true, .pointer (some ⟨bf, 1, none⟩))]) Tryd.func31 rfl (by decide) rfl Tryd.ntmps31 rfl rfl ?_
  intro E hE
  subst hE
  repeat' (first | refine KW.seq ?_ | refine KW.region ?_ | refine KO.nil ?_ | refine At.then_normal ?_ | refine KW.skip ?_ | refine KW.cond_f rfl (by first | with_reducible rfl ) ?_ | ((first | apply KO.val rfl rfl rfl ?kq ?_); (case kq => ((first | apply qt_ev rfl ?hi | ((first | apply qt_load1 rfl rfl ?hi rfl rfl ?hm ?hc ); (case hm => repeat (first | exact List.Mem.head _ )); (case hc => rfl)) | apply qt_eqs rfl rfl rfl ?hi rfl (Or.inl rfl) ); (case hi => (intro h; (repeat' (first | with_reducible exact alln | with_reducible refine allc ?_ ?_ | with_reducible refine andi ?_ ?_)); all_goals (first | with_reducible rfl )))))) | fail)
  refine KO.callA rfl rfl rfl rfl rfl rfl rfl (own_p _ _ _ _ (by8 xs) _ (SL.ofVec hv (fun q hq => List.mem_cons_of_mem _ (hs q hq))) ?_ (by8_one _) (by omega)) ?_
  · rintro rfl
    rcases hv.2 with ⟨h1, h2, _⟩ | ⟨g, cap, sp, h1, _⟩
    · simp only [Value.slice.injEq] at h1; exact ⟨h1.2.2, h2⟩
    · simp at h1
  rintro _ _ ⟨b, rfl, rfl⟩
  repeat' (first | refine KO.nil ?_ | refine At.then_normal ?_ | refine KW.ret ?_ | ((first | apply KO.val rfl rfl rfl ?kq ?_); (case kq => ((first | apply qt_ev rfl ?hi ); (case hi => (intro h; (repeat' (first | with_reducible exact alln | with_reducible refine allc ?_ ?_ )); all_goals (first | with_reducible rfl )))))) | fail)
  ((first | apply At.done_ret ); (focus (repeat' (first | exact ResVs.nil' | apply ResVs.cons' | exact ResV.tmp' rfl ))); dsimp only [resVal])
  exact ⟨b, rfl, rfl⟩
def I64 (n : Int) : Prop := -9223372036854775808 ≤ n ∧ n ≤ 9223372036854775807
theorem i64_u64 {n : Int} (h : I64 n) : IntKind.i64.wrap (u64 n : Int) = n := by
  rw [IntKind.wrap_i64]
  unfold u64
  unfold I64 at h
  omega
structure Rq.Ok (r : Rq) : Prop where
  op : I64 r.op
  tok : r.tok < 18446744073709551616
  unit : I64 r.unit
  dir : I64 r.dir
  fx : I64 r.fx
  fy : I64 r.fy
  tx : I64 r.tx
  ty : I64 r.ty
theorem stepW_put (xs : List Nat) (x : Flt) (name : ByteArray) (X : Nat) (size : Int) : ∃ ys y, stepW (.put xs) x name X size = (.put ys, y, X) := by
  rcases x with _ | z
  · exact ⟨_, _, rfl⟩
  · exact ⟨_, _, rfl⟩
theorem stepN_put (xs : List Nat) (x : Flt) (name : ByteArray) {N : Int} (size : Int) (h : I64 N) : ∃ ys y, stepN (.put xs) x name N size = (.put ys, y, N) := by
  obtain ⟨ys, y, e⟩ := stepW_put xs x name (u64 N) size
  exact ⟨ys, y, by simp only [stepN, e, i64_u64 h]⟩
theorem stepC_put (xs : List Nat) (x : Flt) (name : ByteArray) {X Y : Int} (h : I64 X) (h' : I64 Y) : ∃ ys y, stepC (.put xs) x name X Y = (.put ys, y, X, Y) := by
  obtain ⟨ys, y, e⟩ := stepN_put xs x name 2 h
  obtain ⟨zs, z, e'⟩ := stepN_put ys y name 2 h'
  exact ⟨zs, z, by simp only [stepC, e, e']⟩
theorem stepR2_put (xs : List Nat) {r : Rq} (h : r.Ok) : ∃ ys y, stepR2 (.put xs) r = (.put ys, y, r) := by
  obtain ⟨y1, x1, e1⟩ := stepW_put xs none sToken r.tok 8
  unfold stepR2
  rw [e1]
  dsimp only
  split
  · obtain ⟨y2, x2, e2⟩ := stepN_put y1 x1 sUnit 1 h.unit
    obtain ⟨y3, x3, e3⟩ := stepN_put y2 x2 sDir 1 h.dir
    rw [e2]
    dsimp only
    rw [e3]
    exact ⟨_, _, rfl⟩
  · split
    · obtain ⟨y2, x2, e2⟩ := stepC_put y1 x1 sFrom h.fx h.fy
      obtain ⟨y3, x3, e3⟩ := stepC_put y2 x2 sTo h.tx h.ty
      rw [e2]
      dsimp only
      rw [e3]
      exact ⟨_, _, rfl⟩
    · exact ⟨_, _, rfl⟩
theorem stepR_put (xs : List Nat) {r : Rq} (h : r.Ok) : ∃ ys y, stepR (.put xs) r = (.put ys, y, r) := by
  obtain ⟨y1, x1, e1⟩ := stepN_put xs none sOp 1 h.op
  unfold stepR
  rw [e1]
  dsimp only
  rcases x1 with _ | z
  · dsimp only
    split
    · exact ⟨_, _, rfl⟩
    · split
      · exact ⟨_, _, rfl⟩
      · exact stepR2_put y1 h
  · exact ⟨_, _, rfl⟩
def sReq : ByteArray := ⟨#[114, 101, 113, 117, 101, 115, 116]⟩
def sEnd : ByteArray := ⟨#[101, 110, 100]⟩
/-- Whether a field is not 0 that the operation has not. -/
def leftR (r : Rq) : Bool :=
  if r.op = 4 ∨ r.op = 5 then !(decide (r.unit = 0) && decide (r.dir = 0))
  else if r.op = 1 ∨ r.op = 3 ∨ r.op = 6 then !(decide (r.unit = 0) && (decide (r.dir = 0) && ((decide (r.fx = 0) && decide (r.fy = 0)) && (decide (r.tx = 0) && decide (r.ty = 0)))))
  else if r.op = 2 then !((decide (r.fx = 0) && decide (r.fy = 0)) && (decide (r.tx = 0) && decide (r.ty = 0)))
  else !(decide ((r.tok : Int) = 0) && (decide (r.unit = 0) && (decide (r.dir = 0) && ((decide (r.fx = 0) && decide (r.fy = 0)) && (decide (r.tx = 0) && decide (r.ty = 0))))))
def encF (r : Rq) : Flt := if r.op < 0 ∨ 7 ≤ r.op then some (sOp, 18) else if leftR r then note (stepR (.put []) r).2.1 sEnd 1 else (stepR (.put []) r).2.1
def Md.bytes : Md → List Nat
  | .put xs => xs
  | .take l => l
def encB (r : Rq) : List Nat := (stepR (.put []) r).1.bytes
def EncR (r : Rq) (v : Value) (σ : Heap) : Prop := match encF r with
  | some y => ∃ ev ε, EV sReq (some y) ev ε ∧ v = .tuple #[.slice none 0 0, ev] ∧ σ = ε
  | none => ∃ b, v = .tuple #[.slice (some ⟨b, 0, none⟩) (encB r).length (encB r).length, .nilIface] ∧ σ = [(b, cl (by8 (encB r)) 5)]
theorem stepR_len (md : Md) (r : Rq) : (stepR md r).1.len ≤ md.len + 100 := by
  have h1 := stepN_len md none sOp r.op 1 (by omega)
  unfold stepR
  rcases hN : stepN md none sOp r.op 1 with ⟨m1, x1, o1⟩
  rw [hN] at h1
  dsimp only at h1 ⊢
  rcases x1 with _ | z
  · dsimp only
    split
    · dsimp only; omega
    · split
      · dsimp only; omega
      · have h2 := stepW_len m1 none sToken r.tok 8 (by omega)
        unfold stepR2
        dsimp only
        rcases hW : stepW m1 none sToken r.tok 8 with ⟨m2, x2, t2⟩
        rw [hW] at h2
        dsimp only at h2 ⊢
        split
        · have h3 := stepN_len m2 x2 sUnit r.unit 1 (by omega)
          have h4 := stepN_len (stepN m2 x2 sUnit r.unit 1).1 (stepN m2 x2 sUnit r.unit 1).2.1 sDir r.dir 1 (by omega)
          dsimp only; omega
        · split
          · have h3 := stepC_len m2 x2 sFrom r.fx r.fy
            have h4 := stepC_len (stepC m2 x2 sFrom r.fx r.fy).1 (stepC m2 x2 sFrom r.fx r.fy).2.1 sTo r.tx r.ty
            dsimp only; omega
          · dsimp only; omega
  · dsimp only; omega
theorem end_q (β : Nat → Option Obj) (bf : Nat) (r : Rq) (md : Md) (y : Flt) (σ : Heap) (hf : FormB β bf sReq md y σ) {rest : Bool} (hb : rest = leftR r) :
    Go.K.Tr Tryd.prog 30 [.pointer (some ⟨bf, 0, none⟩), .bool rest, .int .i64 1] β σ (fun v σ' => ∃ wv rv dv ev φ ε, FormH β bf md wv rv dv φ ∧ EV sReq (if leftR r then note y sEnd 1 else y) ev ε ∧ v = ev ∧ σ' = (bf, cl [.string sReq, wv, rv, dv, ev] 80) :: (ε ++ φ)) := by
  subst hb
  exact end_p β bf sReq md y σ hf _ 1
set_option maxHeartbeats 16000000 in
theorem Encode_p (β : Nat → Option Obj) (r : Rq) (hr : r.Ok) :
    Go.K.Tr Tryd.prog 10 [.agg r.cells.toArray] β [] (fun v σ' => EncR r v σ') := by
  refine Tr.sub ?_
  obtain ⟨ys, y, eR⟩ := stepR_put [] hr
  refine Tr.of_body Tryd.tt (args := [.agg r.cells.toArray]) (fr := [(0, true, .agg r.cells.toArray)]) Tryd.func10 rfl (by decide) rfl Tryd.ntmps10 rfl rfl ?_
  intro E hE
  subst hE
  dsimp only [Rq.cells]
  repeat' (first | refine KW.seq ?_ | refine KW.region ?_ | refine KO.nil ?_ | refine At.then_normal ?_ | refine KW.skip ?_ | ((first | apply KO.val rfl rfl rfl ?kq ?_ ); (case kq => ((first | apply qt_ev rfl ?hi | ((first | apply qt_load1 rfl rfl ?hi rfl rfl ?hm ?hc ); (case hm => repeat (first | exact List.Mem.head _ )); (case hc => rfl)) | ((first | apply qt_pick_or rfl rfl rfl ?hi ?pj); (case pj => (intro h h2; first | (rw [h2]; rfl) ))) ); (case hi => (intro h; (repeat' (first | with_reducible exact alln | with_reducible refine allc ?_ ?_ )); all_goals (first | with_reducible rfl | with_reducible exact h )))))) | (refine KO.box rfl rfl rfl rfl rfl rfl ?_; intro _ _) | (refine KW.cond rfl ?_ ?_ <;> (intro hc; try simp only [kBool] at hc)) | fail)
  · rename_i bn _
    have e1 : encF r = some (sOp, 18) := by unfold encF; rw [if_pos hc]
    refine KO.callF [] [(bn, cl [.int .i64 r.op, .int .u64 (r.tok : Int), .int .i64 r.unit, .int .i64 r.dir, .int .i64 r.fx, .int .i64 r.fy, .int .i64 r.tx, .int .i64 r.ty] 26)] (by classical exact List.perm_iff_count.2 (fun _ => by first | (simp only [List.count_append, List.count_cons, List.count_nil, List.append_assoc, List.cons_append, List.nil_append]; done) )) rfl rfl rfl rfl rfl rfl rfl (Raise_p _ sOp 18 (by omega)) ?_
    rintro _ _ ⟨c, rfl, rfl⟩
    repeat' (first | refine KW.seq ?_ | refine KW.region ?_ | refine KO.nil ?_ | refine At.then_normal ?_ | refine KW.skip ?_ | refine KW.ret ?_ | refine At.then_ret ?_ | refine KW.block ?_ | refine KW.exit ?_ | refine At.block_normal ?_ | refine At.block_ret ?_ | refine At.loop_ret ?_ | refine At.then_exit ?_ | refine At.block_here rfl ?_ | refine At.block_there rfl ?_ | refine At.loop_exit ?_ | refine At.cut_ret ?_ | refine At.cutA_ret ?_ | refine At.cutA_exit ?_ | refine At.cut_exit ?_ | (refine At.cut_same ?_; repeat' (first | exact FLe.nil _ | refine FLe.cons rfl rfl ?_)) | refine KW.cond_t rfl (by first | with_reducible rfl | decide) ?_ | refine KW.cond_f rfl (by first | with_reducible rfl | decide) ?_ | refine KW.scope ?_ | refine KW.label ?_ | refine At.scope_normal ?_ | refine At.scope_ret ?_ | refine At.scope_exit ?_ | refine KO.skip' rfl (by first | with_reducible rfl | decide) rfl rfl ?_ | refine KO.skip0' rfl (by first | with_reducible rfl | decide) rfl ?_ | refine KO.skipIn rfl (by first | with_reducible rfl | decide) rfl rfl ?_ | ((first | apply KO.val rfl rfl rfl ?kq ?_ | apply KO.valIn rfl rfl rfl ?kq ?_); (case kq => ((first | apply qt_ev rfl ?hi | ((first | apply qt_load1 rfl rfl ?hi rfl rfl ?hm ?hc | apply qt_loadN rfl rfl ?hi rfl rfl rfl ?hm ?hc); (case hm => repeat (first | exact List.Mem.head _ | apply List.Mem.tail _ | apply List.mem_append_right _)); (case hc => rfl)) | apply qt_pick_t rfl rfl (by first | with_reducible rfl | decide) rfl ?hi | apply qt_pick_f rfl rfl (by first | with_reducible rfl | decide) rfl ?hi | ((first | apply qt_pick_and rfl rfl rfl ?hi ?pj | apply qt_pick_or rfl rfl rfl ?hi ?pj); (case pj => (intro h h2; first | with_reducible exact h2 | with_reducible exact andi h h2 | (rw [h2]; rfl) | (rw [h, h2]; rfl) | with_reducible rfl | (simp [h2]; done) | (simp_all; done)))) | apply qt_cap rfl rfl ?hi rfl | apply qt_build rfl rfl ?hi rfl | apply qt_eqs rfl rfl rfl ?hi rfl (Or.inl rfl) | apply qt_nes rfl rfl rfl ?hi rfl (Or.inl rfl) | apply qt_eqs rfl rfl rfl ?hi rfl (Or.inr ⟨rfl, rfl, rfl⟩) | apply qt_nes rfl rfl rfl ?hi rfl (Or.inr ⟨rfl, rfl, rfl⟩)); (case hi => (intro h; (repeat' (first | with_reducible exact alln | with_reducible refine allc ?_ ?_ | with_reducible refine andi ?_ ?_)); all_goals (first | with_reducible rfl | with_reducible exact h | with_reducible exact andl h | with_reducible exact andr h | with_reducible exact andl (andl h) | (simp only [h, Bool.and_self]; done) | (simp [h]; done) | (simp_all; done))))))) | (refine KO.box rfl rfl rfl rfl rfl rfl ?_; intro _ _) | (refine KO.alloc rfl rfl rfl rfl rfl rfl ?_; intro _ _) | (apply KO.store (i := _) rfl rfl rfl rfl rfl rfl rfl rfl ?hl ?sg ?hw ?ho ?hs; (case sg => first | exact (rfl : getI 0 _ = _) | exact (rfl : getI 1 _ = _) | exact (rfl : getI 2 _ = _) | exact (rfl : getI 3 _ = _) | exact (rfl : getI 4 _ = _) | exact (rfl : getI 5 _ = _) | exact (rfl : getI 6 _ = _) | exact (rfl : getI 7 _ = _)); (case hl => rfl); (case hw => rfl); (case ho => rfl); (case hs => rfl)) | (refine KW.cond rfl ?_ ?_ <;> (intro hc; try simp only [kBool] at hc)) | exact absurd trivial ‹¬True› | (exfalso; omega) | fail)
    refine KO.callF [] [(c, cl [.string sOp, .iface 32 (.int .i64 18)] 108), (bn, cl [.int .i64 r.op, .int .u64 (r.tok : Int), .int .i64 r.unit, .int .i64 r.dir, .int .i64 r.fx, .int .i64 r.fy, .int .i64 r.tx, .int .i64 r.ty] 26)] (by classical exact List.perm_iff_count.2 (fun _ => by first | (simp only [List.count_append, List.count_cons, List.count_nil, List.append_assoc, List.cons_append, List.nil_append]; done) )) rfl rfl rfl rfl rfl rfl rfl (Wrap_p _ sReq _ _) ?_
    rintro _ _ ⟨b, rfl, rfl⟩
    repeat' (first | refine KO.nil ?_ | refine At.then_normal ?_ | refine KW.ret ?_ | refine At.then_ret ?_ | ((first | apply KO.val rfl rfl rfl ?kq ?_ ); (case kq => ((first | apply qt_ev rfl ?hi ); (case hi => (intro h; (repeat' (first | with_reducible exact alln | with_reducible refine allc ?_ ?_ )); all_goals (first | with_reducible rfl )))))) | fail)
    ((first | apply At.done_ret ); (focus (repeat' (first | exact ResVs.nil' | apply ResVs.cons' | exact ResV.tmp' rfl ))); dsimp only [resVal])
    refine ⟨[(b, cl [.string sReq, .iface 100 (.pointer (some ⟨c, 0, none⟩))] 108), (c, cl [.string sOp, .iface 32 (.int .i64 18)] 108)], List.Sublist.cons_cons _ (List.Sublist.cons_cons _ (List.nil_sublist _)), ?_⟩
    unfold EncR
    rw [e1]
    exact ⟨_, _, ⟨b, c, rfl, rfl⟩, rfl, rfl⟩
  · rename_i bn _
    refine KO.callF [] [(bn, cl [.int .i64 r.op, .int .u64 (r.tok : Int), .int .i64 r.unit, .int .i64 r.dir, .int .i64 r.fx, .int .i64 r.fy, .int .i64 r.tx, .int .i64 r.ty] 26)] (by classical exact List.perm_iff_count.2 (fun _ => by first | (simp only [List.count_append, List.count_cons, List.count_nil, List.append_assoc, List.cons_append, List.nil_append]; done) )) rfl rfl rfl rfl rfl rfl rfl (writes_p _ sReq) ?_
    rintro _ s ⟨bf, rfl, hf⟩
    repeat' (first | refine KW.seq ?_ | refine KW.region ?_ | refine KO.nil ?_ | ((first | apply KO.val rfl rfl rfl ?kq ?_ ); (case kq => ((first | apply qt_ev rfl ?hi ); (case hi => (intro h; (repeat' (first | with_reducible exact alln | with_reducible refine allc ?_ ?_ )); all_goals (first | with_reducible rfl )))))) | fail)
    refine KO.callF ((bn, cl [.int .i64 r.op, .int .u64 (r.tok : Int), .int .i64 r.unit, .int .i64 r.dir, .int .i64 r.fx, .int .i64 r.fy, .int .i64 r.tx, .int .i64 r.ty] 26) :: s) [] (by classical exact List.perm_iff_count.2 (fun _ => by first | (simp only [List.count_append, List.count_cons, List.count_nil, List.append_assoc, List.cons_append, List.nil_append]; omega))) rfl rfl rfl rfl rfl rfl rfl (fields_p _ bf bn sReq (.put []) r s hf (by show 0 ≤ 900000; omega) hr.tok) ?_
    rintro _ _ ⟨s2, hs2, rfl⟩
    rw [eR] at hs2 ⊢
    dsimp only at hs2 ⊢
    refine KO.perm (σ' := (bn, cl [.int .i64 r.op, .int .u64 (r.tok : Int), .int .i64 r.unit, .int .i64 r.dir, .int .i64 r.fx, .int .i64 r.fy, .int .i64 r.tx, .int .i64 r.ty] 26) :: s2) (by rw [List.append_nil]; exact List.Perm.refl _) ?_
    repeat' (first | refine KW.seq ?_ | refine KW.region ?_ | refine KO.nil ?_ | refine At.then_normal ?_ | refine KW.skip ?_ | refine KW.block ?_ | refine KW.exit ?_ | ((first | apply KO.val rfl rfl rfl ?kq ?_ ); (case kq => ((first | apply qt_ev rfl ?hi | ((first | apply qt_load1 rfl rfl ?hi rfl rfl ?hm ?hc | apply qt_loadN rfl rfl ?hi rfl rfl rfl ?hm ?hc); (case hm => repeat (first | exact List.Mem.head _ | apply List.Mem.tail _ )); (case hc => rfl)) | apply qt_build rfl rfl ?hi rfl | apply qt_nes rfl rfl rfl ?hi rfl (Or.inl rfl) ); (case hi => (intro h; (repeat' (first | with_reducible exact alln | with_reducible refine allc ?_ ?_ | with_reducible refine andi ?_ ?_)); all_goals (first | with_reducible rfl )))))) | (refine KO.alloc rfl rfl rfl rfl rfl rfl ?_; intro _ _) | (apply KO.store (i := _) rfl rfl rfl rfl rfl rfl rfl rfl ?hl ?sg ?hw ?ho ?hs; (case sg => first | exact (rfl : getI 0 _ = _) ); (case hl => rfl); (case hw => rfl); (case ho => rfl); (case hs => rfl)) | (refine KW.cond rfl ?_ ?_ <;> (intro hc; try simp only [kBool] at hc)) | (exfalso; omega) | fail)
    all_goals (first | skip)
    all_goals
      have hlen := stepR_len (.put []) r
      rw [eR] at hlen
      have hlen2 : ys.length ≤ 1000000 := by
        have : ys.length ≤ 0 + 100 := hlen
        omega
      refine KO.sublist (σ' := s2) (List.Sublist.cons _ (List.Sublist.cons _ (List.Sublist.refl _))) ?_
      refine KO.callF s2 [] (by classical exact List.perm_iff_count.2 (fun _ => by first | (simp only [List.count_append, List.count_cons, List.count_nil, List.append_assoc, List.cons_append, List.nil_append]; omega))) rfl rfl rfl rfl rfl rfl rfl (end_q _ bf r (.put ys) y s2 hs2 ?hb) ?_
      case hb =>
        unfold leftR
        first | (rw [if_pos (by omega)]; simp; done) | (rw [if_neg (by omega), if_pos (by omega)]; simp; done) | (rw [if_neg (by omega), if_neg (by omega), if_pos (by omega)]; simp; done) | (rw [if_neg (by omega), if_neg (by omega), if_neg (by omega)]; simp; done)
      rintro _ _ ⟨wv, rv, dv, ev, φ, ε, hF, hE2, rfl, rfl⟩
      have eF : encF r = (if leftR r then note y sEnd 1 else y) := by
        unfold encF
        rw [if_neg (by omega), eR]
      rw [← eF] at hE2
      obtain ⟨rfl, hv, rfl⟩ := hF
      rcases hX : encF r with _ | z
      · rw [hX] at hE2
        obtain ⟨rfl, rfl⟩ := hE2
        have htr := trivial
        repeat' (first | refine KW.seq ?_ | refine KW.region ?_ | refine KO.nil ?_ | refine At.then_normal ?_ | refine KW.skip ?_ | refine KW.cond_f rfl (by first | decide) ?_ | ((first | apply KO.val rfl rfl rfl ?kq ?_ ); (case kq => ((first | apply qt_ev rfl ?hi | apply qt_nes rfl rfl rfl ?hi rfl (Or.inr ⟨rfl, rfl, rfl⟩)); (case hi => (intro h; (repeat' (first | with_reducible exact alln | with_reducible refine allc ?_ ?_ | with_reducible refine andi ?_ ?_)); all_goals (first | with_reducible rfl )))))) | fail)
        refine KO.callF ((bf, cl [.string sReq, wv, .pointer none, .func (.func (Md.put ys).fn) #[.pointer (some ⟨bf, 0, none⟩)] #[], .nilIface] 80) :: φ) [] (by classical exact List.perm_iff_count.2 (fun _ => by first | (simp only [List.count_append, List.count_cons, List.count_nil, List.append_assoc, List.cons_append, List.nil_append]; done) )) rfl rfl rfl rfl rfl rfl rfl (BytesF_p _ bf ys.length _ _ _ _ wv φ φ ys rfl hv hlen2 (fun q hq => hq)) ?_
        rintro _ _ ⟨b, rfl, rfl⟩
        repeat' (first | refine KO.nil ?_ | refine At.then_normal ?_ | refine KW.ret ?_ | ((first | apply KO.val rfl rfl rfl ?kq ?_ ); (case kq => ((first | apply qt_ev rfl ?hi ); (case hi => (intro h; (repeat' (first | with_reducible exact alln | with_reducible refine allc ?_ ?_ )); all_goals (first | with_reducible rfl )))))) | fail)
        ((first | apply At.done_ret ); (focus (repeat' (first | exact ResVs.nil' | apply ResVs.cons' | exact ResV.tmp' rfl ))); dsimp only [resVal])
        refine ⟨[(b, cl (by8 ys) 5)], List.Sublist.cons_cons _ (List.nil_sublist _), ?_⟩
        have eB : encB r = ys := by unfold encB; rw [eR]; rfl
        unfold EncR
        rw [hX, eB]
        exact ⟨b, rfl, rfl⟩
      · rw [hX] at hE2
        obtain ⟨b, c, rfl, rfl⟩ := hE2
        have htr := trivial
        repeat' (first | refine KW.seq ?_ | refine KW.region ?_ | refine KO.nil ?_ | refine At.then_normal ?_ | refine KW.ret ?_ | refine At.then_ret ?_ | refine KW.cond_t rfl (by first | decide) ?_ | ((first | apply KO.val rfl rfl rfl ?kq ?_ ); (case kq => ((first | apply qt_ev rfl ?hi | apply qt_nes rfl rfl rfl ?hi rfl (Or.inl rfl) ); (case hi => (intro h; (repeat' (first | with_reducible exact alln | with_reducible refine allc ?_ ?_ | with_reducible refine andi ?_ ?_)); all_goals (first | with_reducible rfl )))))) | fail)
        ((first | apply At.done_ret ); (focus (repeat' (first | exact ResVs.nil' | apply ResVs.cons' | exact ResV.tmp' rfl ))); dsimp only [resVal])
        refine ⟨[(b, cl [.string sReq, .iface 100 (.pointer (some ⟨c, 0, none⟩))] 108), (c, cl [.string z.1, .iface 32 (.int .i64 z.2)] 108)], List.Sublist.cons _ (List.Sublist.cons_cons _ (List.Sublist.cons_cons _ (List.nil_sublist _))), ?_⟩
        unfold EncR
        rw [hX]
        exact ⟨_, _, ⟨b, c, rfl, rfl⟩, rfl, rfl⟩

def Rq.zero : Rq := ⟨0, 0, 0, 0, 0, 0, 0, 0⟩
def decS (l : List Nat) : Md × Flt × Rq := stepR (.take l) Rq.zero
def decF (l : List Nat) : Flt := if 0 < (decS l).1.len then note (decS l).2.1 sEnd 12 else (decS l).2.1
def DecR (l : List Nat) (v : Value) (σ : Heap) : Prop := match decF l with
  | some y => ∃ ev ε, EV sReq (some y) ev ε ∧ v = .tuple #[.agg Rq.zero.cells.toArray, ev] ∧ σ = ε
  | none => v = .tuple #[.agg (decS l).2.2.cells.toArray, .nilIface] ∧ σ = []
theorem stepW_take (l : List Nat) (x : Flt) (name : ByteArray) (X : Nat) (size : Int) : ∃ l', (stepW (.take l) x name X size).1 = .take l' := by
  rcases x with _ | z
  · show ∃ l', (if wMay size then (if size ≤ (l.length : Int) then (Md.take (l.drop size.toNat), num (l.take size.toNat), (0 : Int)) else (.take l, 0, 17)) else (.take l, 0, 1)).1 = .take l'
    split
    · split
      · exact ⟨_, rfl⟩
      · exact ⟨_, rfl⟩
    · exact ⟨_, rfl⟩
  · exact ⟨_, rfl⟩
theorem stepN_take (l : List Nat) (x : Flt) (name : ByteArray) (N : Int) (size : Int) : ∃ l', (stepN (.take l) x name N size).1 = .take l' := stepW_take l x name (u64 N) size
theorem stepC_take (l : List Nat) (x : Flt) (name : ByteArray) (X Y : Int) : ∃ l', (stepC (.take l) x name X Y).1 = .take l' := by
  obtain ⟨l1, e1⟩ := stepN_take l x name X 2
  show ∃ l', (stepN (stepN (.take l) x name X 2).1 (stepN (.take l) x name X 2).2.1 name Y 2).1 = .take l'
  rw [e1]
  exact stepN_take l1 _ name Y 2
theorem stepR_take (l : List Nat) (r : Rq) : ∃ l', (stepR (.take l) r).1 = .take l' := by
  obtain ⟨l1, e1⟩ := stepN_take l none sOp r.op 1
  unfold stepR
  rcases hN : stepN (.take l) none sOp r.op 1 with ⟨m1, x1, o1⟩
  rw [hN] at e1
  dsimp only at e1 ⊢
  subst e1
  rcases x1 with _ | z
  · dsimp only
    split
    · exact ⟨_, rfl⟩
    · split
      · exact ⟨_, rfl⟩
      · obtain ⟨l2, e2⟩ := stepW_take l1 none sToken r.tok 8
        unfold stepR2
        dsimp only
        rcases hW : stepW (.take l1) none sToken r.tok 8 with ⟨m2, x2, t2⟩
        rw [hW] at e2
        dsimp only at e2 ⊢
        subst e2
        split
        · obtain ⟨l3, e3⟩ := stepN_take l2 x2 sUnit r.unit 1
          dsimp only
          rw [e3]
          exact stepN_take l3 _ sDir r.dir 1
        · split
          · obtain ⟨l3, e3⟩ := stepC_take l2 x2 sFrom r.fx r.fy
            dsimp only
            rw [e3]
            exact stepC_take l3 _ sTo r.tx r.ty
          · exact ⟨_, rfl⟩
  · exact ⟨_, rfl⟩
theorem end_d (β : Nat → Option Obj) (bf n : Nat) (md : Md) (y : Flt) (σ : Heap) (hf : FormB β bf sReq md y σ) {rest : Bool} (hb : rest = decide (0 < n)) :
    Go.K.Tr Tryd.prog 30 [.pointer (some ⟨bf, 0, none⟩), .bool rest, .int .i64 12] β σ (fun v σ' => ∃ wv rv dv ev φ ε, FormH β bf md wv rv dv φ ∧ EV sReq (if 0 < n then note y sEnd 12 else y) ev ε ∧ v = ev ∧ σ' = (bf, cl [.string sReq, wv, rv, dv, ev] 80) :: (ε ++ φ)) := by
  subst hb
  refine (end_p β bf sReq md y σ hf _ 12).mono ?_
  simp only [decide_eq_true_eq]
  exact fun v s h => h
set_option maxHeartbeats 16000000 in
theorem Decode_p (β : Nat → Option Obj) (m c : Nat) (l : List Nat) (p : Option Addr) (hl : l.length = m) (hB : Byt l) (hv : SL β [] 1 m (by8 l) p) (hpc : p = none → c = 0 ∧ m = 0) (hm : m ≤ 900000) :
    Go.K.Tr Tryd.prog 22 [.slice p m c] β [] (fun v σ' => DecR l v σ') := by
  refine Tr.sub ?_
  refine Tr.of_body Tryd.tt (args := [.slice p m c]) (fr := [(0, true, .slice p m c)]) Tryd.func22 rfl (by decide) rfl Tryd.ntmps22 rfl rfl ?_
  intro E hE
  subst hE
  repeat' (first | refine KW.seq ?_ | refine KW.region ?_ | refine KO.nil ?_ | ((first | apply KO.val rfl rfl rfl ?kq ?_); (case kq => ((first | apply qt_ev rfl ?hi ); (case hi => (intro h; (repeat' (first | with_reducible exact alln | with_reducible refine allc ?_ ?_ )); all_goals (first | with_reducible rfl )))))) | (refine KO.alloc rfl rfl rfl rfl rfl rfl ?_; intro _ _) | fail)
  rename_i b2 _ b4 _
  refine KO.callF [] [(b4, cl [.int .i64 0, .int .u64 0, .int .i64 0, .int .i64 0, .int .i64 0, .int .i64 0, .int .i64 0, .int .i64 0] 26), (b2, cl [.int .i64 0, .int .u64 0, .int .i64 0, .int .i64 0, .int .i64 0, .int .i64 0, .int .i64 0, .int .i64 0] 26)] (by classical exact List.perm_iff_count.2 (fun _ => by first | (simp only [List.count_append, List.count_cons, List.count_nil, List.append_assoc, List.cons_append, List.nil_append]; done) )) rfl rfl rfl rfl rfl rfl rfl (reads_p _ sReq m c l p hl hB hv hpc (by omega)) ?_
  rintro _ s ⟨bf, rfl, hf⟩
  repeat' (first | refine KW.seq ?_ | refine KW.region ?_ | refine KO.nil ?_ | ((first | apply KO.val rfl rfl rfl ?kq ?_); (case kq => ((first | apply qt_ev rfl ?hi ); (case hi => (intro h; (repeat' (first | with_reducible exact alln | with_reducible refine allc ?_ ?_ )); all_goals (first | with_reducible rfl )))))) | fail)
  refine KO.callF ((b4, cl [.int .i64 0, .int .u64 0, .int .i64 0, .int .i64 0, .int .i64 0, .int .i64 0, .int .i64 0, .int .i64 0] 26) :: s) [(b2, cl [.int .i64 0, .int .u64 0, .int .i64 0, .int .i64 0, .int .i64 0, .int .i64 0, .int .i64 0, .int .i64 0] 26)] (by classical exact List.perm_iff_count.2 (fun _ => by first | (simp only [List.count_append, List.count_cons, List.count_nil, List.append_assoc, List.cons_append, List.nil_append]; omega))) rfl rfl rfl rfl rfl rfl rfl (fields_p _ bf b4 sReq (.take l) Rq.zero s hf (by show l.length ≤ 900000; omega) (by show 0 < 18446744073709551616; omega)) ?_
  rintro _ _ ⟨s2, hs2, rfl⟩
  obtain ⟨l', el⟩ := stepR_take l Rq.zero
  have hlen := stepR_len (.take l) Rq.zero
  rcases hS : stepR (.take l) Rq.zero with ⟨md, y, r⟩
  rw [hS] at hs2 el hlen
  dsimp only at hs2 el ⊢
  subst el
  have hl' : l'.length ≤ m + 100 := by
    have : l'.length ≤ l.length + 100 := hlen
    omega
  obtain ⟨wv, rv, dv, ev, φ, ε, hF, hE, rfl⟩ := hs2
  have hF2 := hF
  obtain ⟨rfl, rfl, br, p', c', ψ, rfl, rfl, hB', hlc, hpc', hs'⟩ := hF
  refine KO.perm (σ' := (bf, cl [.string sReq, .slice none 0 0, .pointer (some ⟨br, 0, none⟩), .func (.func (Md.take l').fn) #[.pointer (some ⟨bf, 0, none⟩)] #[], ev] 80) :: ((b4, cl r.cells 26) :: ((b2, cl [.int .i64 0, .int .u64 0, .int .i64 0, .int .i64 0, .int .i64 0, .int .i64 0, .int .i64 0, .int .i64 0] 26) :: ((br, cl [.slice p' l'.length c'] 126) :: (ε ++ ψ))))) (by classical exact List.perm_iff_count.2 (fun _ => by first | (simp only [List.count_append, List.count_cons, List.count_nil, List.append_assoc, List.cons_append, List.nil_append]; omega))) ?_
  repeat' (first | refine KW.seq ?_ | refine KW.region ?_ | refine KO.nil ?_ | ((first | apply KO.val rfl rfl rfl ?kq ?_); (case kq => ((first | apply qt_ev rfl ?hi | ((first | apply qt_load1 rfl rfl ?hi rfl rfl ?hm ?hc ); (case hm => repeat (first | exact List.Mem.head _ )); (case hc => rfl)) ); (case hi => (intro h; (repeat' (first | with_reducible exact alln | with_reducible refine allc ?_ ?_ )); all_goals (first | with_reducible rfl )))))) | fail)
  refine KO.callF ((br, cl [.slice p' l'.length c'] 126) :: ψ) ((bf, cl [.string sReq, .slice none 0 0, .pointer (some ⟨br, 0, none⟩), .func (.func (Md.take l').fn) #[.pointer (some ⟨bf, 0, none⟩)] #[], ev] 80) :: ((b4, cl r.cells 26) :: ((b2, cl [.int .i64 0, .int .u64 0, .int .i64 0, .int .i64 0, .int .i64 0, .int .i64 0, .int .i64 0, .int .i64 0] 26) :: ε))) (by classical exact List.perm_iff_count.2 (fun _ => by first | (simp only [List.count_append, List.count_cons, List.count_nil, List.append_assoc, List.cons_append, List.nil_append]; omega))) rfl rfl rfl rfl rfl rfl rfl (Rest_p _ ψ br l'.length c' (by8 l') p' (hs'.mono (fun q hq => List.mem_cons_of_mem _ hq)) hpc' (by8_one _) (by omega)) ?_
  rintro _ _ ⟨b, rfl, rfl⟩
  refine KO.permS (σ' := (bf, cl [.string sReq, .slice none 0 0, .pointer (some ⟨br, 0, none⟩), .func (.func (Md.take l').fn) #[.pointer (some ⟨bf, 0, none⟩)] #[], ev] 80) :: ((b4, cl r.cells 26) :: ((b2, cl [.int .i64 0, .int .u64 0, .int .i64 0, .int .i64 0, .int .i64 0, .int .i64 0, .int .i64 0, .int .i64 0] 26) :: ((br, cl [.slice p' l'.length c'] 126) :: (ε ++ ψ))))) (φ := [(b, cl (by8 l') 5)]) (by classical exact List.perm_iff_count.2 (fun _ => by first | (simp only [List.count_append, List.count_cons, List.count_nil, List.append_assoc, List.cons_append, List.nil_append]; omega))) ?_
  repeat' (first | ((first | apply KO.val rfl rfl rfl ?kq ?_); (case kq => ((first | apply qt_ev rfl ?hi ); (case hi => (intro h; (repeat' (first | with_reducible exact alln | with_reducible refine allc ?_ ?_ )); all_goals (first | with_reducible rfl )))))) | fail)
  refine KO.callF ((bf, cl [.string sReq, .slice none 0 0, .pointer (some ⟨br, 0, none⟩), .func (.func (Md.take l').fn) #[.pointer (some ⟨bf, 0, none⟩)] #[], ev] 80) :: (ε ++ ((br, cl [.slice p' l'.length c'] 126) :: ψ))) [(b4, cl r.cells 26), (b2, cl [.int .i64 0, .int .u64 0, .int .i64 0, .int .i64 0, .int .i64 0, .int .i64 0, .int .i64 0, .int .i64 0] 26)] (by classical exact List.perm_iff_count.2 (fun _ => by first | (simp only [List.count_append, List.count_cons, List.count_nil, List.append_assoc, List.cons_append, List.nil_append]; omega))) rfl rfl rfl rfl rfl rfl rfl (end_d _ bf l'.length (.take l') y _ ⟨_, _, _, ev, _, ε, hF2, hE, rfl⟩ ?hb) ?_
  case hb => simp
  rintro _ _ ⟨wv, rv, dv, ev', φ', ε', hF3, hE3, rfl, rfl⟩
  have eD : decF l = (if 0 < l'.length then note y sEnd 12 else y) := by
    unfold decF decS
    rw [hS]
    rfl
  rw [← eD] at hE3
  dsimp only [Rq.cells]
  rcases hX : decF l with _ | z
  · rw [hX] at hE3
    obtain ⟨rfl, rfl⟩ := hE3
    refine KO.permS (σ' := [(b4, cl [.int .i64 r.op, .int .u64 (r.tok : Int), .int .i64 r.unit, .int .i64 r.dir, .int .i64 r.fx, .int .i64 r.fy, .int .i64 r.tx, .int .i64 r.ty] 26), (b2, cl [.int .i64 0, .int .u64 0, .int .i64 0, .int .i64 0, .int .i64 0, .int .i64 0, .int .i64 0, .int .i64 0] 26)]) (φ := (bf, cl [.string sReq, wv, rv, dv, .nilIface] 80) :: φ') (by classical exact List.perm_iff_count.2 (fun _ => by first | (simp only [List.count_append, List.count_cons, List.count_nil, List.append_assoc, List.cons_append, List.nil_append]; omega))) ?_
    repeat' (first | refine KW.seq ?_ | refine KW.region ?_ | refine KO.nil ?_ | refine At.then_normal ?_ | refine KW.skip ?_ | refine KW.ret ?_ | refine KW.cond_f rfl (by first | decide) ?_ | ((first | apply KO.val rfl rfl rfl ?kq ?_); (case kq => ((first | apply qt_ev rfl ?hi | ((first | apply qt_loadN rfl rfl ?hi rfl rfl rfl ?hm ?hc); (case hm => repeat (first | exact List.Mem.head _ )); (case hc => rfl)) | apply qt_nes rfl rfl rfl ?hi rfl (Or.inr ⟨rfl, rfl, rfl⟩)); (case hi => (intro h; (repeat' (first | with_reducible exact alln | with_reducible refine allc ?_ ?_ | with_reducible refine andi ?_ ?_)); all_goals (first | with_reducible rfl )))))) | (apply KO.store (i := _) rfl rfl rfl rfl rfl rfl rfl rfl ?hl ?sg ?hw ?ho ?hs; (case sg => first | exact (rfl : getI 1 _ = _) ); (case hl => rfl); (case hw => rfl); (case ho => rfl); (case hs => rfl)) | fail)
    ((first | apply At.done_ret ); (focus (repeat' (first | exact ResVs.nil' | apply ResVs.cons' | exact ResV.tmp' rfl | (apply ResV.cellN rfl ?hm rfl rfl rfl ?hc; (case hm => repeat (first | exact List.Mem.head _ | apply List.Mem.tail _ )); (case hc => rfl))))); dsimp only [resVal])
    refine ⟨[], List.nil_sublist _, ?_⟩
    unfold DecR
    rw [hX]
    unfold decS
    rw [hS]
    exact ⟨rfl, rfl⟩
  · rw [hX] at hE3
    obtain ⟨e1, e2, rfl, rfl⟩ := hE3
    refine KO.permS (σ' := (b4, cl [.int .i64 r.op, .int .u64 (r.tok : Int), .int .i64 r.unit, .int .i64 r.dir, .int .i64 r.fx, .int .i64 r.fy, .int .i64 r.tx, .int .i64 r.ty] 26) :: ((b2, cl [.int .i64 0, .int .u64 0, .int .i64 0, .int .i64 0, .int .i64 0, .int .i64 0, .int .i64 0, .int .i64 0] 26) :: [(e1, cl [.string sReq, .iface 100 (.pointer (some ⟨e2, 0, none⟩))] 108), (e2, cl [.string z.1, .iface 32 (.int .i64 z.2)] 108)])) (φ := (bf, cl [.string sReq, wv, rv, dv, .iface 100 (.pointer (some ⟨e1, 0, none⟩))] 80) :: φ') (by classical exact List.perm_iff_count.2 (fun _ => by first | (simp only [List.count_append, List.count_cons, List.count_nil, List.append_assoc, List.cons_append, List.nil_append]; omega))) ?_
    repeat' (first | refine KW.seq ?_ | refine KW.region ?_ | refine KO.nil ?_ | refine At.then_normal ?_ | refine KW.ret ?_ | refine At.then_ret ?_ | refine KW.cond_t rfl (by first | decide) ?_ | ((first | apply KO.val rfl rfl rfl ?kq ?_); (case kq => ((first | apply qt_ev rfl ?hi | apply qt_build rfl rfl ?hi rfl | apply qt_nes rfl rfl rfl ?hi rfl (Or.inl rfl) ); (case hi => (intro h; (repeat' (first | with_reducible exact alln | with_reducible refine allc ?_ ?_ | with_reducible refine andi ?_ ?_)); all_goals (first | with_reducible rfl )))))) | (apply KO.store (i := _) rfl rfl rfl rfl rfl rfl rfl rfl ?hl ?sg ?hw ?ho ?hs; (case sg => first | exact (rfl : getI 1 _ = _) ); (case hl => rfl); (case hw => rfl); (case ho => rfl); (case hs => rfl)) | fail)
    ((first | apply At.done_ret ); (focus (repeat' (first | exact ResVs.nil' | apply ResVs.cons' | exact ResV.tmp' rfl | (apply ResV.cellN rfl ?hm rfl rfl rfl ?hc; (case hm => repeat (first | exact List.Mem.head _ | apply List.Mem.tail _ )); (case hc => rfl))))); dsimp only [resVal])
    refine ⟨[(e1, cl [.string sReq, .iface 100 (.pointer (some ⟨e2, 0, none⟩))] 108), (e2, cl [.string z.1, .iface 32 (.int .i64 z.2)] 108)], List.Sublist.cons _ (List.Sublist.cons _ (List.Sublist.refl _)), ?_⟩
    unfold DecR
    rw [hX]
    exact ⟨_, _, ⟨e1, e2, rfl, rfl⟩, rfl, rfl⟩
end Go.Proofs.YtnaclkdjchnbpaaDoor

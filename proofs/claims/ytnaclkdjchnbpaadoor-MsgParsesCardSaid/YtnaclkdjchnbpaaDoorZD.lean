/- Part 4 of the texts: msg.Encode; msg.Decode; msg.form: a flag; a response, and whether it has a body; Whether two responses are the same; What the laws call: rows of bytes compared; an error compare; Whether two responses of the document's answer are one; The chapter's examples, but for the response -/
import Derived.Test.YtnaclkdjchnbpaaDoorTie
import Derived.Test.YtnaclkdjchnbpaaDoorCards
import Derived.SevenTiedAt
import Derived.LaidHandle
import Derived.Test.YtnaclkdjchnbpaaDoorZC
section
namespace Go.Proofs.YtnaclkdjchnbpaaDoor
open Go Go.K

theorem BytesF_p (β : Nat → Option Obj) (bf m : Nat) (a rv dv ev v : Value) (φ σ : Heap) (xs : List Nat) (hl : xs.length = m) (hv : Vec 5 1 m (by8 xs) v φ) (hm : m ≤ 1000000) (hs : ∀ q ∈ φ, q ∈ σ) :
    Go.K.Tr Tryd.prog 31 [.pointer (some ⟨bf, 1, none⟩)] β ((bf, cl [a, v, rv, dv, ev] 80) :: σ) (fun v' σ' => ∃ b, v' = .slice (some ⟨b, 0, none⟩) m m ∧ σ' = (b, cl (by8 xs) 5) :: (bf, cl [a, v, rv, dv, ev] 80) :: σ) := by
  obtain ⟨pv, cv, rfl⟩ := hv.len
  refine Tr.of_body Tryd.tt (args := [.pointer (some ⟨bf, 1, none⟩)]) (fr := [(0, true, .pointer (some ⟨bf, 1, none⟩))]) Tryd.func31 rfl (by decide) rfl Tryd.ntmps31 rfl rfl ?_
  intro E hE
  subst hE
  repeat' (first | refine KW.seq ?_ | refine KW.region ?_ | refine KO.nil ?_ | refine At.then_normal ?_ | refine KW.skip ?_ | refine KW.cond_f rfl (by first | with_reducible rfl ) ?_ | ((first | apply KO.val rfl rfl rfl ?kq ?_); (case kq => ((first | apply qt_ev rfl ?hi | ((first | apply qt_load1 rfl rfl ?hi rfl rfl ?hm ?hc ); (case hm => repeat (first | exact List.Mem.head _ )); (case hc => rfl)) | apply qt_eqs rfl rfl rfl ?hi rfl (Or.inl rfl) ); (case hi => (intro h; (repeat' (first | with_reducible exact alln | with_reducible refine allc ?_ ?_ | with_reducible refine andi ?_ ?_)); all_goals (first | with_reducible rfl )))))) | fail)
  refine KO.callA rfl rfl rfl rfl rfl rfl rfl (own_p _ _ _ _ (by8 xs) _ (SL.ofVec hv (fun q hq => List.mem_cons_of_mem _ (hs q hq))) ?_ (by8_one _) (by omega)) ?_
  · rintro rfl
    rcases hv.2 with ⟨h1, h2, _⟩ | ⟨g, cap, sp, h1, _⟩
    · simp only [Value.slice.injEq] at h1; exact ⟨h1.2.2, h2⟩
    · simp at h1
  rintro _ _ ⟨b, rfl, rfl⟩
  repeat' (first | refine KO.nil ?_ | refine At.then_normal ?_ | refine KW.ret ?_ | ((first | apply KO.val rfl rfl rfl ?kq ?_); (case kq => ((first | apply qt_ev rfl ?hi ); (case hi => (intro h; (repeat' (first | with_reducible exact alln | with_reducible refine allc ?_ ?_ )); all_goals (first | with_reducible rfl )))))) | fail)
  ((first | apply At.done_ret ); (focus (repeat' (first | exact ResVs.nil' | apply ResVs.cons' | exact ResV.tmp' rfl ))); dsimp only [resVal])
  exact ⟨b, rfl, rfl⟩
def I64 (n : Int) : Prop := -9223372036854775808 ≤ n ∧ n ≤ 9223372036854775807
theorem i64_u64 {n : Int} (h : I64 n) : IntKind.i64.wrap (u64 n : Int) = n := by
  rw [IntKind.wrap_i64]
  unfold u64
  unfold I64 at h
  omega
structure Rq.Ok (r : Rq) : Prop where
  op : I64 r.op
  tok : r.tok < 18446744073709551616
  unit : I64 r.unit
  dir : I64 r.dir
  fx : I64 r.fx
  fy : I64 r.fy
  tx : I64 r.tx
  ty : I64 r.ty
theorem stepW_put (xs : List Nat) (x : Flt) (name : ByteArray) (X : Nat) (size : Int) : ∃ ys y, stepW (.put xs) x name X size = (.put ys, y, X) := by
  rcases x with _ | z
  · exact ⟨_, _, rfl⟩
  · exact ⟨_, _, rfl⟩
theorem stepN_put (xs : List Nat) (x : Flt) (name : ByteArray) {N : Int} (size : Int) (h : I64 N) : ∃ ys y, stepN (.put xs) x name N size = (.put ys, y, N) := by
  obtain ⟨ys, y, e⟩ := stepW_put xs x name (u64 N) size
  exact ⟨ys, y, by simp only [stepN, e, i64_u64 h]⟩
theorem stepC_put (xs : List Nat) (x : Flt) (name : ByteArray) {X Y : Int} (h : I64 X) (h' : I64 Y) : ∃ ys y, stepC (.put xs) x name X Y = (.put ys, y, X, Y) := by
  obtain ⟨ys, y, e⟩ := stepN_put xs x name 2 h
  obtain ⟨zs, z, e'⟩ := stepN_put ys y name 2 h'
  exact ⟨zs, z, by simp only [stepC, e, e']⟩
theorem stepR2_put (xs : List Nat) {r : Rq} (h : r.Ok) : ∃ ys y, stepR2 (.put xs) r = (.put ys, y, r) := by
  obtain ⟨y1, x1, e1⟩ := stepW_put xs none sToken r.tok 8
  unfold stepR2
  rw [e1]
  dsimp only
  split
  · obtain ⟨y2, x2, e2⟩ := stepN_put y1 x1 sUnit 1 h.unit
    obtain ⟨y3, x3, e3⟩ := stepN_put y2 x2 sDir 1 h.dir
    rw [e2]
    dsimp only
    rw [e3]
    exact ⟨_, _, rfl⟩
  · split
    · obtain ⟨y2, x2, e2⟩ := stepC_put y1 x1 sFrom h.fx h.fy
      obtain ⟨y3, x3, e3⟩ := stepC_put y2 x2 sTo h.tx h.ty
      rw [e2]
      dsimp only
      rw [e3]
      exact ⟨_, _, rfl⟩
    · exact ⟨_, _, rfl⟩
theorem stepR_put (xs : List Nat) {r : Rq} (h : r.Ok) : ∃ ys y, stepR (.put xs) r = (.put ys, y, r) := by
  obtain ⟨y1, x1, e1⟩ := stepN_put xs none sOp 1 h.op
  unfold stepR
  rw [e1]
  dsimp only
  rcases x1 with _ | z
  · dsimp only
    split
    · exact ⟨_, _, rfl⟩
    · split
      · exact ⟨_, _, rfl⟩
      · exact stepR2_put y1 h
  · exact ⟨_, _, rfl⟩
def sReq : ByteArray := ⟨#[114, 101, 113, 117, 101, 115, 116]⟩
def sEnd : ByteArray := ⟨#[101, 110, 100]⟩
/-- Whether a field is not 0 that the operation has not. -/
def leftR (r : Rq) : Bool :=
  if r.op = 4 ∨ r.op = 5 then !(decide (r.unit = 0) && decide (r.dir = 0))
  else if r.op = 1 ∨ r.op = 3 ∨ r.op = 6 then !(decide (r.unit = 0) && (decide (r.dir = 0) && ((decide (r.fx = 0) && decide (r.fy = 0)) && (decide (r.tx = 0) && decide (r.ty = 0)))))
  else if r.op = 2 then !((decide (r.fx = 0) && decide (r.fy = 0)) && (decide (r.tx = 0) && decide (r.ty = 0)))
  else !(decide ((r.tok : Int) = 0) && (decide (r.unit = 0) && (decide (r.dir = 0) && ((decide (r.fx = 0) && decide (r.fy = 0)) && (decide (r.tx = 0) && decide (r.ty = 0))))))
def encF (r : Rq) : Flt := if r.op < 0 ∨ 7 ≤ r.op then some (sOp, 18) else if leftR r then note (stepR (.put []) r).2.1 sEnd 1 else (stepR (.put []) r).2.1
def Md.bytes : Md → List Nat
  | .put xs => xs
  | .take l => l
def encB (r : Rq) : List Nat := (stepR (.put []) r).1.bytes
def EncR (r : Rq) (v : Value) (σ : Heap) : Prop := match encF r with
  | some y => ∃ ev ε, EV sReq (some y) ev ε ∧ v = .tuple #[.slice none 0 0, ev] ∧ σ = ε
  | none => ∃ b, v = .tuple #[.slice (some ⟨b, 0, none⟩) (encB r).length (encB r).length, .nilIface] ∧ σ = [(b, cl (by8 (encB r)) 5)]
theorem stepR_len (md : Md) (r : Rq) : (stepR md r).1.len ≤ md.len + 100 := by
  have h1 := stepN_len md none sOp r.op 1 (by omega)
  unfold stepR
  rcases hN : stepN md none sOp r.op 1 with ⟨m1, x1, o1⟩
  rw [hN] at h1
  dsimp only at h1 ⊢
  rcases x1 with _ | z
  · dsimp only
    split
    · dsimp only; omega
    · split
      · dsimp only; omega
      · have h2 := stepW_len m1 none sToken r.tok 8 (by omega)
        unfold stepR2
        dsimp only
        rcases hW : stepW m1 none sToken r.tok 8 with ⟨m2, x2, t2⟩
        rw [hW] at h2
        dsimp only at h2 ⊢
        split
        · have h3 := stepN_len m2 x2 sUnit r.unit 1 (by omega)
          have h4 := stepN_len (stepN m2 x2 sUnit r.unit 1).1 (stepN m2 x2 sUnit r.unit 1).2.1 sDir r.dir 1 (by omega)
          dsimp only; omega
        · split
          · have h3 := stepC_len m2 x2 sFrom r.fx r.fy
            have h4 := stepC_len (stepC m2 x2 sFrom r.fx r.fy).1 (stepC m2 x2 sFrom r.fx r.fy).2.1 sTo r.tx r.ty
            dsimp only; omega
          · dsimp only; omega
  · dsimp only; omega
theorem end_q (β : Nat → Option Obj) (bf : Nat) (r : Rq) (md : Md) (y : Flt) (σ : Heap) (hf : FormB β bf sReq md y σ) {rest : Bool} (hb : rest = leftR r) :
    Go.K.Tr Tryd.prog 30 [.pointer (some ⟨bf, 0, none⟩), .bool rest, .int .i64 1] β σ (fun v σ' => ∃ wv rv dv ev φ ε, FormH β bf md wv rv dv φ ∧ EV sReq (if leftR r then note y sEnd 1 else y) ev ε ∧ v = ev ∧ σ' = (bf, cl [.string sReq, wv, rv, dv, ev] 80) :: (ε ++ φ)) := by
  subst hb
  exact end_p β bf sReq md y σ hf _ 1
set_option maxHeartbeats 16000000 in
theorem Encode_p (β : Nat → Option Obj) (r : Rq) (hr : r.Ok) :
    Go.K.Tr Tryd.prog 10 [.agg r.cells.toArray] β [] (fun v σ' => EncR r v σ') := by
  refine Tr.sub ?_
  obtain ⟨ys, y, eR⟩ := stepR_put [] hr
  refine Tr.of_body Tryd.tt (args := [.agg r.cells.toArray]) (fr := [(0, true, .agg r.cells.toArray)]) Tryd.func10 rfl (by decide) rfl Tryd.ntmps10 rfl rfl ?_
  intro E hE
  subst hE
  dsimp only [Rq.cells]
  repeat' (first | refine KW.seq ?_ | refine KW.region ?_ | refine KO.nil ?_ | refine At.then_normal ?_ | refine KW.skip ?_ | ((first | apply KO.val rfl rfl rfl ?kq ?_ ); (case kq => ((first | apply qt_ev rfl ?hi | ((first | apply qt_load1 rfl rfl ?hi rfl rfl ?hm ?hc ); (case hm => repeat (first | exact List.Mem.head _ )); (case hc => rfl)) | ((first | apply qt_pick_or rfl rfl rfl ?hi ?pj); (case pj => (intro h h2; first | (rw [h2]; rfl) ))) ); (case hi => (intro h; (repeat' (first | with_reducible exact alln | with_reducible refine allc ?_ ?_ )); all_goals (first | with_reducible rfl | with_reducible exact h )))))) | (refine KO.box rfl rfl rfl rfl rfl rfl ?_; intro _ _) | (refine KW.cond rfl ?_ ?_ <;> (intro hc; try simp only [kBool] at hc)) | fail)
  · rename_i bn _
    have e1 : encF r = some (sOp, 18) := by unfold encF; rw [if_pos hc]
    refine KO.callF [] [(bn, cl [.int .i64 r.op, .int .u64 (r.tok : Int), .int .i64 r.unit, .int .i64 r.dir, .int .i64 r.fx, .int .i64 r.fy, .int .i64 r.tx, .int .i64 r.ty] 26)] (by classical exact List.perm_iff_count.2 (fun _ => by first | (simp only [List.count_append, List.count_cons, List.count_nil, List.append_assoc, List.cons_append, List.nil_append]; done) )) rfl rfl rfl rfl rfl rfl rfl (Raise_p _ sOp 18 (by omega)) ?_
    rintro _ _ ⟨c, rfl, rfl⟩
    repeat' (first | refine KW.seq ?_ | refine KW.region ?_ | refine KO.nil ?_ | refine At.then_normal ?_ | refine KW.skip ?_ | refine KW.ret ?_ | refine At.then_ret ?_ | refine KW.block ?_ | refine KW.exit ?_ | refine At.block_normal ?_ | refine At.block_ret ?_ | refine At.loop_ret ?_ | refine At.then_exit ?_ | refine At.block_here rfl ?_ | refine At.block_there rfl ?_ | refine At.loop_exit ?_ | refine At.cut_ret ?_ | refine At.cutA_ret ?_ | refine At.cutA_exit ?_ | refine At.cut_exit ?_ | (refine At.cut_same ?_; repeat' (first | exact FLe.nil _ | refine FLe.cons rfl rfl ?_)) | refine KW.cond_t rfl (by first | with_reducible rfl | decide) ?_ | refine KW.cond_f rfl (by first | with_reducible rfl | decide) ?_ | refine KW.scope ?_ | refine KW.label ?_ | refine At.scope_normal ?_ | refine At.scope_ret ?_ | refine At.scope_exit ?_ | refine KO.skip' rfl (by first | with_reducible rfl | decide) rfl rfl ?_ | refine KO.skip0' rfl (by first | with_reducible rfl | decide) rfl ?_ | refine KO.skipIn rfl (by first | with_reducible rfl | decide) rfl rfl ?_ | ((first | apply KO.val rfl rfl rfl ?kq ?_ | apply KO.valIn rfl rfl rfl ?kq ?_); (case kq => ((first | apply qt_ev rfl ?hi | ((first | apply qt_load1 rfl rfl ?hi rfl rfl ?hm ?hc | apply qt_loadN rfl rfl ?hi rfl rfl rfl ?hm ?hc); (case hm => repeat (first | exact List.Mem.head _ | apply List.Mem.tail _ | apply List.mem_append_right _)); (case hc => rfl)) | apply qt_pick_t rfl rfl (by first | with_reducible rfl | decide) rfl ?hi | apply qt_pick_f rfl rfl (by first | with_reducible rfl | decide) rfl ?hi | ((first | apply qt_pick_and rfl rfl rfl ?hi ?pj | apply qt_pick_or rfl rfl rfl ?hi ?pj); (case pj => (intro h h2; first | with_reducible exact h2 | with_reducible exact andi h h2 | (rw [h2]; rfl) | (rw [h, h2]; rfl) | with_reducible rfl | (simp [h2]; done) | (simp_all; done)))) | apply qt_cap rfl rfl ?hi rfl | apply qt_build rfl rfl ?hi rfl | apply qt_eqs rfl rfl rfl ?hi rfl (Or.inl rfl) | apply qt_nes rfl rfl rfl ?hi rfl (Or.inl rfl) | apply qt_eqs rfl rfl rfl ?hi rfl (Or.inr ⟨rfl, rfl, rfl⟩) | apply qt_nes rfl rfl rfl ?hi rfl (Or.inr ⟨rfl, rfl, rfl⟩)); (case hi => (intro h; (repeat' (first | with_reducible exact alln | with_reducible refine allc ?_ ?_ | with_reducible refine andi ?_ ?_)); all_goals (first | with_reducible rfl | with_reducible exact h | with_reducible exact andl h | with_reducible exact andr h | with_reducible exact andl (andl h) | (simp only [h, Bool.and_self]; done) | (simp [h]; done) | (simp_all; done))))))) | (refine KO.box rfl rfl rfl rfl rfl rfl ?_; intro _ _) | (refine KO.alloc rfl rfl rfl rfl rfl rfl ?_; intro _ _) | (apply KO.store (i := _) rfl rfl rfl rfl rfl rfl rfl rfl ?hl ?sg ?hw ?ho ?hs; (case sg => first | exact (rfl : getI 0 _ = _) | exact (rfl : getI 1 _ = _) | exact (rfl : getI 2 _ = _) | exact (rfl : getI 3 _ = _) | exact (rfl : getI 4 _ = _) | exact (rfl : getI 5 _ = _) | exact (rfl : getI 6 _ = _) | exact (rfl : getI 7 _ = _)); (case hl => rfl); (case hw => rfl); (case ho => rfl); (case hs => rfl)) | (refine KW.cond rfl ?_ ?_ <;> (intro hc; try simp only [kBool] at hc)) | exact absurd trivial ‹¬True› | (exfalso; omega) | fail)
    refine KO.callF [] [(c, cl [.string sOp, .iface 32 (.int .i64 18)] 108), (bn, cl [.int .i64 r.op, .int .u64 (r.tok : Int), .int .i64 r.unit, .int .i64 r.dir, .int .i64 r.fx, .int .i64 r.fy, .int .i64 r.tx, .int .i64 r.ty] 26)] (by classical exact List.perm_iff_count.2 (fun _ => by first | (simp only [List.count_append, List.count_cons, List.count_nil, List.append_assoc, List.cons_append, List.nil_append]; done) )) rfl rfl rfl rfl rfl rfl rfl (Wrap_p _ sReq _ _) ?_
    rintro _ _ ⟨b, rfl, rfl⟩
    repeat' (first | refine KO.nil ?_ | refine At.then_normal ?_ | refine KW.ret ?_ | refine At.then_ret ?_ | ((first | apply KO.val rfl rfl rfl ?kq ?_ ); (case kq => ((first | apply qt_ev rfl ?hi ); (case hi => (intro h; (repeat' (first | with_reducible exact alln | with_reducible refine allc ?_ ?_ )); all_goals (first | with_reducible rfl )))))) | fail)
    ((first | apply At.done_ret ); (focus (repeat' (first | exact ResVs.nil' | apply ResVs.cons' | exact ResV.tmp' rfl ))); dsimp only [resVal])
    refine ⟨[(b, cl [.string sReq, .iface 100 (.pointer (some ⟨c, 0, none⟩))] 108), (c, cl [.string sOp, .iface 32 (.int .i64 18)] 108)], List.Sublist.cons_cons _ (List.Sublist.cons_cons _ (List.nil_sublist _)), ?_⟩
    unfold EncR
    rw [e1]
    exact ⟨_, _, ⟨b, c, rfl, rfl⟩, rfl, rfl⟩
  · rename_i bn _
    refine KO.callF [] [(bn, cl [.int .i64 r.op, .int .u64 (r.tok : Int), .int .i64 r.unit, .int .i64 r.dir, .int .i64 r.fx, .int .i64 r.fy, .int .i64 r.tx, .int .i64 r.ty] 26)] (by classical exact List.perm_iff_count.2 (fun _ => by first | (simp only [List.count_append, List.count_cons, List.count_nil, List.append_assoc, List.cons_append, List.nil_append]; done) )) rfl rfl rfl rfl rfl rfl rfl (writes_p _ sReq) ?_
    rintro _ s ⟨bf, rfl, hf⟩
    repeat' (first | refine KW.seq ?_ | refine KW.region ?_ | refine KO.nil ?_ | ((first | apply KO.val rfl rfl rfl ?kq ?_ ); (case kq => ((first | apply qt_ev rfl ?hi ); (case hi => (intro h; (repeat' (first | with_reducible exact alln | with_reducible refine allc ?_ ?_ )); all_goals (first | with_reducible rfl )))))) | fail)
    refine KO.callF ((bn, cl [.int .i64 r.op, .int .u64 (r.tok : Int), .int .i64 r.unit, .int .i64 r.dir, .int .i64 r.fx, .int .i64 r.fy, .int .i64 r.tx, .int .i64 r.ty] 26) :: s) [] (by classical exact List.perm_iff_count.2 (fun _ => by first | (simp only [List.count_append, List.count_cons, List.count_nil, List.append_assoc, List.cons_append, List.nil_append]; omega))) rfl rfl rfl rfl rfl rfl rfl (fields_p _ bf bn sReq (.put []) r s hf (by show 0 ≤ 900000; omega) hr.tok) ?_
    rintro _ _ ⟨s2, hs2, rfl⟩
    rw [eR] at hs2 ⊢
    dsimp only at hs2 ⊢
    refine KO.perm (σ' := (bn, cl [.int .i64 r.op, .int .u64 (r.tok : Int), .int .i64 r.unit, .int .i64 r.dir, .int .i64 r.fx, .int .i64 r.fy, .int .i64 r.tx, .int .i64 r.ty] 26) :: s2) (by rw [List.append_nil]; exact List.Perm.refl _) ?_
    repeat' (first | refine KW.seq ?_ | refine KW.region ?_ | refine KO.nil ?_ | refine At.then_normal ?_ | refine KW.skip ?_ | refine KW.block ?_ | refine KW.exit ?_ | ((first | apply KO.val rfl rfl rfl ?kq ?_ ); (case kq => ((first | apply qt_ev rfl ?hi | ((first | apply qt_load1 rfl rfl ?hi rfl rfl ?hm ?hc | apply qt_loadN rfl rfl ?hi rfl rfl rfl ?hm ?hc); (case hm => repeat (first | exact List.Mem.head _ | apply List.Mem.tail _ )); (case hc => rfl)) | apply qt_build rfl rfl ?hi rfl | apply qt_nes rfl rfl rfl ?hi rfl (Or.inl rfl) ); (case hi => (intro h; (repeat' (first | with_reducible exact alln | with_reducible refine allc ?_ ?_ | with_reducible refine andi ?_ ?_)); all_goals (first | with_reducible rfl )))))) | (refine KO.alloc rfl rfl rfl rfl rfl rfl ?_; intro _ _) | (apply KO.store (i := _) rfl rfl rfl rfl rfl rfl rfl rfl ?hl ?sg ?hw ?ho ?hs; (case sg => first | exact (rfl : getI 0 _ = _) ); (case hl => rfl); (case hw => rfl); (case ho => rfl); (case hs => rfl)) | (refine KW.cond rfl ?_ ?_ <;> (intro hc; try simp only [kBool] at hc)) | (exfalso; omega) | fail)
    all_goals (first | skip)
    all_goals
      have hlen := stepR_len (.put []) r
      rw [eR] at hlen
      have hlen2 : ys.length ≤ 1000000 := by
        have : ys.length ≤ 0 + 100 := hlen
        omega
      refine KO.sublist (σ' := s2) (List.Sublist.cons _ (List.Sublist.cons _ (List.Sublist.refl _))) ?_
      refine KO.callF s2 [] (by classical exact List.perm_iff_count.2 (fun _ => by first | (simp only [List.count_append, List.count_cons, List.count_nil, List.append_assoc, List.cons_append, List.nil_append]; omega))) rfl rfl rfl rfl rfl rfl rfl (end_q _ bf r (.put ys) y s2 hs2 ?hb) ?_
      case hb =>
        unfold leftR
        first | (rw [if_pos (by omega)]; simp; done) | (rw [if_neg (by omega), if_pos (by omega)]; simp; done) | (rw [if_neg (by omega), if_neg (by omega), if_pos (by omega)]; simp; done) | (rw [if_neg (by omega), if_neg (by omega), if_neg (by omega)]; simp; done)
      rintro _ _ ⟨wv, rv, dv, ev, φ, ε, hF, hE2, rfl, rfl⟩
      have eF : encF r = (if leftR r then note y sEnd 1 else y) := by
        unfold encF
        rw [if_neg (by omega), eR]
      rw [← eF] at hE2
      obtain ⟨rfl, hv, rfl⟩ := hF
      rcases hX : encF r with _ | z
      · rw [hX] at hE2
        obtain ⟨rfl, rfl⟩ := hE2
        have htr := trivial
        repeat' (first | refine KW.seq ?_ | refine KW.region ?_ | refine KO.nil ?_ | refine At.then_normal ?_ | refine KW.skip ?_ | refine KW.cond_f rfl (by first | decide) ?_ | ((first | apply KO.val rfl rfl rfl ?kq ?_ ); (case kq => ((first | apply qt_ev rfl ?hi | apply qt_nes rfl rfl rfl ?hi rfl (Or.inr ⟨rfl, rfl, rfl⟩)); (case hi => (intro h; (repeat' (first | with_reducible exact alln | with_reducible refine allc ?_ ?_ | with_reducible refine andi ?_ ?_)); all_goals (first | with_reducible rfl )))))) | fail)
        refine KO.callF ((bf, cl [.string sReq, wv, .pointer none, .func (.func (Md.put ys).fn) #[.pointer (some ⟨bf, 0, none⟩)] #[], .nilIface] 80) :: φ) [] (by classical exact List.perm_iff_count.2 (fun _ => by first | (simp only [List.count_append, List.count_cons, List.count_nil, List.append_assoc, List.cons_append, List.nil_append]; done) )) rfl rfl rfl rfl rfl rfl rfl (BytesF_p _ bf ys.length _ _ _ _ wv φ φ ys rfl hv hlen2 (fun q hq => hq)) ?_
        rintro _ _ ⟨b, rfl, rfl⟩
        repeat' (first | refine KO.nil ?_ | refine At.then_normal ?_ | refine KW.ret ?_ | ((first | apply KO.val rfl rfl rfl ?kq ?_ ); (case kq => ((first | apply qt_ev rfl ?hi ); (case hi => (intro h; (repeat' (first | with_reducible exact alln | with_reducible refine allc ?_ ?_ )); all_goals (first | with_reducible rfl )))))) | fail)
        ((first | apply At.done_ret ); (focus (repeat' (first | exact ResVs.nil' | apply ResVs.cons' | exact ResV.tmp' rfl ))); dsimp only [resVal])
        refine ⟨[(b, cl (by8 ys) 5)], List.Sublist.cons_cons _ (List.nil_sublist _), ?_⟩
        have eB : encB r = ys := by unfold encB; rw [eR]; rfl
        unfold EncR
        rw [hX, eB]
        exact ⟨b, rfl, rfl⟩
      · rw [hX] at hE2
        obtain ⟨b, c, rfl, rfl⟩ := hE2
        have htr := trivial
        repeat' (first | refine KW.seq ?_ | refine KW.region ?_ | refine KO.nil ?_ | refine At.then_normal ?_ | refine KW.ret ?_ | refine At.then_ret ?_ | refine KW.cond_t rfl (by first | decide) ?_ | ((first | apply KO.val rfl rfl rfl ?kq ?_ ); (case kq => ((first | apply qt_ev rfl ?hi | apply qt_nes rfl rfl rfl ?hi rfl (Or.inl rfl) ); (case hi => (intro h; (repeat' (first | with_reducible exact alln | with_reducible refine allc ?_ ?_ | with_reducible refine andi ?_ ?_)); all_goals (first | with_reducible rfl )))))) | fail)
        ((first | apply At.done_ret ); (focus (repeat' (first | exact ResVs.nil' | apply ResVs.cons' | exact ResV.tmp' rfl ))); dsimp only [resVal])
        refine ⟨[(b, cl [.string sReq, .iface 100 (.pointer (some ⟨c, 0, none⟩))] 108), (c, cl [.string z.1, .iface 32 (.int .i64 z.2)] 108)], List.Sublist.cons _ (List.Sublist.cons_cons _ (List.Sublist.cons_cons _ (List.nil_sublist _))), ?_⟩
        unfold EncR
        rw [hX]
        exact ⟨_, _, ⟨b, c, rfl, rfl⟩, rfl, rfl⟩

def Rq.zero : Rq := ⟨0, 0, 0, 0, 0, 0, 0, 0⟩
def decS (l : List Nat) : Md × Flt × Rq := stepR (.take l) Rq.zero
def decF (l : List Nat) : Flt := if 0 < (decS l).1.len then note (decS l).2.1 sEnd 12 else (decS l).2.1
def DecR (l : List Nat) (v : Value) (σ : Heap) : Prop := match decF l with
  | some y => ∃ ev ε, EV sReq (some y) ev ε ∧ v = .tuple #[.agg Rq.zero.cells.toArray, ev] ∧ σ = ε
  | none => v = .tuple #[.agg (decS l).2.2.cells.toArray, .nilIface] ∧ σ = []
theorem stepW_take (l : List Nat) (x : Flt) (name : ByteArray) (X : Nat) (size : Int) : ∃ l', (stepW (.take l) x name X size).1 = .take l' := by
  rcases x with _ | z
  · show ∃ l', (if wMay size then (if size ≤ (l.length : Int) then (Md.take (l.drop size.toNat), num (l.take size.toNat), (0 : Int)) else (.take l, 0, 17)) else (.take l, 0, 1)).1 = .take l'
    split
    · split
      · exact ⟨_, rfl⟩
      · exact ⟨_, rfl⟩
    · exact ⟨_, rfl⟩
  · exact ⟨_, rfl⟩
theorem stepN_take (l : List Nat) (x : Flt) (name : ByteArray) (N : Int) (size : Int) : ∃ l', (stepN (.take l) x name N size).1 = .take l' := stepW_take l x name (u64 N) size
theorem stepC_take (l : List Nat) (x : Flt) (name : ByteArray) (X Y : Int) : ∃ l', (stepC (.take l) x name X Y).1 = .take l' := by
  obtain ⟨l1, e1⟩ := stepN_take l x name X 2
  show ∃ l', (stepN (stepN (.take l) x name X 2).1 (stepN (.take l) x name X 2).2.1 name Y 2).1 = .take l'
  rw [e1]
  exact stepN_take l1 _ name Y 2
theorem stepR_take (l : List Nat) (r : Rq) : ∃ l', (stepR (.take l) r).1 = .take l' := by
  obtain ⟨l1, e1⟩ := stepN_take l none sOp r.op 1
  unfold stepR
  rcases hN : stepN (.take l) none sOp r.op 1 with ⟨m1, x1, o1⟩
  rw [hN] at e1
  dsimp only at e1 ⊢
  subst e1
  rcases x1 with _ | z
  · dsimp only
    split
    · exact ⟨_, rfl⟩
    · split
      · exact ⟨_, rfl⟩
      · obtain ⟨l2, e2⟩ := stepW_take l1 none sToken r.tok 8
        unfold stepR2
        dsimp only
        rcases hW : stepW (.take l1) none sToken r.tok 8 with ⟨m2, x2, t2⟩
        rw [hW] at e2
        dsimp only at e2 ⊢
        subst e2
        split
        · obtain ⟨l3, e3⟩ := stepN_take l2 x2 sUnit r.unit 1
          dsimp only
          rw [e3]
          exact stepN_take l3 _ sDir r.dir 1
        · split
          · obtain ⟨l3, e3⟩ := stepC_take l2 x2 sFrom r.fx r.fy
            dsimp only
            rw [e3]
            exact stepC_take l3 _ sTo r.tx r.ty
          · exact ⟨_, rfl⟩
  · exact ⟨_, rfl⟩
theorem end_d (β : Nat → Option Obj) (bf n : Nat) (md : Md) (y : Flt) (σ : Heap) (hf : FormB β bf sReq md y σ) {rest : Bool} (hb : rest = decide (0 < n)) :
    Go.K.Tr Tryd.prog 30 [.pointer (some ⟨bf, 0, none⟩), .bool rest, .int .i64 12] β σ (fun v σ' => ∃ wv rv dv ev φ ε, FormH β bf md wv rv dv φ ∧ EV sReq (if 0 < n then note y sEnd 12 else y) ev ε ∧ v = ev ∧ σ' = (bf, cl [.string sReq, wv, rv, dv, ev] 80) :: (ε ++ φ)) := by
  subst hb
  refine (end_p β bf sReq md y σ hf _ 12).mono ?_
  simp only [decide_eq_true_eq]
  exact fun v s h => h
set_option maxHeartbeats 16000000 in
theorem Decode_p (β : Nat → Option Obj) (m c : Nat) (l : List Nat) (p : Option Addr) (hl : l.length = m) (hB : Byt l) (hv : SL β [] 1 m (by8 l) p) (hpc : p = none → c = 0 ∧ m = 0) (hm : m ≤ 900000) :
    Go.K.Tr Tryd.prog 22 [.slice p m c] β [] (fun v σ' => DecR l v σ') := by
  refine Tr.sub ?_
  refine Tr.of_body Tryd.tt (args := [.slice p m c]) (fr := [(0, true, .slice p m c)]) Tryd.func22 rfl (by decide) rfl Tryd.ntmps22 rfl rfl ?_
  intro E hE
  subst hE
  repeat' (first | refine KW.seq ?_ | refine KW.region ?_ | refine KO.nil ?_ | ((first | apply KO.val rfl rfl rfl ?kq ?_); (case kq => ((first | apply qt_ev rfl ?hi ); (case hi => (intro h; (repeat' (first | with_reducible exact alln | with_reducible refine allc ?_ ?_ )); all_goals (first | with_reducible rfl )))))) | (refine KO.alloc rfl rfl rfl rfl rfl rfl ?_; intro _ _) | fail)
  rename_i b2 _ b4 _
  refine KO.callF [] [(b4, cl [.int .i64 0, .int .u64 0, .int .i64 0, .int .i64 0, .int .i64 0, .int .i64 0, .int .i64 0, .int .i64 0] 26), (b2, cl [.int .i64 0, .int .u64 0, .int .i64 0, .int .i64 0, .int .i64 0, .int .i64 0, .int .i64 0, .int .i64 0] 26)] (by classical exact List.perm_iff_count.2 (fun _ => by first | (simp only [List.count_append, List.count_cons, List.count_nil, List.append_assoc, List.cons_append, List.nil_append]; done) )) rfl rfl rfl rfl rfl rfl rfl (reads_p _ sReq m c l p hl hB hv hpc (by omega)) ?_
  rintro _ s ⟨bf, rfl, hf⟩
  repeat' (first | refine KW.seq ?_ | refine KW.region ?_ | refine KO.nil ?_ | ((first | apply KO.val rfl rfl rfl ?kq ?_); (case kq => ((first | apply qt_ev rfl ?hi ); (case hi => (intro h; (repeat' (first | with_reducible exact alln | with_reducible refine allc ?_ ?_ )); all_goals (first | with_reducible rfl )))))) | fail)
  refine KO.callF ((b4, cl [.int .i64 0, .int .u64 0, .int .i64 0, .int .i64 0, .int .i64 0, .int .i64 0, .int .i64 0, .int .i64 0] 26) :: s) [(b2, cl [.int .i64 0, .int .u64 0, .int .i64 0, .int .i64 0, .int .i64 0, .int .i64 0, .int .i64 0, .int .i64 0] 26)] (by classical exact List.perm_iff_count.2 (fun _ => by first | (simp only [List.count_append, List.count_cons, List.count_nil, List.append_assoc, List.cons_append, List.nil_append]; omega))) rfl rfl rfl rfl rfl rfl rfl (fields_p _ bf b4 sReq (.take l) Rq.zero s hf (by show l.length ≤ 900000; omega) (by show 0 < 18446744073709551616; omega)) ?_
  rintro _ _ ⟨s2, hs2, rfl⟩
  obtain ⟨l', el⟩ := stepR_take l Rq.zero
  have hlen := stepR_len (.take l) Rq.zero
  rcases hS : stepR (.take l) Rq.zero with ⟨md, y, r⟩
  rw [hS] at hs2 el hlen
  dsimp only at hs2 el ⊢
  subst el
  have hl' : l'.length ≤ m + 100 := by
    have : l'.length ≤ l.length + 100 := hlen
    omega
  obtain ⟨wv, rv, dv, ev, φ, ε, hF, hE, rfl⟩ := hs2
  have hF2 := hF
  obtain ⟨rfl, rfl, br, p', c', ψ, rfl, rfl, hB', hlc, hpc', hs'⟩ := hF
  refine KO.perm (σ' := (bf, cl [.string sReq, .slice none 0 0, .pointer (some ⟨br, 0, none⟩), .func (.func (Md.take l').fn) #[.pointer (some ⟨bf, 0, none⟩)] #[], ev] 80) :: ((b4, cl r.cells 26) :: ((b2, cl [.int .i64 0, .int .u64 0, .int .i64 0, .int .i64 0, .int .i64 0, .int .i64 0, .int .i64 0, .int .i64 0] 26) :: ((br, cl [.slice p' l'.length c'] 126) :: (ε ++ ψ))))) (by classical exact List.perm_iff_count.2 (fun _ => by first | (simp only [List.count_append, List.count_cons, List.count_nil, List.append_assoc, List.cons_append, List.nil_append]; omega))) ?_
  repeat' (first | refine KW.seq ?_ | refine KW.region ?_ | refine KO.nil ?_ | ((first | apply KO.val rfl rfl rfl ?kq ?_); (case kq => ((first | apply qt_ev rfl ?hi | ((first | apply qt_load1 rfl rfl ?hi rfl rfl ?hm ?hc ); (case hm => repeat (first | exact List.Mem.head _ )); (case hc => rfl)) ); (case hi => (intro h; (repeat' (first | with_reducible exact alln | with_reducible refine allc ?_ ?_ )); all_goals (first | with_reducible rfl )))))) | fail)
  refine KO.callF ((br, cl [.slice p' l'.length c'] 126) :: ψ) ((bf, cl [.string sReq, .slice none 0 0, .pointer (some ⟨br, 0, none⟩), .func (.func (Md.take l').fn) #[.pointer (some ⟨bf, 0, none⟩)] #[], ev] 80) :: ((b4, cl r.cells 26) :: ((b2, cl [.int .i64 0, .int .u64 0, .int .i64 0, .int .i64 0, .int .i64 0, .int .i64 0, .int .i64 0, .int .i64 0] 26) :: ε))) (by classical exact List.perm_iff_count.2 (fun _ => by first | (simp only [List.count_append, List.count_cons, List.count_nil, List.append_assoc, List.cons_append, List.nil_append]; omega))) rfl rfl rfl rfl rfl rfl rfl (Rest_p _ ψ br l'.length c' (by8 l') p' (hs'.mono (fun q hq => List.mem_cons_of_mem _ hq)) hpc' (by8_one _) (by omega)) ?_
  rintro _ _ ⟨b, rfl, rfl⟩
  refine KO.permS (σ' := (bf, cl [.string sReq, .slice none 0 0, .pointer (some ⟨br, 0, none⟩), .func (.func (Md.take l').fn) #[.pointer (some ⟨bf, 0, none⟩)] #[], ev] 80) :: ((b4, cl r.cells 26) :: ((b2, cl [.int .i64 0, .int .u64 0, .int .i64 0, .int .i64 0, .int .i64 0, .int .i64 0, .int .i64 0, .int .i64 0] 26) :: ((br, cl [.slice p' l'.length c'] 126) :: (ε ++ ψ))))) (φ := [(b, cl (by8 l') 5)]) (by classical exact List.perm_iff_count.2 (fun _ => by first | (simp only [List.count_append, List.count_cons, List.count_nil, List.append_assoc, List.cons_append, List.nil_append]; omega))) ?_
  repeat' (first | ((first | apply KO.val rfl rfl rfl ?kq ?_); (case kq => ((first | apply qt_ev rfl ?hi ); (case hi => (intro h; (repeat' (first | with_reducible exact alln | with_reducible refine allc ?_ ?_ )); all_goals (first | with_reducible rfl )))))) | fail)
  refine KO.callF ((bf, cl [.string sReq, .slice none 0 0, .pointer (some ⟨br, 0, none⟩), .func (.func (Md.take l').fn) #[.pointer (some ⟨bf, 0, none⟩)] #[], ev] 80) :: (ε ++ ((br, cl [.slice p' l'.length c'] 126) :: ψ))) [(b4, cl r.cells 26), (b2, cl [.int .i64 0, .int .u64 0, .int .i64 0, .int .i64 0, .int .i64 0, .int .i64 0, .int .i64 0, .int .i64 0] 26)] (by classical exact List.perm_iff_count.2 (fun _ => by first | (simp only [List.count_append, List.count_cons, List.count_nil, List.append_assoc, List.cons_append, List.nil_append]; omega))) rfl rfl rfl rfl rfl rfl rfl (end_d _ bf l'.length (.take l') y _ ⟨_, _, _, ev, _, ε, hF2, hE, rfl⟩ ?hb) ?_
  case hb => simp
  rintro _ _ ⟨wv, rv, dv, ev', φ', ε', hF3, hE3, rfl, rfl⟩
  have eD : decF l = (if 0 < l'.length then note y sEnd 12 else y) := by
    unfold decF decS
    rw [hS]
    rfl
  rw [← eD] at hE3
  dsimp only [Rq.cells]
  rcases hX : decF l with _ | z
  · rw [hX] at hE3
    obtain ⟨rfl, rfl⟩ := hE3
    refine KO.permS (σ' := [(b4, cl [.int .i64 r.op, .int .u64 (r.tok : Int), .int .i64 r.unit, .int .i64 r.dir, .int .i64 r.fx, .int .i64 r.fy, .int .i64 r.tx, .int .i64 r.ty] 26), (b2, cl [.int .i64 0, .int .u64 0, .int .i64 0, .int .i64 0, .int .i64 0, .int .i64 0, .int .i64 0, .int .i64 0] 26)]) (φ := (bf, cl [.string sReq, wv, rv, dv, .nilIface] 80) :: φ') (by classical exact List.perm_iff_count.2 (fun _ => by first | (simp only [List.count_append, List.count_cons, List.count_nil, List.append_assoc, List.cons_append, List.nil_append]; omega))) ?_
    repeat' (first | refine KW.seq ?_ | refine KW.region ?_ | refine KO.nil ?_ | refine At.then_normal ?_ | refine KW.skip ?_ | refine KW.ret ?_ | refine KW.cond_f rfl (by first | decide) ?_ | ((first | apply KO.val rfl rfl rfl ?kq ?_); (case kq => ((first | apply qt_ev rfl ?hi | ((first | apply qt_loadN rfl rfl ?hi rfl rfl rfl ?hm ?hc); (case hm => repeat (first | exact List.Mem.head _ )); (case hc => rfl)) | apply qt_nes rfl rfl rfl ?hi rfl (Or.inr ⟨rfl, rfl, rfl⟩)); (case hi => (intro h; (repeat' (first | with_reducible exact alln | with_reducible refine allc ?_ ?_ | with_reducible refine andi ?_ ?_)); all_goals (first | with_reducible rfl )))))) | (apply KO.store (i := _) rfl rfl rfl rfl rfl rfl rfl rfl ?hl ?sg ?hw ?ho ?hs; (case sg => first | exact (rfl : getI 1 _ = _) ); (case hl => rfl); (case hw => rfl); (case ho => rfl); (case hs => rfl)) | fail)
    ((first | apply At.done_ret ); (focus (repeat' (first | exact ResVs.nil' | apply ResVs.cons' | exact ResV.tmp' rfl | (apply ResV.cellN rfl ?hm rfl rfl rfl ?hc; (case hm => repeat (first | exact List.Mem.head _ | apply List.Mem.tail _ )); (case hc => rfl))))); dsimp only [resVal])
    refine ⟨[], List.nil_sublist _, ?_⟩
    unfold DecR
    rw [hX]
    unfold decS
    rw [hS]
    exact ⟨rfl, rfl⟩
  · rw [hX] at hE3
    obtain ⟨e1, e2, rfl, rfl⟩ := hE3
    refine KO.permS (σ' := (b4, cl [.int .i64 r.op, .int .u64 (r.tok : Int), .int .i64 r.unit, .int .i64 r.dir, .int .i64 r.fx, .int .i64 r.fy, .int .i64 r.tx, .int .i64 r.ty] 26) :: ((b2, cl [.int .i64 0, .int .u64 0, .int .i64 0, .int .i64 0, .int .i64 0, .int .i64 0, .int .i64 0, .int .i64 0] 26) :: [(e1, cl [.string sReq, .iface 100 (.pointer (some ⟨e2, 0, none⟩))] 108), (e2, cl [.string z.1, .iface 32 (.int .i64 z.2)] 108)])) (φ := (bf, cl [.string sReq, wv, rv, dv, .iface 100 (.pointer (some ⟨e1, 0, none⟩))] 80) :: φ') (by classical exact List.perm_iff_count.2 (fun _ => by first | (simp only [List.count_append, List.count_cons, List.count_nil, List.append_assoc, List.cons_append, List.nil_append]; omega))) ?_
    repeat' (first | refine KW.seq ?_ | refine KW.region ?_ | refine KO.nil ?_ | refine At.then_normal ?_ | refine KW.ret ?_ | refine At.then_ret ?_ | refine KW.cond_t rfl (by first | decide) ?_ | ((first | apply KO.val rfl rfl rfl ?kq ?_); (case kq => ((first | apply qt_ev rfl ?hi | apply qt_build rfl rfl ?hi rfl | apply qt_nes rfl rfl rfl ?hi rfl (Or.inl rfl) ); (case hi => (intro h; (repeat' (first | with_reducible exact alln | with_reducible refine allc ?_ ?_ | with_reducible refine andi ?_ ?_)); all_goals (first | with_reducible rfl )))))) | (apply KO.store (i := _) rfl rfl rfl rfl rfl rfl rfl rfl ?hl ?sg ?hw ?ho ?hs; (case sg => first | exact (rfl : getI 1 _ = _) ); (case hl => rfl); (case hw => rfl); (case ho => rfl); (case hs => rfl)) | fail)
    ((first | apply At.done_ret ); (focus (repeat' (first | exact ResVs.nil' | apply ResVs.cons' | exact ResV.tmp' rfl | (apply ResV.cellN rfl ?hm rfl rfl rfl ?hc; (case hm => repeat (first | exact List.Mem.head _ | apply List.Mem.tail _ )); (case hc => rfl))))); dsimp only [resVal])
    refine ⟨[(e1, cl [.string sReq, .iface 100 (.pointer (some ⟨e2, 0, none⟩))] 108), (e2, cl [.string z.1, .iface 32 (.int .i64 z.2)] 108)], List.Sublist.cons _ (List.Sublist.cons _ (List.Sublist.refl _)), ?_⟩
    unfold DecR
    rw [hX]
    exact ⟨_, _, ⟨e1, e2, rfl, rfl⟩, rfl, rfl⟩
end Go.Proofs.YtnaclkdjchnbpaaDoor
end
section
namespace Go.Proofs.YtnaclkdjchnbpaaDoor
open Go Go.K

/-- A response. -/
structure Rs where
  st : Int
  op : Int
  tok : Nat
  unit : Int
  ax : Int
  ay : Int
  new : Int
  expl : Int
  ver : Int
  hit : Bool
  cost : Nat
  settled : Int
  left : Int
  mv : Value
  units : Int
  cache : Int
  sess : Int
def Rs.cells (r : Rs) : List Value := [.int .i64 r.st, .int .i64 r.op, .int .u64 (r.tok : Int), .int .i64 r.unit, .int .i64 r.ax, .int .i64 r.ay, .int .i64 r.new, .int .i64 r.expl, .int .i64 r.ver, .bool r.hit, .int .u64 (r.cost : Int), .int .i64 r.settled, .int .i64 r.left, r.mv, .int .i64 r.units, .int .i64 r.cache, .int .i64 r.sess]
def bodyB (op st : Int) : Bool := decide (op ≠ 255) && (decide (st = 0) || (decide (op = 4 ∨ op = 5) && decide (st = 22 ∨ st = 23)))
def stepF (md : Md) (x : Flt) (name : ByteArray) (b : Bool) : Md × Flt × Bool :=
  let a := stepN md x name (if b then 1 else 0) 1
  (a.1, if 1 < a.2.2 then note a.2.1 name 11 else a.2.1, decide (a.2.2 = 1))
theorem flag_p (β : Nat → Option Obj) (bf bn : Nat) (cs : List Value) (t : TypeId) (on : Nat) (what name : ByteArray) (md : Md) (x : Flt) (σ : Heap) (hf : FormB β bf what md x σ) (hm : md.len ≤ 900000) (b : Bool) (hx : cs[on]? = some (.bool b)) :
    Go.K.Tr Tryd.prog 71 [.pointer (some ⟨bf, 0, none⟩), .string name, .pointer (some ⟨bn, on, none⟩)] β ((bn, cl cs t) :: σ) (fun _ σ' => ∃ s, FormB β bf what (stepF md x name b).1 (stepF md x name b).2.1 s ∧ σ' = (bn, cl (cs.set on (.bool (stepF md x name b).2.2)) t) :: s) := by
  have hlt : on < cs.length := (List.getElem?_eq_some_iff.1 hx).1
  refine Tr.sub ?_
  refine Tr.of_body Tryd.tt (args := [.pointer (some ⟨bf, 0, none⟩), .string name, .pointer (some ⟨bn, on, none⟩)]) (fr := [(0, true, .pointer (some ⟨bf, 0, none⟩)), (1, true, .string name), (2, true, .pointer (some ⟨bn, on, none⟩))]) Tryd.func71 rfl (by decide) rfl Tryd.ntmps71 rfl rfl ?_
  intro E hE
  subst hE
  have k1 : ∀ (q : Nat × Obj), Cel E.β (q :: ((bn, cl cs t) :: σ)) bn on (.bool b) := fun q => .inl ⟨cs, t, List.Mem.tail _ (List.Mem.head _), hx⟩
  repeat' (first | refine KW.seq ?_ | refine KW.region ?_ | refine KO.nil ?_ | refine At.then_normal ?_ | refine KW.skip ?_ | ((first | apply KO.val rfl rfl rfl ?kq ?_); (case kq => ((first | apply qt_ev rfl ?hi ); (case hi => (intro h; (repeat' (first | with_reducible exact alln | with_reducible refine allc ?_ ?_ )); all_goals (first | with_reducible rfl )))))) | (refine KO.alloc rfl rfl rfl rfl rfl rfl ?_; intro _ _) | (apply KO.store (i := _) rfl rfl rfl rfl rfl rfl rfl rfl ?hl ?sg ?hw ?ho ?hs; (case sg => first | exact (rfl : getI 0 _ = _) ); (case hl => rfl); (case hw => rfl); (case ho => rfl); (case hs => rfl)) | (refine KW.cond rfl ?_ ?_ <;> (intro hc; try simp only [kBool] at hc)) | ((first | apply KO.val (g := true) rfl rfl rfl); (first | (apply qt_load1_cel rfl rfl ?hi rfl rfl ?hc; (case hc => first | exact fun _ => (k1 _)))); (case hi => (first | exact fun _ => rfl ))) | fail)
  · rename_i b6 _
    subst hc
    refine KO.callF ((b6, cl [.int .i64 1] 3) :: σ) [(bn, cl cs t)] (by classical exact List.perm_iff_count.2 (fun _ => by first | (simp only [List.count_append, List.count_cons, List.count_nil, List.append_assoc, List.cons_append, List.nil_append]; omega))) rfl rfl rfl rfl rfl rfl rfl (number_p _ bf b6 [.int .i64 1] 3 0 what name md x σ hf (by omega) 1 1 rfl) ?_
    rintro _ _ ⟨s, hs, rfl⟩
    rcases hN : stepN md x name 1 1 with ⟨m1, x1, n1⟩
    rw [hN] at hs
    dsimp only at hs
    have e : stepF md x name true = (m1, if 1 < n1 then note x1 name 11 else x1, decide (n1 = 1)) := by
      show ((stepN md x name 1 1).1, (if 1 < (stepN md x name 1 1).2.2 then note (stepN md x name 1 1).2.1 name 11 else (stepN md x name 1 1).2.1), decide ((stepN md x name 1 1).2.2 = 1)) = _
      rw [hN]
    rw [e]
    obtain ⟨wv, rv, dv, ev, φ, ε, hF, hE, rfl⟩ := hs
    refine KO.perm (σ' := (bn, cl cs t) :: ((b6, cl [.int .i64 n1] 3) :: ((bf, cl [.string what, wv, rv, dv, ev] 80) :: (ε ++ φ)))) ?_ ?_
    · show List.Perm ((b6, cl [.int .i64 n1] 3) :: ((bf, cl [.string what, wv, rv, dv, ev] 80) :: (ε ++ φ)) ++ [(bn, cl cs t)]) _
      exact (by classical exact List.perm_iff_count.2 (fun _ => by first | (simp only [List.count_append, List.count_cons, List.count_nil, List.append_assoc, List.cons_append, List.nil_append]; omega)))
    repeat' (first | refine KW.seq ?_ | refine KW.region ?_ | refine KO.nil ?_ | refine At.then_normal ?_ | refine KW.skip ?_ | ((first | apply KO.val rfl rfl rfl ?kq ?_); (case kq => ((first | apply qt_ev rfl ?hi | ((first | apply qt_load1 rfl rfl ?hi rfl rfl ?hm ?hc ); (case hm => repeat (first | exact List.Mem.head _ | apply List.Mem.tail _ )); (case hc => rfl)) ); (case hi => (intro h; (repeat' (first | with_reducible exact alln | with_reducible refine allc ?_ ?_ )); all_goals (first | with_reducible rfl )))))) | (refine KW.cond rfl ?_ ?_ <;> (intro hc; try simp only [kBool] at hc)) | fail)
    · have htr := trivial
      refine KO.callF ((bf, cl [.string what, wv, rv, dv, ev] 80) :: (ε ++ φ)) [(bn, cl cs t), (b6, cl [.int .i64 n1] 3)] (by classical exact List.perm_iff_count.2 (fun _ => by first | (simp only [List.count_append, List.count_cons, List.count_nil, List.append_assoc, List.cons_append, List.nil_append]; omega))) rfl rfl rfl rfl rfl rfl rfl (wrong_p _ bf name what 11 wv rv dv ev x1 ε φ hE) ?_
      rintro _ _ ⟨ev', ε', hE', rfl⟩
      refine KO.perm (σ' := (bn, cl cs t) :: ((b6, cl [.int .i64 n1] 3) :: ((bf, cl [.string what, wv, rv, dv, ev'] 80) :: (ε' ++ φ)))) (by classical exact List.perm_iff_count.2 (fun _ => by first | (simp only [List.count_append, List.count_cons, List.count_nil, List.append_assoc, List.cons_append, List.nil_append]; omega))) ?_
      repeat' (first | refine KW.region ?_ | refine KO.nil ?_ | ((first | apply KO.val rfl rfl rfl ?kq ?_); (case kq => ((first | apply qt_ev rfl ?hi | ((first | apply qt_load1 rfl rfl ?hi rfl rfl ?hm ?hc ); (case hm => repeat (first | exact List.Mem.head _ | apply List.Mem.tail _ )); (case hc => rfl)) ); (case hi => (intro h; (repeat' (first | with_reducible exact alln | with_reducible refine allc ?_ ?_ )); all_goals (first | with_reducible rfl )))))) | fail)
      refine KO.storeW (i := 0) (vs := [_]) (cs' := cs.set on (.bool (decide (n1 = 1)))) rfl rfl rfl rfl rfl rfl rfl rfl rfl rfl (wr_set hlt) rfl ?_
      repeat' (first | refine KO.nil ?_ | fail)
      refine At.end0 ⟨_, List.Sublist.cons_cons _ (List.Sublist.cons _ (List.Sublist.refl _)), _, ⟨wv, rv, dv, ev', φ, ε', hF, ?_, rfl⟩, rfl⟩
      rw [if_pos (by assumption)]
      exact hE'
    · have htr := trivial
      refine KO.storeW (i := 0) (vs := [_]) (cs' := cs.set on (.bool (decide (n1 = 1)))) rfl rfl rfl rfl rfl rfl rfl rfl rfl rfl (wr_set hlt) rfl ?_
      repeat' (first | refine KO.nil ?_ | fail)
      refine At.end0 ⟨_, List.Sublist.cons_cons _ (List.Sublist.cons _ (List.Sublist.refl _)), _, ⟨wv, rv, dv, ev, φ, ε, hF, ?_, rfl⟩, rfl⟩
      rw [if_neg (by omega)]
      exact hE
  · rename_i b6 _
    subst hc
    refine KO.callF ((b6, cl [.int .i64 0] 3) :: σ) [(bn, cl cs t)] (by classical exact List.perm_iff_count.2 (fun _ => by first | (simp only [List.count_append, List.count_cons, List.count_nil, List.append_assoc, List.cons_append, List.nil_append]; omega))) rfl rfl rfl rfl rfl rfl rfl (number_p _ bf b6 [.int .i64 0] 3 0 what name md x σ hf (by omega) 0 1 rfl) ?_
    rintro _ _ ⟨s, hs, rfl⟩
    rcases hN : stepN md x name 0 1 with ⟨m1, x1, n1⟩
    rw [hN] at hs
    dsimp only at hs
    have e : stepF md x name false = (m1, if 1 < n1 then note x1 name 11 else x1, decide (n1 = 1)) := by
      show ((stepN md x name 0 1).1, (if 1 < (stepN md x name 0 1).2.2 then note (stepN md x name 0 1).2.1 name 11 else (stepN md x name 0 1).2.1), decide ((stepN md x name 0 1).2.2 = 1)) = _
      rw [hN]
    rw [e]
    obtain ⟨wv, rv, dv, ev, φ, ε, hF, hE, rfl⟩ := hs
    refine KO.perm (σ' := (bn, cl cs t) :: ((b6, cl [.int .i64 n1] 3) :: ((bf, cl [.string what, wv, rv, dv, ev] 80) :: (ε ++ φ)))) ?_ ?_
    · show List.Perm ((b6, cl [.int .i64 n1] 3) :: ((bf, cl [.string what, wv, rv, dv, ev] 80) :: (ε ++ φ)) ++ [(bn, cl cs t)]) _
      exact (by classical exact List.perm_iff_count.2 (fun _ => by first | (simp only [List.count_append, List.count_cons, List.count_nil, List.append_assoc, List.cons_append, List.nil_append]; omega)))
    repeat' (first | refine KW.seq ?_ | refine KW.region ?_ | refine KO.nil ?_ | refine At.then_normal ?_ | refine KW.skip ?_ | ((first | apply KO.val rfl rfl rfl ?kq ?_); (case kq => ((first | apply qt_ev rfl ?hi | ((first | apply qt_load1 rfl rfl ?hi rfl rfl ?hm ?hc ); (case hm => repeat (first | exact List.Mem.head _ | apply List.Mem.tail _ )); (case hc => rfl)) ); (case hi => (intro h; (repeat' (first | with_reducible exact alln | with_reducible refine allc ?_ ?_ )); all_goals (first | with_reducible rfl )))))) | (refine KW.cond rfl ?_ ?_ <;> (intro hc; try simp only [kBool] at hc)) | fail)
    · have htr := trivial
      refine KO.callF ((bf, cl [.string what, wv, rv, dv, ev] 80) :: (ε ++ φ)) [(bn, cl cs t), (b6, cl [.int .i64 n1] 3)] (by classical exact List.perm_iff_count.2 (fun _ => by first | (simp only [List.count_append, List.count_cons, List.count_nil, List.append_assoc, List.cons_append, List.nil_append]; omega))) rfl rfl rfl rfl rfl rfl rfl (wrong_p _ bf name what 11 wv rv dv ev x1 ε φ hE) ?_
      rintro _ _ ⟨ev', ε', hE', rfl⟩
      refine KO.perm (σ' := (bn, cl cs t) :: ((b6, cl [.int .i64 n1] 3) :: ((bf, cl [.string what, wv, rv, dv, ev'] 80) :: (ε' ++ φ)))) (by classical exact List.perm_iff_count.2 (fun _ => by first | (simp only [List.count_append, List.count_cons, List.count_nil, List.append_assoc, List.cons_append, List.nil_append]; omega))) ?_
      repeat' (first | refine KW.region ?_ | refine KO.nil ?_ | ((first | apply KO.val rfl rfl rfl ?kq ?_); (case kq => ((first | apply qt_ev rfl ?hi | ((first | apply qt_load1 rfl rfl ?hi rfl rfl ?hm ?hc ); (case hm => repeat (first | exact List.Mem.head _ | apply List.Mem.tail _ )); (case hc => rfl)) ); (case hi => (intro h; (repeat' (first | with_reducible exact alln | with_reducible refine allc ?_ ?_ )); all_goals (first | with_reducible rfl )))))) | fail)
      refine KO.storeW (i := 0) (vs := [_]) (cs' := cs.set on (.bool (decide (n1 = 1)))) rfl rfl rfl rfl rfl rfl rfl rfl rfl rfl (wr_set hlt) rfl ?_
      repeat' (first | refine KO.nil ?_ | fail)
      refine At.end0 ⟨_, List.Sublist.cons_cons _ (List.Sublist.cons _ (List.Sublist.refl _)), _, ⟨wv, rv, dv, ev', φ, ε', hF, ?_, rfl⟩, rfl⟩
      rw [if_pos (by assumption)]
      exact hE'
    · have htr := trivial
      refine KO.storeW (i := 0) (vs := [_]) (cs' := cs.set on (.bool (decide (n1 = 1)))) rfl rfl rfl rfl rfl rfl rfl rfl rfl rfl (wr_set hlt) rfl ?_
      repeat' (first | refine KO.nil ?_ | fail)
      refine At.end0 ⟨_, List.Sublist.cons_cons _ (List.Sublist.cons _ (List.Sublist.refl _)), _, ⟨wv, rv, dv, ev, φ, ε, hF, ?_, rfl⟩, rfl⟩
      rw [if_neg (by omega)]
      exact hE
theorem body_p (β : Nat → Option Obj) (r : Rs) : Go.K.Tr Tryd.prog 61 [.agg r.cells.toArray] β [] (fun v s => v = .bool (bodyB r.op r.st) ∧ s = []) := by
  refine Tr.sub ?_
  refine Tr.of_body Tryd.tt (args := [.agg r.cells.toArray]) (fr := [(0, true, .agg r.cells.toArray)]) Tryd.func61 rfl (by decide) rfl Tryd.ntmps61 rfl rfl ?_
  intro E hE
  subst hE
  dsimp only [Rs.cells]
  repeat' (first | refine KW.seq ?_ | refine KW.region ?_ | refine KO.nil ?_ | refine At.then_normal ?_ | refine KW.ret ?_ | ((first | apply KO.val rfl rfl rfl ?kq ?_ | apply KO.valIn rfl rfl rfl ?kq ?_); (case kq => ((first | apply qt_ev rfl ?hi | ((first | apply qt_load1 rfl rfl ?hi rfl rfl ?hm ?hc ); (case hm => repeat (first | exact List.Mem.head _ )); (case hc => rfl)) | ((first | apply qt_pick_and rfl rfl rfl ?hi ?pj | apply qt_pick_or rfl rfl rfl ?hi ?pj); (case pj => (intro h h2; first | with_reducible exact h2 | with_reducible exact andi h h2 | (rw [h2]; rfl) | (rw [h, h2]; rfl) ))) ); (case hi => (intro h; (repeat' (first | with_reducible exact alln | with_reducible refine allc ?_ ?_ | with_reducible refine andi ?_ ?_)); all_goals (first | with_reducible rfl | with_reducible exact h | with_reducible exact andl h | with_reducible exact andr h | with_reducible exact andl (andl h) | (simp_all; done))))))) | (refine KO.box rfl rfl rfl rfl rfl rfl ?_; intro _ _) | fail)
  ((first | apply At.done_ret ); (focus (repeat' (first | exact ResVs.nil' | apply ResVs.cons' | exact ResV.tmp' rfl ))); dsimp only [resVal])
  refine ⟨[], List.nil_sublist _, ?_, rfl⟩
  unfold bodyB
  congr 1
  by_cases h1 : r.op = 255
  · simp [h1]
  · by_cases h2 : r.st = 0
    · simp [h1, h2]
    · simp [h1, h2]
end Go.Proofs.YtnaclkdjchnbpaaDoor
end
section
namespace Go.Proofs.YtnaclkdjchnbpaaDoor
open Go Go.K

theorem Equal8_p (β : Nat → Option Obj) (σ : Heap) (l1 l2 : List Nat) (p q : Option Addr) (c d m n : Nat) (hm : l1.length = m) (hn : l2.length = n) (hp : SL β σ 1 m (by8 l1) p) (hq : SL β σ 1 n (by8 l2) q) (hb : m ≤ 1000000) (hb2 : n ≤ 1000000) :
    Go.K.Tr Tryd.prog 44 [.slice p m c, .slice q n d] β σ (fun v σ' => v = .bool (decide (l1 = l2)) ∧ σ' = σ) := by
  refine Tr.of_body Tryd.tt (args := [.slice p m c, .slice q n d]) (fr := [(0, true, .slice p m c), (1, true, .slice q n d)]) Tryd.func44 rfl (by decide) rfl Tryd.ntmps44 rfl rfl ?_
  intro E hE
  subst hE
  by_cases hmn : m = n
  · subst hmn
    have htr := trivial
    repeat' (first | refine KW.seq ?_ | refine KW.region ?_ | refine KO.nil ?_ | refine At.then_normal ?_ | refine KW.skip ?_ | refine KW.ret ?_ | refine At.then_ret ?_ | refine KW.block ?_ | ((first | apply KO.val rfl rfl rfl ?kq ?_ ); (case kq => ((first | apply qt_ev rfl ?hi ); (case hi => (intro h; (repeat' (first | with_reducible exact alln | with_reducible refine allc ?_ ?_ )); all_goals (first | with_reducible rfl )))))) | (refine KW.cond rfl ?_ ?_ <;> (intro hc; try simp only [kBool] at hc)) | exact absurd trivial ‹¬True› | fail)
    refine KW.loop (fun j : Nat => j ≤ m ∧ l1.take j = l2.take j) (fun j => ([(13, true, .int .i64 (j : Int)), (12, true, .int .i64 (m : Int)), (0, true, .slice p m c), (1, true, .slice q m d)], σ)) (fun j => m - j) 0
      ⟨Nat.zero_le _, by simp⟩ (Le.perm (by repeat' (first | exact FLe.nil _ | refine FLe.cons rfl rfl ?_)) (by classical exact List.perm_iff_count.2 (fun _ => by first | (simp only [List.count_append, List.count_cons, List.count_nil, List.append_assoc, List.cons_append, List.nil_append]; done) ))) ?_
    rintro j ⟨hj, he⟩
    dsimp only
    by_cases hjn : j < m
    · obtain ⟨b1, o1, rfl, h1⟩ := hp.2 (by omega)
      obtain ⟨b2, o2, rfl, h2⟩ := hq.2 (by omega)
      obtain ⟨x, hx⟩ : ∃ z, l1[j]? = some z := ⟨_, List.getElem?_eq_getElem (by omega)⟩
      obtain ⟨u, hu⟩ : ∃ z, l2[j]? = some z := ⟨_, List.getElem?_eq_getElem (by omega)⟩
      repeat' (first | refine KW.seq ?_ | refine KW.region ?_ | refine KO.nil ?_ | refine At.then_normal ?_ | refine KW.skip ?_ | refine KW.ret ?_ | refine At.then_ret ?_ | refine KW.block ?_ | refine KW.exit ?_ | refine At.block_ret ?_ | refine At.loop_ret ?_ | refine KW.drawU rfl (by decide +kernel) ?_ | refine KD.zero ?_ | ((first | apply KO.val rfl rfl rfl ?kq ?_ | apply KD.val rfl rfl rfl ?kq ?_); (case kq => ((first | ((first | apply qt_add rfl rfl rfl ?hi ?om | apply qt_indexAddr_slice rfl rfl rfl ?hi rfl rfl ?om); (case om => (intro hg; first | omega ))) | apply qt_ev rfl ?hi ); (case hi => (intro h; (repeat' (first | with_reducible exact alln | with_reducible refine allc ?_ ?_ | with_reducible refine andi ?_ ?_)); all_goals (first | with_reducible rfl )))))) | (refine KW.cond rfl ?_ ?_ <;> (intro hc; try simp only [kBool] at hc)) | (exfalso; omega) | ((first | apply KD.val (g := true) rfl rfl rfl ); (first | (apply qt_load1_cel rfl rfl ?hi rfl rfl ?hc; (case hc => first | exact fun _ => (cel8 h1 hx) | exact fun _ => (cel8 h2 hu)))); (case hi => (first | exact fun _ => rfl ))) | fail)
      · ((first | apply At.done_ret ); (focus (repeat' (first | exact ResVs.nil' | apply ResVs.cons' | exact ResV.tmp' rfl ))); dsimp only [resVal])
        have : l1 ≠ l2 := fun e => by
          subst e
          rw [hx] at hu
          simp only [Option.some.injEq] at hu
          omega
        simp [this]
      · have hxu : x = u := by omega
        subst hxu
        refine At.loop_on (j + 1) ⟨by omega, ?_⟩ (by omega) (Le.perm (by repeat' (first | exact FLe.nil _ | refine FLe.cons rfl rfl ?_)) (by classical exact List.perm_iff_count.2 (fun _ => by first | (simp only [List.count_append, List.count_cons, List.count_nil, List.append_assoc, List.cons_append, List.nil_append]; done) )))
        rw [List.take_add_one, List.take_add_one, he, hx, hu]
    · have htr := trivial
      repeat' (first | refine KW.seq ?_ | refine KW.region ?_ | refine KO.nil ?_ | refine At.then_normal ?_ | refine KW.skip ?_ | refine KW.ret ?_ | refine KW.block ?_ | refine KW.exit ?_ | refine KW.drawU rfl (by decide +kernel) ?_ | ((first | apply KO.val rfl rfl rfl ?kq ?_ | apply KD.val rfl rfl rfl ?kq ?_); (case kq => ((first | apply qt_ev rfl ?hi ); (case hi => (intro h; (repeat' (first | with_reducible exact alln | with_reducible refine allc ?_ ?_ )); all_goals (first | with_reducible rfl )))))) | (refine KW.cond rfl ?_ ?_ <;> (intro hc; try simp only [kBool] at hc)) | (exfalso; omega) | fail)
      ((first | apply At.done_ret ); (focus (repeat' (first | exact ResVs.nil' | apply ResVs.cons' | exact ResV.tmp' rfl ))); dsimp only [resVal])
      rw [List.take_of_length_le (by omega), List.take_of_length_le (by omega)] at he
      simp [he]
  · have htr := trivial
    repeat' (first | refine KW.seq ?_ | refine KW.region ?_ | refine KO.nil ?_ | refine At.then_normal ?_ | refine KW.skip ?_ | refine KW.ret ?_ | refine At.then_ret ?_ | refine KW.block ?_ | ((first | apply KO.val rfl rfl rfl ?kq ?_ ); (case kq => ((first | apply qt_ev rfl ?hi ); (case hi => (intro h; (repeat' (first | with_reducible exact alln | with_reducible refine allc ?_ ?_ )); all_goals (first | with_reducible rfl )))))) | (refine KW.cond rfl ?_ ?_ <;> (intro hc; try simp only [kBool] at hc)) | (exfalso; omega) | fail)
    ((first | apply At.done_ret ); (focus (repeat' (first | exact ResVs.nil' | apply ResVs.cons' | exact ResV.tmp' rfl ))); dsimp only [resVal])
    have : l1 ≠ l2 := fun e => by subst e; omega
    simp [this]
/-- Whether two responses are the same, but for their moves; and the moves. -/
def Rs.eqB (a b : Rs) (m : Bool) : Bool :=
  m && decide (a.st = b.st) && decide (a.op = b.op) && decide ((a.tok : Int) = (b.tok : Int)) && decide (a.unit = b.unit) && (decide (a.ax = b.ax) && decide (a.ay = b.ay)) && decide (a.new = b.new) && decide (a.expl = b.expl) && decide (a.ver = b.ver) && (a.hit == b.hit) && decide ((a.cost : Int) = (b.cost : Int)) && decide (a.settled = b.settled) && decide (a.left = b.left) && decide (a.units = b.units) && decide (a.cache = b.cache) && decide (a.sess = b.sess)
set_option maxRecDepth 8000 in
set_option maxHeartbeats 4000000 in
theorem Same_p (β : Nat → Option Obj) (a b : Rs) (l1 l2 : List Nat) (p q : Option Addr) (c d m n : Nat) (ha : a.mv = .slice p m c) (hb : b.mv = .slice q n d) (hm : l1.length = m) (hn : l2.length = n) (hp : SL β [] 1 m (by8 l1) p) (hq : SL β [] 1 n (by8 l2) q) (hb1 : m ≤ 1000000) (hb2 : n ≤ 1000000) :
    Go.K.Tr Tryd.prog 19 [.agg a.cells.toArray, .agg b.cells.toArray] β [] (fun v s => v = .bool (a.eqB b (decide (l1 = l2))) ∧ s = []) := by
  refine Tr.sub ?_
  refine Tr.of_body Tryd.tt (args := [.agg a.cells.toArray, .agg b.cells.toArray]) (fr := [(0, true, .agg a.cells.toArray), (1, true, .agg b.cells.toArray)]) Tryd.func19 rfl (by decide) rfl Tryd.ntmps19 rfl rfl ?_
  intro E hE
  subst hE
  dsimp only [Rs.cells]
  rw [ha, hb]
  obtain ⟨z, hz⟩ : ∃ z, z = decide (l1 = l2) := ⟨_, rfl⟩
  have hE := fun σ => Equal8_p E.β σ l1 l2 p q c d m n hm hn (hp.mono (fun _ h => by cases h)) (hq.mono (fun _ h => by cases h)) hb1 hb2
  rw [← hz] at hE ⊢
  repeat' (first | refine KW.seq ?_ | refine KW.region ?_ | refine KO.nil ?_ | refine At.then_normal ?_ | refine KW.ret ?_ | ((first | apply KO.val rfl rfl rfl ?kq ?_ ); (case kq => ((first | apply qt_ev rfl ?hi | ((first | apply qt_load1 rfl rfl ?hi rfl rfl ?hm ?hc | apply qt_loadN rfl rfl ?hi rfl rfl rfl ?hm ?hc); (case hm => repeat (first | exact List.Mem.head _ | apply List.Mem.tail _ )); (case hc => rfl)) | refine qt_callQ rfl rfl ?hi (fun hg => hE _) | ((first | apply qt_pick_and rfl rfl rfl ?hi ?pj ); (case pj => (intro h h2; first | with_reducible exact h2 ))) | apply qt_eqs rfl rfl rfl ?hi rfl (Or.inl rfl) ); (case hi => (intro h; (repeat' (first | with_reducible exact alln | with_reducible refine allc ?_ ?_ | with_reducible refine andi ?_ ?_)); all_goals (first | with_reducible rfl | with_reducible exact h | with_reducible exact andl h | with_reducible exact andr h | with_reducible exact andl (andl h) | (simp_all; done))))))) | (refine KO.box rfl rfl rfl rfl rfl rfl ?_; intro _ _) | (apply KO.store (i := _) rfl rfl rfl rfl rfl rfl rfl rfl ?hl ?sg ?hw ?ho ?hs; (case sg => first | exact (rfl : getI 0 _ = _) | exact (rfl : getI 1 _ = _) ); (case hl => rfl); (case hw => rfl); (case ho => rfl); (case hs => rfl)) | fail)
  ((first | apply At.done_ret ); (focus (repeat' (first | exact ResVs.nil' | apply ResVs.cons' | exact ResV.tmp' rfl ))); dsimp only [resVal])
  exact ⟨[], List.nil_sublist _, rfl, rfl⟩
end Go.Proofs.YtnaclkdjchnbpaaDoor
end
section
namespace Go.Proofs.YtnaclkdjchnbpaaDoor
open Go Go.K

theorem SL.nil8 (β : Nat → Option Obj) (σ : Heap) : SL β σ 1 0 (by8 []) none := ⟨rfl, fun h => by omega⟩
theorem same_p (β : Nat → Option Obj) (σ : Heap) (l1 l2 : List Nat) (p q : Option Addr) (c d m n : Nat) (hm : l1.length = m) (hn : l2.length = n) (hp : SL β σ 1 m (by8 l1) p) (hq : SL β σ 1 n (by8 l2) q) (hb : m ≤ 1000000) :
    Go.K.Tr Tryd.prog 14 [.slice p m c, .slice q n d] β σ (fun v σ' => v = .bool (decide (l1 = l2)) ∧ σ' = σ) := by
  refine Tr.of_body Tryd.tt (args := [.slice p m c, .slice q n d]) (fr := [(0, true, .slice p m c), (1, true, .slice q n d)]) Tryd.func14 rfl (by decide) rfl Tryd.ntmps14 rfl rfl ?_
  intro E hE
  subst hE
  repeat' (first | refine KW.seq ?_ | refine KW.region ?_ | refine KO.nil ?_ | refine At.then_normal ?_ | refine KW.skip ?_ | refine KW.ret ?_ | refine At.then_ret ?_ | refine KW.block ?_ | ((first | apply KO.val rfl rfl rfl ?kq ?_ ); (case kq => ((first | apply qt_ev rfl ?hi ); (case hi => (intro h; (repeat' (first | with_reducible exact alln | with_reducible refine allc ?_ ?_ )); all_goals (first | with_reducible rfl )))))) | (refine KW.cond rfl ?_ ?_ <;> (intro hc; try simp only [kBool] at hc)) | fail)
  · ((first | apply At.done_ret ); (focus (repeat' (first | exact ResVs.nil' | apply ResVs.cons' | exact ResV.tmp' rfl ))); dsimp only [resVal])
    have : l1 ≠ l2 := fun e => by subst e; omega
    simp [this]
  · have hnm : n = m := by omega
    subst hnm
    refine KW.loop (fun j : Nat => j ≤ n ∧ l1.take j = l2.take j) (fun j => ([(5, true, .int .i64 (j : Int)), (0, true, .slice p n c), (1, true, .slice q n d)], σ)) (fun j => n - j) 0
      ⟨by omega, by simp⟩ (Le.sub (FLe.cons rfl rfl (FLe.cons rfl rfl (FLe.cons rfl rfl (FLe.nil _)))) (List.Sublist.refl _)) ?_
    rintro j ⟨hj, he⟩
    dsimp only
    repeat' (first | refine KW.seq ?_ | refine KW.region ?_ | refine KO.nil ?_ | refine At.then_normal ?_ | refine KW.skip ?_ | refine KW.ret ?_ | refine At.then_ret ?_ | refine KW.block ?_ | refine KW.exit ?_ | refine At.block_ret ?_ | refine At.loop_ret ?_ | refine KW.drawU rfl (by decide +kernel) ?_ | refine KD.zero ?_ | ((first | apply KO.val rfl rfl rfl ?kq ?_ | apply KD.val rfl rfl rfl ?kq ?_); (case kq => ((first | ((first | apply qt_add rfl rfl rfl ?hi ?om | apply qt_indexAddr_slice rfl rfl rfl ?hi rfl rfl ?om); (case om => (intro hg; first | omega ))) | apply qt_ev rfl ?hi ); (case hi => (intro h; (repeat' (first | with_reducible exact alln | with_reducible refine allc ?_ ?_ | with_reducible refine andi ?_ ?_)); all_goals (first | with_reducible rfl )))))) | (refine KW.cond rfl ?_ ?_ <;> (intro hc; try simp only [kBool] at hc)) | ((have hjn : (0 : Int) ≤ j ∧ (j : Int) < n := by omega); (obtain ⟨b1, o1, rfl, h1⟩ := hp.2 (by omega)); (obtain ⟨b2, o2, rfl, h2⟩ := hq.2 (by omega)); (obtain ⟨x, hx⟩ : ∃ z, l1[j]? = some z := ⟨_, List.getElem?_eq_getElem (by omega)⟩); (obtain ⟨u, hu⟩ : ∃ z, l2[j]? = some z := ⟨_, List.getElem?_eq_getElem (by omega)⟩); clear hp hq) | ((first | apply KD.val (g := true) rfl rfl rfl ); (first | (apply qt_load1_cel rfl rfl ?hi rfl rfl ?hc; (case hc => first | exact fun _ => (cel8 h1 hx) | exact fun _ => (cel8 h2 hu)))); (case hi => (first | exact fun _ => rfl ))) | fail)
    · ((first | apply At.done_ret ); (focus (repeat' (first | exact ResVs.nil' | apply ResVs.cons' | exact ResV.tmp' rfl ))); dsimp only [resVal])
      have : l1 ≠ l2 := fun e => by
        subst e
        rw [hx] at hu
        simp only [Option.some.injEq] at hu
        omega
      simp [this]
    · have hxu : x = u := by omega
      subst hxu
      refine At.loop_on (j + 1) ⟨by omega, ?_⟩ (by omega) (Le.sub (FLe.cons rfl rfl (FLe.cons rfl rfl (FLe.cons rfl rfl (FLe.nil _)))) (List.Sublist.refl _))
      rw [List.take_add_one, List.take_add_one, he, hx, hu]
    · ((first | apply At.done_ret ); (focus (repeat' (first | exact ResVs.nil' | apply ResVs.cons' | exact ResV.tmp' rfl ))); dsimp only [resVal])
      have : j = n := by omega
      subst this
      rw [List.take_of_length_le (by omega), List.take_of_length_le (by omega)] at he
      simp [he]
theorem isOk_p (β : Nat → Option Obj) (f what : ByteArray) : Go.K.Tr Tryd.prog 13 [.nilIface, .agg #[.int .i64 0, .string f], .string what] β [] (fun v s => v = .bool true ∧ s = []) := by
  refine Tr.sub ?_
  refine Tr.of_body Tryd.tt (args := [.nilIface, .agg #[.int .i64 0, .string f], .string what]) (fr := [(0, true, .nilIface), (1, true, .agg #[.int .i64 0, .string f]), (2, true, .string what)]) Tryd.func13 rfl (by decide) rfl Tryd.ntmps13 rfl rfl ?_
  intro E hE
  subst hE
  repeat' (first | refine KW.seq ?_ | refine KW.region ?_ | refine KO.nil ?_ | refine At.then_normal ?_ | refine KW.ret ?_ | refine At.then_ret ?_ | refine KW.cond_t rfl (by first | decide) ?_ | ((first | apply KO.val rfl rfl rfl ?kq ?_ ); (case kq => ((first | apply qt_ev rfl ?hi | ((first | apply qt_load1 rfl rfl ?hi rfl rfl ?hm ?hc ); (case hm => repeat (first | exact List.Mem.head _ )); (case hc => rfl)) | apply qt_eqs rfl rfl rfl ?hi rfl (Or.inr ⟨rfl, rfl, rfl⟩) ); (case hi => (intro h; (repeat' (first | with_reducible exact alln | with_reducible refine allc ?_ ?_ | with_reducible refine andi ?_ ?_)); all_goals (first | with_reducible rfl )))))) | (refine KO.box rfl rfl rfl rfl rfl rfl ?_; intro _ _) | fail)
  ((first | apply At.done_ret ); (focus (repeat' (first | exact ResVs.nil' | apply ResVs.cons' | exact ResV.tmp' rfl ))); dsimp only [resVal])
  exact ⟨[], List.nil_sublist _, rfl, rfl⟩
/-- The error of a field, as a tree. -/
def ErrF (b c : Nat) (what n : ByteArray) (e : Int) : ErrT := .fault b what (.fault c n (.code e))
theorem ErrF.trail (b c : Nat) (what n : ByteArray) (e : Int) : (ErrF b c what n e).trail = [what, n] := rfl
theorem ErrF.first (b c : Nat) (what n : ByteArray) (e : Int) : (ErrF b c what n e).first = e := rfl
theorem isBad_p (β : Nat → Option Obj) (hty : TBE β) (b c : Nat) (what n : ByteArray) (e : Int) (he : e ≠ 0) (hL : (ErrF b c what n e).Lies β []) :
    Go.K.Tr Tryd.prog 13 [.iface 100 (.pointer (some ⟨b, 0, none⟩)), .agg #[.int .i64 e, .string n], .string what] β [] (fun v s => v = .bool true ∧ s = []) := by
  refine Tr.sub ?_
  refine Tr.of_body Tryd.tt (args := [.iface 100 (.pointer (some ⟨b, 0, none⟩)), .agg #[.int .i64 e, .string n], .string what]) (fr := [(0, true, .iface 100 (.pointer (some ⟨b, 0, none⟩))), (1, true, .agg #[.int .i64 e, .string n]), (2, true, .string what)]) Tryd.func13 rfl (by decide) rfl Tryd.ntmps13 rfl rfl ?_
  intro E hE
  subst hE
  have hTr := Trail_p E.β _ hL
  have hCo := Code_p E.β hty _ hL
  rw [ErrF.trail] at hTr
  rw [ErrF.first] at hCo
  repeat' (first | refine KW.seq ?_ | refine KW.region ?_ | refine KO.nil ?_ | refine At.then_normal ?_ | refine KW.skip ?_ | refine KW.ret ?_ | refine At.then_ret ?_ | ((first | apply KO.val rfl rfl rfl ?kq ?_ ); (case kq => ((first | apply qt_ev rfl ?hi | ((first | apply qt_load1 rfl rfl ?hi rfl rfl ?hm ?hc ); (case hm => repeat (first | exact List.Mem.head _ )); (case hc => rfl)) | apply qt_eqs rfl rfl rfl ?hi rfl (Or.inl rfl) ); (case hi => (intro h; (repeat' (first | with_reducible exact alln | with_reducible refine allc ?_ ?_ | with_reducible refine andi ?_ ?_)); all_goals (first | with_reducible rfl )))))) | (refine KO.box rfl rfl rfl rfl rfl rfl ?_; intro _ _) | (refine KW.cond rfl ?_ ?_ <;> (intro hc; try simp only [kBool] at hc)) | (exfalso; omega) | fail)
  rename_i b4 _
  refine KO.callF [] [(b4, cl [.int .i64 e, .string n] 34)] (by classical exact List.perm_iff_count.2 (fun _ => by first | (simp only [List.count_append, List.count_cons, List.count_nil, List.append_assoc, List.cons_append, List.nil_append]; done) )) rfl rfl rfl rfl rfl rfl rfl hTr ?_
  rintro zT φT hT
  obtain ⟨pT, cT, rfl⟩ := hT.len
  have hS := fun (σ : Heap) (hm : ∀ q ∈ φT, q ∈ σ) => SL.ofVec (β := E.β) hT hm
  obtain ⟨bt, ot, rfl, ht⟩ := (hS φT (fun q h => h)).2 (Nat.succ_pos _)
  have h0 := fun (σ : Heap) (hm : ∀ q ∈ φT, q ∈ σ) => (ht 0 (.string what) rfl).mono hm
  have h1 := fun (σ : Heap) (hm : ∀ q ∈ φT, q ∈ σ) => (ht 1 (.string n) rfl).mono hm
  repeat' (first | refine KW.seq ?_ | refine KO.nil ?_ | refine At.then_normal ?_ | refine KW.ret ?_ | refine KW.drawU rfl (by decide +kernel) ?_ | refine KD.zero ?_ | ((first | apply KO.val rfl rfl rfl ?kq ?_ | apply KD.val rfl rfl rfl ?kq ?_ ); (case kq => ((first | ((first | apply qt_indexAddr_slice rfl rfl rfl ?hi rfl rfl ?om); (case om => (intro hg; first | (simp only [kBool] at hg; omega)))) | apply qt_ev rfl ?hi | ((first | apply qt_load1 rfl rfl ?hi rfl rfl ?hm ?hc ); (case hm => repeat (first | exact List.Mem.head _ | apply List.mem_append_right _)); (case hc => rfl)) | refine qt_callQ rfl rfl ?hi (fun hg => Tr.quiet hCo) | apply qt_streq rfl rfl rfl ?hi | ((first | apply qt_pick_and rfl rfl rfl ?hi ?pj ); (case pj => (intro h h2; first | with_reducible exact h2 ))) ); (case hi => (intro h; (repeat' (first | with_reducible exact alln | with_reducible refine allc ?_ ?_ | with_reducible refine andi ?_ ?_)); all_goals (first | with_reducible rfl | with_reducible exact h | with_reducible exact andl h | with_reducible exact andr h | with_reducible exact andl (andl h) | (simp [h]; done) )))))) | ((first | apply KD.val rfl rfl rfl ); (first | (apply qt_load1_cel rfl rfl ?hi rfl rfl ?hc; (case hc => first | exact fun _ => (h0 _ (fun q h => List.mem_append_left _ h)) | exact fun _ => (h1 _ (fun q h => List.mem_append_left _ h))))); (case hi => (first | (intro h; first | exact h )))) | fail)
  ((first | apply At.done_ret ); (focus (repeat' (first | exact ResVs.nil' | apply ResVs.cons' | exact ResV.tmp' rfl ))); dsimp only [resVal])
  exact ⟨[], List.nil_sublist _, by simp, rfl⟩
end Go.Proofs.YtnaclkdjchnbpaaDoor
end
section
namespace Go.Proofs.YtnaclkdjchnbpaaDoor
open Go Go.K

/-- Whether two responses are one, but for their moves; and the moves. -/
def Rs.eqC (a b : Rs) (m : Bool) : Bool :=
  decide (a.st = b.st) && decide (a.op = b.op) && decide ((a.tok : Int) = (b.tok : Int)) && decide (a.unit = b.unit) && (decide (a.ax = b.ax) && decide (a.ay = b.ay)) && decide (a.new = b.new) && decide (a.expl = b.expl) && decide (a.ver = b.ver) && (a.hit == b.hit) && decide ((a.cost : Int) = (b.cost : Int)) && decide (a.settled = b.settled) && decide (a.left = b.left) && m && decide (a.units = b.units) && decide (a.cache = b.cache) && decide (a.sess = b.sess)
theorem Rs.eqC_B (a b : Rs) (m : Bool) : a.eqC b m = a.eqB b m := by
  unfold Rs.eqC Rs.eqB
  cases m <;> simp
theorem Rs.eqC_self (a : Rs) : a.eqC a true = true := by
  unfold Rs.eqC
  simp
set_option maxRecDepth 8000 in
set_option maxHeartbeats 8000000 in
theorem one_p (β : Nat → Option Obj) (σ : Heap) (a b : Rs) (l1 l2 : List Nat) (p q : Option Addr) (c d m n : Nat) (ha : a.mv = .slice p m c) (hb : b.mv = .slice q n d) (hm : l1.length = m) (hn : l2.length = n) (hp : SL β σ 1 m (by8 l1) p) (hq : SL β σ 1 n (by8 l2) q) (hb1 : m ≤ 1000000) :
    Go.K.Tr Tryd.prog 20 [.agg a.cells.toArray, .agg b.cells.toArray] β σ (fun v s => v = .bool (a.eqC b (decide (l1 = l2))) ∧ s = σ) := by
  refine Tr.sub ?_
  refine Tr.of_body Tryd.tt (args := [.agg a.cells.toArray, .agg b.cells.toArray]) (fr := [(0, true, .agg a.cells.toArray), (1, true, .agg b.cells.toArray)]) Tryd.func20 rfl (by decide) rfl Tryd.ntmps20 rfl rfl ?_
  intro E hE
  subst hE
  dsimp only [Rs.cells]
  rw [ha, hb]
  obtain ⟨z, hz⟩ : ∃ z, z = decide (l1 = l2) := ⟨_, rfl⟩
  have hS := fun (σ' : Heap) (h : ∀ q ∈ σ, q ∈ σ') => same_p E.β σ' l1 l2 p q c d m n hm hn (hp.mono h) (hq.mono h) hb1
  rw [← hz] at hS ⊢
  repeat' (first | refine KW.seq ?_ | refine KW.region ?_ | refine KO.nil ?_ | refine At.then_normal ?_ | refine KW.skip ?_ | refine KW.ret ?_ | refine At.then_ret ?_ | refine KW.block ?_ | refine KW.exit ?_ | refine At.block_normal ?_ | refine At.block_ret ?_ | refine At.loop_ret ?_ | refine At.then_exit ?_ | refine At.block_here rfl ?_ | refine At.block_there rfl ?_ | refine At.loop_exit ?_ | refine At.cut_ret ?_ | refine At.cutA_ret ?_ | refine At.cutA_exit ?_ | refine At.cut_exit ?_ | (refine At.cut_same ?_; repeat' (first | exact FLe.nil _ | refine FLe.cons rfl rfl ?_)) | refine KW.cond_t rfl (by first | with_reducible rfl | decide) ?_ | refine KW.cond_f rfl (by first | with_reducible rfl | decide) ?_ | refine KW.scope ?_ | refine KW.label ?_ | refine At.scope_normal ?_ | refine At.scope_ret ?_ | refine At.scope_exit ?_ | refine KO.skip' rfl (by first | with_reducible rfl | decide) rfl rfl ?_ | refine KO.skip0' rfl (by first | with_reducible rfl | decide) rfl ?_ | refine KO.skipIn rfl (by first | with_reducible rfl | decide) rfl rfl ?_ | ((first | apply KO.val rfl rfl rfl ?kq ?_ | apply KO.valIn rfl rfl rfl ?kq ?_); (case kq => ((first | apply qt_ev rfl ?hi | ((first | apply qt_load1 rfl rfl ?hi rfl rfl ?hm ?hc | apply qt_loadN rfl rfl ?hi rfl rfl rfl ?hm ?hc); (case hm => repeat (first | exact List.Mem.head _ | apply List.Mem.tail _ | apply List.mem_append_right _)); (case hc => rfl)) | refine qt_callQ rfl rfl ?hi (fun hg => hS _ (fun q h => List.mem_cons_of_mem _ (List.mem_cons_of_mem _ h))) | apply qt_pick_t rfl rfl (by first | with_reducible rfl | decide) rfl ?hi | apply qt_pick_f rfl rfl (by first | with_reducible rfl | decide) rfl ?hi | ((first | apply qt_pick_and rfl rfl rfl ?hi ?pj | apply qt_pick_or rfl rfl rfl ?hi ?pj); (case pj => (intro h h2; first | with_reducible exact h2 | with_reducible exact andi h h2 | (rw [h2]; rfl) | (rw [h, h2]; rfl) | with_reducible rfl | (simp [h2]; done) | (simp_all; done)))) | apply qt_cap rfl rfl ?hi rfl | apply qt_eqs rfl rfl rfl ?hi rfl (Or.inl rfl) | apply qt_nes rfl rfl rfl ?hi rfl (Or.inl rfl)); (case hi => (intro h; (repeat' (first | with_reducible exact alln | with_reducible refine allc ?_ ?_ | with_reducible refine andi ?_ ?_)); all_goals (first | with_reducible rfl | with_reducible exact h | with_reducible exact andl h | with_reducible exact andr h | with_reducible exact andl (andl h) | (simp only [h, Bool.and_self]; done) | (simp [h]; done) | (simp_all; done))))))) | (refine KO.box rfl rfl rfl rfl rfl rfl ?_; intro _ _) | (refine KW.cond rfl ?_ ?_ <;> (intro hc; try simp only [kBool] at hc)) | exact absurd trivial ‹¬True› | fail)
  ((first | apply At.done_ret | apply At.done_normal); (focus (repeat' (first | exact ResVs.nil' | apply ResVs.cons' | exact ResV.tmp' rfl | (apply ResV.cell1 rfl ?hm rfl rfl ?hc; (case hm => repeat (first | exact List.Mem.head _ | apply List.Mem.tail _ | apply List.mem_append_right _)); (case hc => rfl)) | (apply ResV.cellN rfl ?hm rfl rfl rfl ?hc; (case hm => repeat (first | exact List.Mem.head _ | apply List.Mem.tail _ | apply List.mem_append_right _)); (case hc => rfl))))); dsimp only [resVal])
  exact ⟨σ, List.Sublist.cons _ (List.Sublist.cons _ (List.Sublist.refl _)), rfl, rfl⟩
end Go.Proofs.YtnaclkdjchnbpaaDoor
end
section
namespace Go.Proofs.YtnaclkdjchnbpaaDoor
open Go Go.K

def Rq.b : Rq := ⟨2, 1, 2, 1, 0, 0, 0, 0⟩
theorem I64_0 : I64 0 := by unfold I64; omega
theorem I64_1 : I64 1 := by unfold I64; omega
theorem I64_2 : I64 2 := by unfold I64; omega
theorem encF_a : encF Rq.zero = none := by rfl
theorem encB_a : encB Rq.zero = [0] := by rfl
theorem encF_b : encF Rq.b = none := by rfl
theorem encB_b : encB Rq.b = [2, 0, 0, 0, 0, 0, 0, 0, 1, 2, 1] := by rfl
theorem EncodeA_p (β : Nat → Option Obj) : Go.K.Tr Tryd.prog 10 [.agg #[.int .i64 0, .int .u64 0, .int .i64 0, .int .i64 0, .int .i64 0, .int .i64 0, .int .i64 0, .int .i64 0]] β [] (fun v σ => ∃ b, v = .tuple #[.slice (some ⟨b, 0, none⟩) 1 1, .nilIface] ∧ σ = [(b, cl (by8 [0]) 5)]) := by
  refine (Encode_p β Rq.zero ⟨I64_0, by decide, I64_0, I64_0, I64_0, I64_0, I64_0, I64_0⟩).mono ?_
  intro v σ h
  unfold EncR at h
  rw [encF_a, encB_a] at h
  exact h
theorem EncodeB_p (β : Nat → Option Obj) : Go.K.Tr Tryd.prog 10 [.agg #[.int .i64 2, .int .u64 1, .int .i64 2, .int .i64 1, .int .i64 0, .int .i64 0, .int .i64 0, .int .i64 0]] β [] (fun v σ => ∃ b, v = .tuple #[.slice (some ⟨b, 0, none⟩) 11 11, .nilIface] ∧ σ = [(b, cl (by8 [2, 0, 0, 0, 0, 0, 0, 0, 1, 2, 1]) 5)]) := by
  refine (Encode_p β Rq.b ⟨I64_2, by decide, I64_2, I64_1, I64_0, I64_0, I64_0, I64_0⟩).mono ?_
  intro v σ h
  unfold EncR at h
  rw [encF_b, encB_b] at h
  exact h
theorem awake_of (β : Nat → Option Obj) (hW : ∀ β : Nat → Option Obj, Go.K.Tr Tryd.prog 16 [.agg #[.int .i64 19, .int .i64 1, .int .u64 0, .int .i64 0, .int .i64 0, .int .i64 0, .int .i64 0, .int .i64 0, .int .i64 0, .bool false, .int .u64 0, .int .i64 0, .int .i64 0, .slice none 0 0, .int .i64 0, .int .i64 0, .int .i64 0]] β [] (fun v σ => ∃ b, v = .tuple #[.slice (some ⟨b, 0, none⟩) 2 2, .nilIface] ∧ σ = [(b, cl (by8 [19, 1]) 5)])) : Go.K.Tr Tryd.prog 15 [] β [] (fun z σ => z = .bool true ∧ σ = []) := by
  refine Tr.sub ?_
  refine Tr.of_body Tryd.tt (args := []) (fr := []) Tryd.func15 rfl (by decide) rfl Tryd.ntmps15 rfl rfl ?_
  intro E hE
  subst hE
  repeat' (first | refine KW.seq ?_ | refine KW.region ?_ | refine KO.nil ?_ | ((first | apply KO.val rfl rfl rfl ?kq ?_ ); (case kq => ((first | apply qt_ev rfl ?hi | apply qt_build rfl rfl ?hi rfl ); (case hi => (intro h; (repeat' (first | with_reducible exact alln | with_reducible refine allc ?_ ?_ )); all_goals (first | with_reducible rfl )))))) | fail)
  refine KO.callF [] [] (by classical exact List.perm_iff_count.2 (fun _ => by first | (simp only [List.count_append, List.count_cons, List.count_nil, List.append_assoc, List.cons_append, List.nil_append]; done) )) rfl rfl rfl rfl rfl rfl rfl (EncodeA_p _) ?_
  rintro _ _ ⟨b1, rfl, rfl⟩
  repeat' (first | refine KW.seq ?_ | refine KW.region ?_ | refine KO.nil ?_ | ((first | apply KO.val rfl rfl rfl ?kq ?_ ); (case kq => ((first | apply qt_ev rfl ?hi | apply qt_build rfl rfl ?hi rfl ); (case hi => (intro h; (repeat' (first | with_reducible exact alln | with_reducible refine allc ?_ ?_ )); all_goals (first | with_reducible rfl )))))) | fail)
  refine KO.callF [] [(b1, cl (by8 [0]) 5)] (by classical exact List.perm_iff_count.2 (fun _ => by first | (simp only [List.count_append, List.count_cons, List.count_nil, List.append_assoc, List.cons_append, List.nil_append]; done) )) rfl rfl rfl rfl rfl rfl rfl (EncodeB_p _) ?_
  rintro _ _ ⟨b2, rfl, rfl⟩
  repeat' (first | refine KW.seq ?_ | refine KW.region ?_ | refine KO.nil ?_ | ((first | apply KO.val rfl rfl rfl ?kq ?_ ); (case kq => ((first | apply qt_ev rfl ?hi | apply qt_build rfl rfl ?hi rfl ); (case hi => (intro h; (repeat' (first | with_reducible exact alln | with_reducible refine allc ?_ ?_ )); all_goals (first | with_reducible rfl )))))) | fail)
  refine KO.callF [] [(b2, cl (by8 [2, 0, 0, 0, 0, 0, 0, 0, 1, 2, 1]) 5), (b1, cl (by8 [0]) 5)] (by classical exact List.perm_iff_count.2 (fun _ => by first | (simp only [List.count_append, List.count_cons, List.count_nil, List.append_assoc, List.cons_append, List.nil_append]; done) )) rfl rfl rfl rfl rfl rfl rfl (hW _) ?_
  rintro _ _ ⟨b3, rfl, rfl⟩
  have hs := fun (σ : Heap) (b d : Nat) (l : List Nat) (h1 : (b, cl (by8 l) 5) ∈ σ) (h2 : (d, cl (by8 l) 5) ∈ σ) (hl : l.length ≤ 1000000) => same_p E.β σ l l (some ⟨b, 0, none⟩) (some ⟨d, 0, none⟩) l.length l.length l.length l.length rfl rfl (SL.ofBlk h1 (by simp [by8_len])) (SL.ofBlk h2 (by simp [by8_len])) hl
  simp only [decide_true] at hs
  repeat' (first | refine KW.seq ?_ | refine KW.region ?_ | refine KO.nil ?_ | ((first | apply KO.val rfl rfl rfl ?kq ?_ ); (case kq => ((first | apply qt_ev rfl ?hi | apply qt_pick_t rfl rfl (by first | with_reducible rfl ) rfl ?hi | apply qt_eqs rfl rfl rfl ?hi rfl (Or.inr ⟨rfl, rfl, rfl⟩) ); (case hi => (intro h; (repeat' (first | with_reducible exact alln | with_reducible refine allc ?_ ?_ | with_reducible refine andi ?_ ?_)); all_goals (first | with_reducible rfl )))))) | (refine KO.buildSlice rfl rfl rfl rfl rfl rfl rfl rfl rfl rfl rfl rfl rfl rfl ?_; intro _ _) | fail)
  rename_i c1 _
  repeat' (first | ((first | apply KO.val rfl rfl rfl ?kq ?_ ); (case kq => ((first | apply qt_ev rfl ?hi | refine qt_callQ rfl rfl ?hi (fun hg => hs _ b1 c1 [0] (by simp) (by simp [by8]) (by decide)) | apply qt_pick_t rfl rfl (by first | with_reducible rfl ) rfl ?hi ); (case hi => (intro h; (repeat' (first | with_reducible exact alln | with_reducible refine allc ?_ ?_ | with_reducible refine andi ?_ ?_)); all_goals (first | with_reducible rfl )))))) | (refine KO.buildSlice rfl rfl rfl rfl rfl rfl rfl rfl rfl rfl rfl rfl rfl rfl ?_; intro _ _) | fail)
  rename_i c2 _
  repeat' (first | ((first | apply KO.val rfl rfl rfl ?kq ?_ ); (case kq => ((first | apply qt_ev rfl ?hi | refine qt_callQ rfl rfl ?hi (fun hg => hs _ b2 c2 [2, 0, 0, 0, 0, 0, 0, 0, 1, 2, 1] (by simp) (by simp [by8]) (by decide)) | apply qt_pick_t rfl rfl (by first | with_reducible rfl ) rfl ?hi ); (case hi => (intro h; (repeat' (first | with_reducible exact alln | with_reducible refine allc ?_ ?_ | with_reducible refine andi ?_ ?_)); all_goals (first | with_reducible rfl )))))) | (refine KO.buildSlice rfl rfl rfl rfl rfl rfl rfl rfl rfl rfl rfl rfl rfl rfl ?_; intro _ _) | fail)
  rename_i c3 _
  repeat' (first | refine KO.nil ?_ | refine At.then_normal ?_ | refine KW.ret ?_ | ((first | apply KO.val rfl rfl rfl ?kq ?_ ); (case kq => ((first | apply qt_ev rfl ?hi | refine qt_callQ rfl rfl ?hi (fun hg => hs _ b3 c3 [19, 1] (by simp) (by simp [by8]) (by decide)) | apply qt_pick_t rfl rfl (by first | with_reducible rfl ) rfl ?hi ); (case hi => (intro h; (repeat' (first | with_reducible exact alln | with_reducible refine allc ?_ ?_ | with_reducible refine andi ?_ ?_)); all_goals (first | with_reducible rfl )))))) | fail)
  ((first | apply At.done_ret ); (focus (repeat' (first | exact ResVs.nil' | apply ResVs.cons' | exact ResV.tmp' rfl ))); dsimp only [resVal])
  exact ⟨[], List.nil_sublist _, rfl, rfl⟩
end Go.Proofs.YtnaclkdjchnbpaaDoor
end
section
namespace Go.Proofs.YtnaclkdjchnbpaaDoor
open Go Go.K

/-- A row of a table. -/
structure RowT where
  name : ByteArray
  size : Nat
  many : Nat
  ops : List Nat
def hasR (ops : List Nat) (op : Int) : Bool := ops.any fun b => decide ((b : Int) - 48 = op)
def asked : List RowT := [⟨sOp, 1, 1, [48, 49, 50, 51, 52, 53, 54]⟩, ⟨sToken, 8, 1, [49, 50, 51, 52, 53, 54]⟩, ⟨sUnit, 1, 1, [50]⟩, ⟨sDir, 1, 1, [50]⟩, ⟨sFrom, 2, 2, [52, 53]⟩, ⟨sTo, 2, 2, [52, 53]⟩]
def numsR (r : Rq) (n : ByteArray) : List Nat := if n = sOp then [u64 r.op] else if n = sToken then [r.tok] else if n = sUnit then [u64 r.unit] else if n = sDir then [u64 r.dir] else if n = sFrom then [u64 r.fx, u64 r.fy] else [u64 r.tx, u64 r.ty]
def layL (size : Nat) : List Nat → List Nat → Option (List Nat)
  | out, [] => some out
  | out, x :: l => if x / 2 ^ (8 * size) = 0 then layL size (out ++ bes x size size) l else none
def nought (l : List Nat) : Bool := l.all fun x => decide (x = 0)
/-- The rows that are laid, whatever a row's numbers are, and whether it is there. -/
def refE1 (has : RowT → Bool) (nums : RowT → List Nat) : List RowT → List Nat → Flt × List Nat
  | [], out => (none, out)
  | w :: ws, out => if has w then (match layL w.size out (nums w) with
      | none => (some (w.name, 10), [])
      | some o => refE1 has nums ws o) else refE1 has nums ws out
def refE2 (has : RowT → Bool) (nums : RowT → List Nat) (ws : List RowT) : Bool := ws.any fun w => !has w && !nought (nums w)
def hasO (o : Int) (w : RowT) : Bool := hasR w.ops o
def numsQ (r : Rq) (w : RowT) : List Nat := numsR r w.name
def fin (x : Flt × List Nat) (left : Bool) : Flt × List Nat := match x with
  | (some y, _) => (some y, [])
  | (none, o) => if left then (some (sEnd, 1), []) else (none, o)
def rEnc (r : Rq) : Flt × List Nat := if r.op < 0 ∨ 6 < r.op then (some (sOp, 18), []) else fin (refE1 (hasO r.op) (numsQ r) asked []) (refE2 (hasO r.op) (numsQ r) asked)
/-- One number put. -/
def putF1 (x : List Nat × Flt) (f : ByteArray × Nat × Nat) : List Nat × Flt := match x.2 with
  | some _ => x
  | none => if f.2.2 / 2 ^ (8 * f.2.1) = 0 then (x.1 ++ bes f.2.2 f.2.1 f.2.1, none) else (x.1, some (f.1, 10))
def putF (l : List (ByteArray × Nat × Nat)) (x : List Nat × Flt) : List Nat × Flt := l.foldl putF1 x
theorem putF_some (y : ByteArray × Int) (xs : List Nat) : ∀ l, putF l (xs, some y) = (xs, some y)
  | [] => rfl
  | _ :: l => putF_some y xs l
theorem putF_append (l l' : List (ByteArray × Nat × Nat)) (x : List Nat × Flt) : putF (l ++ l') x = putF l' (putF l x) := List.foldl_append
def ent (w : RowT) (ns : List Nat) : List (ByteArray × Nat × Nat) := ns.map fun n => (w.name, w.size, n)
def cutO (x : List Nat × Flt) : Flt × List Nat := match x.2 with
  | some y => (some y, [])
  | none => (none, x.1)
theorem layL_put (w : RowT) : ∀ (ns out : List Nat), (layL w.size out ns = none ∧ ∃ o, putF (ent w ns) (out, none) = (o, some (w.name, 10))) ∨ ∃ o, layL w.size out ns = some o ∧ putF (ent w ns) (out, none) = (o, none)
  | [], out => .inr ⟨out, rfl, rfl⟩
  | n :: ns, out => by
    by_cases h : n / 2 ^ (8 * w.size) = 0
    · have e1 : layL w.size out (n :: ns) = layL w.size (out ++ bes n w.size w.size) ns := by rw [layL, if_pos h]
      have e2 : putF (ent w (n :: ns)) (out, none) = putF (ent w ns) (out ++ bes n w.size w.size, none) := by
        show putF (ent w ns) (putF1 (out, none) (w.name, w.size, n)) = _
        simp only [putF1, h, if_true]
      rw [e1, e2]
      exact layL_put w ns _
    · refine .inl ⟨by rw [layL, if_neg h], out, ?_⟩
      show putF (ent w ns) (putF1 (out, none) (w.name, w.size, n)) = _
      simp only [putF1, h, if_false]
      exact putF_some _ _ _
theorem refE1_put (has : RowT → Bool) (nums : RowT → List Nat) : ∀ (ws : List RowT) (out : List Nat), refE1 has nums ws out = cutO (putF ((ws.filter has).flatMap fun w => ent w (nums w)) (out, none))
  | [], _ => rfl
  | w :: ws, out => by
    by_cases h : has w = true
    · rw [List.filter_cons, if_pos h, List.flatMap_cons, putF_append]
      unfold refE1
      rw [if_pos h]
      rcases layL_put w (nums w) out with ⟨e1, o, e2⟩ | ⟨o, e1, e2⟩
      · rw [e1, e2, putF_some]; rfl
      · rw [e1, e2]
        exact refE1_put has nums ws o
    · rw [List.filter_cons, if_neg h]
      unfold refE1
      rw [if_neg h]
      exact refE1_put has nums ws out
theorem u64_zero {n : Int} (h : I64 n) : (u64 n = 0) ↔ n = 0 := by
  unfold u64; unfold I64 at h; omega
theorem stepW_f (xs : List Nat) (x : Flt) (name : ByteArray) (X : Nat) (s : Nat) (h1 : 1 ≤ s) (h8 : s ≤ 8) (hX : X < 18446744073709551616) :
    stepW (.put xs) x name X s = (.put (putF1 (xs, x) (name, s, X)).1, (putF1 (xs, x) (name, s, X)).2, X) := by
  rcases x with _ | y
  · have hm : wMay (s : Int) = true := by simp only [wMay, Bool.and_eq_true, decide_eq_true_eq]; omega
    have e : putE X s = if X / 2 ^ (8 * s) = 0 then 0 else 10 := by
      unfold putE
      rw [if_pos hm, Int.toNat_natCast]
      by_cases h : s = 8
      · subst h
        have : X / 2 ^ (8 * 8) = 0 := Nat.div_eq_of_lt hX
        rw [if_neg (by omega), if_pos this]
      · by_cases h0 : X / 2 ^ (8 * s) = 0
        · rw [if_neg (by simp [h0]), if_pos h0]
        · rw [if_pos ⟨by omega, h0⟩, if_neg h0]
    show ((Md.put (xs ++ putB X s)), note none name (putE X s), X) = _
    unfold putB putF1
    rw [e]
    by_cases h0 : X / 2 ^ (8 * s) = 0
    · simp only [h0, if_true, Int.toNat_natCast, note]
    · simp only [h0, if_false, note, List.append_nil, show ((10 : Int) = 0) = False from by simp]
  · rfl
theorem stepN_f (xs : List Nat) (x : Flt) (name : ByteArray) {N : Int} (s : Nat) (h1 : 1 ≤ s) (h8 : s ≤ 8) (h : I64 N) :
    stepN (.put xs) x name N s = (.put (putF1 (xs, x) (name, s, u64 N)).1, (putF1 (xs, x) (name, s, u64 N)).2, N) := by
  unfold stepN
  rw [stepW_f xs x name (u64 N) s h1 h8 (u64_lt N)]
  simp only [i64_u64 h]
theorem stepC_f (xs : List Nat) (x : Flt) (name : ByteArray) {X Y : Int} (h : I64 X) (h' : I64 Y) :
    stepC (.put xs) x name X Y = (.put (putF [(name, 2, u64 X), (name, 2, u64 Y)] (xs, x)).1, (putF [(name, 2, u64 X), (name, 2, u64 Y)] (xs, x)).2, X, Y) := by
  have e1 := stepN_f xs x name 2 (by omega) (by omega) h
  have e2 := stepN_f (putF1 (xs, x) (name, 2, u64 X)).1 (putF1 (xs, x) (name, 2, u64 X)).2 name 2 (by omega) (by omega) h'
  show ((stepN (stepN _ _ name X (2 : Nat)).1 (stepN _ _ name X (2 : Nat)).2.1 name Y (2 : Nat)).1, (stepN (stepN _ _ name X (2 : Nat)).1 (stepN _ _ name X (2 : Nat)).2.1 name Y (2 : Nat)).2.1, (stepN _ _ name X (2 : Nat)).2.2, (stepN (stepN _ _ name X (2 : Nat)).1 (stepN _ _ name X (2 : Nat)).2.1 name Y (2 : Nat)).2.2) = _
  simp only [e1, e2]
  rfl
/-- The numbers of a request, by operation. -/
def entR (r : Rq) : List (ByteArray × Nat × Nat) :=
  (sOp, 1, u64 r.op) :: (if opSize r.op = 0 then [] else (sToken, 8, r.tok) :: (if r.op = 2 then [(sUnit, 1, u64 r.unit), (sDir, 1, u64 r.dir)] else if r.op = 4 ∨ r.op = 5 then [(sFrom, 2, u64 r.fx), (sFrom, 2, u64 r.fy), (sTo, 2, u64 r.tx), (sTo, 2, u64 r.ty)] else []))
theorem stepR_f (r : Rq) (h : r.Ok) (ho : ¬ (r.op < 0 ∨ 7 ≤ r.op)) : stepR (.put []) r = (.put (putF (entR r) ([], none)).1, (putF (entR r) ([], none)).2, r) := by
  have e0 : u64 r.op / 2 ^ (8 * 1) = 0 := by unfold u64; omega
  have h1 := stepN_f [] none sOp 1 (by omega) (by omega) h.op
  have h2 : putF1 ([], none) (sOp, 1, u64 r.op) = ([] ++ bes (u64 r.op) 1 1, none) := by simp only [putF1, e0, if_true]
  rw [h2] at h1
  obtain ⟨xs, hx⟩ : ∃ xs, xs = [] ++ bes (u64 r.op) 1 1 := ⟨_, rfl⟩
  have e3 : putF (entR r) ([], none) = putF (entR r).tail (xs, none) := by
    show putF (entR r).tail (putF1 ([], none) (sOp, 1, u64 r.op)) = _
    rw [h2, hx]
  rw [e3]
  rw [← hx] at h1
  unfold stepR
  have h1' : stepN (.put []) none sOp r.op 1 = (.put xs, none, r.op) := h1
  rw [h1']
  dsimp only
  rw [if_neg ho]
  unfold entR
  by_cases h0 : opSize r.op = 0
  · rw [if_pos h0, if_pos h0]; rfl
  · rw [if_neg h0, if_neg h0, List.tail_cons]
    unfold stepR2
    dsimp only
    have h8 : stepW (.put xs) none sToken r.tok 8 = _ := stepW_f xs none sToken r.tok 8 (by omega) (by omega) h.tok
    rw [h8]
    obtain ⟨q, hq⟩ : ∃ q, q = putF1 (xs, none) (sToken, 8, r.tok) := ⟨_, rfl⟩
    have e5 : ∀ l, putF ((sToken, 8, r.tok) :: l) (xs, none) = putF l q := by intro l; rw [hq]; rfl
    rw [e5, ← hq]
    dsimp only
    by_cases h2 : r.op = 2
    · rw [if_pos h2, if_pos h2]
      have hu : stepN (.put q.1) q.2 sUnit r.unit 1 = _ := stepN_f q.1 q.2 sUnit 1 (by omega) (by omega) h.unit
      rw [hu]
      dsimp only
      have hd : stepN (.put (putF1 (q.1, q.2) (sUnit, 1, u64 r.unit)).1) (putF1 (q.1, q.2) (sUnit, 1, u64 r.unit)).2 sDir r.dir 1 = _ := stepN_f _ _ sDir 1 (by omega) (by omega) h.dir
      rw [hd]
      rfl
    · rw [if_neg h2, if_neg h2]
      by_cases h4 : r.op = 4 ∨ r.op = 5
      · rw [if_pos h4, if_pos h4, stepC_f q.1 q.2 sFrom h.fx h.fy]
        dsimp only
        rw [stepC_f _ _ sTo h.tx h.ty]
        rfl
      · rw [if_neg h4, if_neg h4]
        rfl

def enc (r : Rq) : Flt × List Nat := match encF r with
  | none => (none, encB r)
  | some y => (some y, [])
theorem nt1 (r : Rq) : numsR r sOp = [u64 r.op] := by unfold numsR; rw [if_pos rfl]
theorem nt2 (r : Rq) : numsR r sToken = [r.tok] := by unfold numsR; rw [if_neg (by decide), if_pos rfl]
theorem nt3 (r : Rq) : numsR r sUnit = [u64 r.unit] := by unfold numsR; rw [if_neg (by decide), if_neg (by decide), if_pos rfl]
theorem nt4 (r : Rq) : numsR r sDir = [u64 r.dir] := by unfold numsR; rw [if_neg (by decide), if_neg (by decide), if_neg (by decide), if_pos rfl]
theorem nt5 (r : Rq) : numsR r sFrom = [u64 r.fx, u64 r.fy] := by unfold numsR; rw [if_neg (by decide), if_neg (by decide), if_neg (by decide), if_neg (by decide), if_pos rfl]
theorem nt6 (r : Rq) : numsR r sTo = [u64 r.tx, u64 r.ty] := by unfold numsR; rw [if_neg (by decide), if_neg (by decide), if_neg (by decide), if_neg (by decide), if_neg (by decide)]
theorem enc_eq (r : Rq) (h : r.Ok) (ho : ¬ (r.op < 0 ∨ 7 ≤ r.op)) : enc r = fin (cutO (putF (entR r) ([], none))) (leftR r) := by
  unfold enc encF encB
  rw [if_neg ho, stepR_f r h ho]
  rcases putF (entR r) ([], none) with ⟨o, x⟩
  rcases x with _ | y
  · cases leftR r <;> rfl
  · cases leftR r <;> rfl
theorem op_cases {o : Int} (ho : ¬ (o < 0 ∨ 7 ≤ o)) : o = 0 ∨ o = 1 ∨ o = 2 ∨ o = 3 ∨ o = 4 ∨ o = 5 ∨ o = 6 := by omega
theorem noughts (l : List Nat) : nought l = decide (∀ x ∈ l, x = 0) := by
  unfold nought
  rw [Bool.eq_iff_iff]
  simp
theorem ent_same (r : Rq) (ho : ¬ (r.op < 0 ∨ 7 ≤ r.op)) : ((asked.filter (hasO r.op)).flatMap fun w => ent w (numsQ r w)) = entR r := by
  unfold entR
  rcases op_cases ho with h | h | h | h | h | h | h <;> rw [h] <;>
    simp [asked, List.filter_cons, hasO, hasR, ent, numsQ, nt1, nt2, nt3, nt4, nt5, nt6, opSize, h]
theorem left_same (r : Rq) (hr : r.Ok) (ho : ¬ (r.op < 0 ∨ 7 ≤ r.op)) : refE2 (hasO r.op) (numsQ r) asked = leftR r := by
  have z1 := u64_zero hr.unit
  have z2 := u64_zero hr.dir
  have z3 := u64_zero hr.fx
  have z4 := u64_zero hr.fy
  have z5 := u64_zero hr.tx
  have z6 := u64_zero hr.ty
  unfold leftR refE2
  rw [Bool.eq_iff_iff]
  rcases op_cases ho with h | h | h | h | h | h | h <;> rw [h] <;>
    simp [asked, hasO, hasR, numsQ, noughts, nt1, nt2, nt3, nt4, nt5, nt6, z1, z2, z3, z4, z5, z6] <;> omega
theorem enc_same (r : Rq) (h : r.Ok) : enc r = rEnc r := by
  by_cases ho : r.op < 0 ∨ 7 ≤ r.op
  · unfold enc encF rEnc
    rw [if_pos ho, if_pos (by omega)]
  · rw [enc_eq r h ho]
    unfold rEnc
    rw [if_neg (by omega), refE1_put, ent_same r ho, left_same r h ho]

/-- One number taken. -/
def tk1 (f : ByteArray × Nat) (l : List Nat) : Flt × List Nat × Nat := if f.2 ≤ l.length then (none, l.drop f.2, num (l.take f.2)) else (some (f.1, 17), l, 0)
def takF : List (ByteArray × Nat) → List Nat → Flt × List Nat × List Nat
  | [], l => (none, l, [])
  | f :: fs, l => match tk1 f l with
    | (some y, l', _) => (some y, l', [])
    | (none, l', n) => ((takF fs l').1, (takF fs l').2.1, n :: (takF fs l').2.2)
theorem stepW_t (l : List Nat) (name : ByteArray) (X : Nat) (s : Nat) (h1 : 1 ≤ s) (h8 : s ≤ 8) :
    stepW (.take l) none name X s = (.take (tk1 (name, s) l).2.1, (tk1 (name, s) l).1, (tk1 (name, s) l).2.2) := by
  have hm : wMay (s : Int) = true := by simp only [wMay, Bool.and_eq_true, decide_eq_true_eq]; omega
  unfold stepW tk1
  simp only [Md.step, hm, if_true, Int.toNat_natCast]
  by_cases h : s ≤ l.length
  · rw [if_pos (by omega), if_pos h]; rfl
  · rw [if_neg (by omega), if_neg h]; rfl
theorem stepN_t (l : List Nat) (name : ByteArray) (N : Int) (s : Nat) (h1 : 1 ≤ s) (h8 : s ≤ 8) :
    stepN (.take l) none name N s = (.take (tk1 (name, s) l).2.1, (tk1 (name, s) l).1, IntKind.i64.wrap ((tk1 (name, s) l).2.2 : Int)) := by
  unfold stepN
  rw [stepW_t l name (u64 N) s h1 h8]
theorem stepW_s (md : Md) (y : ByteArray × Int) (name : ByteArray) (X : Nat) (s : Int) : stepW md (some y) name X s = (md, some y, X) := rfl
theorem stepN_s (md : Md) (y : ByteArray × Int) (name : ByteArray) (N : Int) (s : Int) : (stepN md (some y) name N s).1 = md ∧ (stepN md (some y) name N s).2.1 = some y := ⟨rfl, rfl⟩
theorem stepC_s (md : Md) (y : ByteArray × Int) (name : ByteArray) (X Y : Int) : (stepC md (some y) name X Y).2.1 = some y := rfl
theorem stepC_t (l : List Nat) (name : ByteArray) (X Y : Int) : stepC (.take l) none name X Y = (match tk1 (name, 2) l with
    | (some y, l', n) => (.take l', some y, IntKind.i64.wrap (n : Int), IntKind.i64.wrap (u64 Y : Int))
    | (none, l', n) => (.take (tk1 (name, 2) l').2.1, (tk1 (name, 2) l').1, IntKind.i64.wrap (n : Int), IntKind.i64.wrap ((tk1 (name, 2) l').2.2 : Int))) := by
  have e1 : stepN (.take l) none name X 2 = _ := stepN_t l name X 2 (by omega) (by omega)
  rcases hq : tk1 (name, 2) l with ⟨x, l', n⟩
  rw [hq] at e1
  dsimp only at e1
  rcases x with _ | y
  · have e2 : stepN (.take l') none name Y 2 = _ := stepN_t l' name Y 2 (by omega) (by omega)
    simp only [stepC, e1, e2]
  · simp only [stepC, e1]
    rfl
/-- What a row's numbers are. -/
def rdN (size many : Nat) (l : List Nat) : List Nat := (List.range many).map fun k => num ((l.drop (k * size)).take size)
section
variable {R : Type} (set : R → RowT → List Nat → R)
def rows (ws : List RowT) : List (ByteArray × Nat) := ws.flatMap fun w => List.replicate w.many (w.name, w.size)
def setAll : List RowT → List Nat → R → R
  | [], _, r => r
  | w :: ws, ns, r => setAll ws (ns.drop w.many) (set r w (ns.take w.many))
/-- Row by row. -/
def refD (has : RowT → Bool) : List RowT → List Nat → R → Flt × List Nat × R
  | [], l, r => (none, l, r)
  | w :: ws, l, r => if has w then (if l.length < w.size * w.many then (some (w.name, 17), l, r) else refD has ws (l.drop (w.size * w.many)) (set r w (rdN w.size w.many l))) else refD has ws l r
theorem refD_filter (has : RowT → Bool) : ∀ (ws : List RowT) (l : List Nat) (r : R), refD set has ws l r = refD set (fun _ => true) (ws.filter has) l r
  | [], _, _ => rfl
  | w :: ws, l, r => by
    by_cases h : has w = true
    · rw [List.filter_cons, if_pos h]
      unfold refD
      rw [if_pos h, if_pos rfl]
      split
      · rfl
      · exact refD_filter has ws _ _
    · rw [List.filter_cons, if_neg h, refD, if_neg h]
      exact refD_filter has ws l r
theorem takF_rep_no (f : ByteArray × Nat) (fs : List (ByteArray × Nat)) : ∀ (m : Nat) (l : List Nat), l.length < f.2 * m → ∃ l' ns, takF (List.replicate m f ++ fs) l = (some (f.1, 17), l', ns)
  | 0, l, h => absurd h (by omega)
  | m + 1, l, h => by
    rw [List.replicate_succ, List.cons_append]
    unfold takF tk1
    by_cases h1 : f.2 ≤ l.length
    · rw [if_pos h1]
      obtain ⟨l', ns, e⟩ := takF_rep_no f fs m (l.drop f.2) (by rw [List.length_drop, Nat.mul_succ] at *; omega)
      dsimp only
      rw [e]
      exact ⟨_, _, rfl⟩
    · rw [if_neg h1]
      exact ⟨_, _, rfl⟩
theorem rdN_succ (s m : Nat) (l : List Nat) : rdN s (m + 1) l = num (l.take s) :: rdN s m (l.drop s) := by
  unfold rdN
  rw [List.range_succ_eq_map, List.map_cons, List.map_map, Nat.zero_mul, List.drop_zero]
  congr 1
  apply List.map_congr_left
  intro k _
  show num ((l.drop ((k + 1) * s)).take s) = _
  rw [List.drop_drop, Nat.succ_mul, Nat.add_comm s]
theorem takF_rep (f : ByteArray × Nat) (fs : List (ByteArray × Nat)) : ∀ (m : Nat) (l : List Nat), f.2 * m ≤ l.length → takF (List.replicate m f ++ fs) l = ((takF fs (l.drop (f.2 * m))).1, (takF fs (l.drop (f.2 * m))).2.1, rdN f.2 m l ++ (takF fs (l.drop (f.2 * m))).2.2)
  | 0, l, _ => by rw [Nat.mul_zero, List.drop_zero]; rfl
  | m + 1, l, h => by
    rw [Nat.mul_succ] at h
    rw [List.replicate_succ, List.cons_append]
    conv => lhs; unfold takF tk1
    rw [if_pos (by omega)]
    dsimp only
    rw [takF_rep f fs m (l.drop f.2) (by rw [List.length_drop]; omega), List.drop_drop, rdN_succ, Nat.mul_succ, Nat.add_comm f.2]
    rfl
theorem rdN_len (s m : Nat) (l : List Nat) : (rdN s m l).length = m := by simp [rdN]
theorem refD_tak : ∀ (ws : List RowT) (l : List Nat) (r : R), (∃ y l' r' l'' ns, refD set (fun _ => true) ws l r = (some y, l', r') ∧ takF (rows ws) l = (some y, l'', ns)) ∨ ∃ l' ns, takF (rows ws) l = (none, l', ns) ∧ refD set (fun _ => true) ws l r = (none, l', setAll set ws ns r)
  | [], l, r => .inr ⟨l, [], rfl, rfl⟩
  | w :: ws, l, r => by
    unfold refD
    rw [if_pos rfl]
    have er : rows (w :: ws) = List.replicate w.many (w.name, w.size) ++ rows ws := by simp [rows]
    rw [er]
    by_cases h : l.length < w.size * w.many
    · rw [if_pos h]
      obtain ⟨l', ns, e⟩ := takF_rep_no (w.name, w.size) (rows ws) w.many l h
      exact .inl ⟨_, _, _, l', ns, rfl, e⟩
    · rw [if_neg h, takF_rep (w.name, w.size) (rows ws) w.many l (by show w.size * w.many ≤ _; omega)]
      rcases refD_tak ws (l.drop (w.size * w.many)) (set r w (rdN w.size w.many l)) with ⟨y, l', r', l'', ns, e1, e2⟩ | ⟨l', ns, e1, e2⟩
      · exact .inl ⟨y, l', r', l'', _, e1, by dsimp only; rw [e2]⟩
      · refine .inr ⟨l', _, by dsimp only; rw [e1], ?_⟩
        rw [e2]
        dsimp only
        conv => rhs; unfold setAll
        rw [List.take_left' (rdN_len _ _ _), List.drop_left' (rdN_len _ _ _)]
theorem takF_len : ∀ (fs : List (ByteArray × Nat)) (l l' ns : List Nat), takF fs l = (none, l', ns) → ns.length = fs.length
  | [], l, l', ns, h => by
    simp only [takF, Prod.mk.injEq] at h
    rw [← h.2.2]; try rfl
  | f :: fs, l, l', ns, h => by
    unfold takF at h
    rcases hq : tk1 f l with ⟨x, l1, n⟩
    rw [hq] at h
    rcases x with _ | y
    · rcases hr : takF fs l1 with ⟨x2, l2, ns2⟩
      dsimp only at h
      rw [hr] at h
      simp only [Prod.mk.injEq] at h
      obtain ⟨rfl, rfl, rfl⟩ := h
      rw [List.length_cons, List.length_cons, takF_len fs l1 l2 ns2 hr]
    · simp at h
end
end Go.Proofs.YtnaclkdjchnbpaaDoor
end
section
namespace Go.Proofs.YtnaclkdjchnbpaaDoor
open Go Go.K

/-- A form that puts: the bytes, and what went wrong. -/
def FormP (β : Nat → Option Obj) (bf : Nat) (what : ByteArray) (z : List Nat × Flt) (σ : Heap) : Prop := FormB β bf what (.put z.1) z.2 σ
theorem putF1_len (z : List Nat × Flt) (f : ByteArray × Nat × Nat) : (putF1 z f).1.length ≤ z.1.length + f.2.1 := by
  unfold putF1
  rcases z with ⟨o, x⟩
  rcases x with _ | y
  · dsimp only
    split
    · rw [List.length_append, bes_len]; exact Nat.le_refl _
    · exact Nat.le_add_right _ _
  · exact Nat.le_add_right _ _
theorem wordP_p (β : Nat → Option Obj) (bf bx : Nat) (cs : List Value) (t : TypeId) (ox : Nat) (what name : ByteArray) (z : List Nat × Flt) (σ : Heap) (hf : FormP β bf what z σ) (hm : z.1.length ≤ 1000000) (X : Nat) (s : Nat) (h1 : 1 ≤ s) (h8 : s ≤ 8) (hX : X < 18446744073709551616) (hx : cs[ox]? = some (.int .u64 (X : Int))) :
    Go.K.Tr Tryd.prog 55 [.pointer (some ⟨bf, 0, none⟩), .string name, .pointer (some ⟨bx, ox, none⟩), .int .i64 (s : Int)] β ((bx, cl cs t) :: σ) (fun _ σ' => ∃ τ, FormP β bf what (putF1 z (name, s, X)) τ ∧ σ' = (bx, cl cs t) :: τ) := by
  refine (word_p β bf bx cs t ox what name (.put z.1) z.2 σ hf hm X s hX hx).mono ?_
  rintro _ _ ⟨τ, hτ, rfl⟩
  rw [stepW_f z.1 z.2 name X s h1 h8 hX] at hτ ⊢
  refine ⟨τ, hτ, ?_⟩
  dsimp only
  rw [set_same hx]
theorem numberP_p (β : Nat → Option Obj) (bf bx : Nat) (cs : List Value) (t : TypeId) (ox : Nat) (what name : ByteArray) (z : List Nat × Flt) (σ : Heap) (hf : FormP β bf what z σ) (hm : z.1.length ≤ 1000000) {N : Int} (s : Nat) (h1 : 1 ≤ s) (h8 : s ≤ 8) (hN : I64 N) (hx : cs[ox]? = some (.int .i64 N)) :
    Go.K.Tr Tryd.prog 52 [.pointer (some ⟨bf, 0, none⟩), .string name, .pointer (some ⟨bx, ox, none⟩), .int .i64 (s : Int)] β ((bx, cl cs t) :: σ) (fun _ σ' => ∃ τ, FormP β bf what (putF1 z (name, s, u64 N)) τ ∧ σ' = (bx, cl cs t) :: τ) := by
  refine (number_p β bf bx cs t ox what name (.put z.1) z.2 σ hf hm N s hx).mono ?_
  rintro _ _ ⟨τ, hτ, rfl⟩
  rw [stepN_f z.1 z.2 name s h1 h8 hN] at hτ ⊢
  refine ⟨τ, hτ, ?_⟩
  dsimp only
  rw [set_same hx]
theorem cellP_p (β : Nat → Option Obj) (bf bx : Nat) (cs : List Value) (t : TypeId) (ox : Nat) (what name : ByteArray) (z : List Nat × Flt) (σ : Heap) (hf : FormP β bf what z σ) (hm : z.1.length ≤ 999990) {X Y : Int} (hX : I64 X) (hY : I64 Y) (hx : cs[ox]? = some (.int .i64 X)) (hy : cs[ox + 1]? = some (.int .i64 Y)) :
    Go.K.Tr Tryd.prog 56 [.pointer (some ⟨bf, 0, none⟩), .string name, .pointer (some ⟨bx, ox, none⟩)] β ((bx, cl cs t) :: σ) (fun _ σ' => ∃ τ, FormP β bf what (putF [(name, 2, u64 X), (name, 2, u64 Y)] z) τ ∧ σ' = (bx, cl cs t) :: τ) := by
  refine (cell_p β bf bx cs t ox what name (.put z.1) z.2 σ hf hm X Y hx hy).mono ?_
  rintro _ _ ⟨τ, hτ, rfl⟩
  rw [stepC_f z.1 z.2 name hX hY] at hτ ⊢
  refine ⟨τ, hτ, ?_⟩
  dsimp only
  rw [set_same hx, set_same hy]
theorem u64_of {n : Nat} (h : n < 18446744073709551616) : u64 (n : Int) = n := by unfold u64; omega
def bit (b : Bool) : Nat := if b then 1 else 0
theorem stepF_f (xs : List Nat) (x : Flt) (name : ByteArray) (b : Bool) : stepF (.put xs) x name b = (.put (putF1 (xs, x) (name, 1, bit b)).1, (putF1 (xs, x) (name, 1, bit b)).2, b) := by
  have hN : I64 (if b then 1 else 0 : Int) := by cases b <;> (unfold I64; simp)
  have e := stepN_f xs x name (N := if b then 1 else 0) 1 (by omega) (by omega) hN
  have e' : stepN (.put xs) x name (if b then 1 else 0) 1 = _ := e
  unfold stepF
  rw [e']
  have eu : u64 (if b then 1 else 0 : Int) = bit b := by cases b <;> rfl
  rw [eu]
  cases b <;> rfl
theorem flagP_p (β : Nat → Option Obj) (bf bx : Nat) (cs : List Value) (t : TypeId) (ox : Nat) (what name : ByteArray) (z : List Nat × Flt) (σ : Heap) (hf : FormP β bf what z σ) (hm : z.1.length ≤ 900000) (b : Bool) (hx : cs[ox]? = some (.bool b)) :
    Go.K.Tr Tryd.prog 71 [.pointer (some ⟨bf, 0, none⟩), .string name, .pointer (some ⟨bx, ox, none⟩)] β ((bx, cl cs t) :: σ) (fun _ σ' => ∃ τ, FormP β bf what (putF1 z (name, 1, bit b)) τ ∧ σ' = (bx, cl cs t) :: τ) := by
  refine (flag_p β bf bx cs t ox what name (.put z.1) z.2 σ hf hm b hx).mono ?_
  rintro _ _ ⟨τ, hτ, rfl⟩
  rw [stepF_f z.1 z.2 name b] at hτ ⊢
  refine ⟨τ, hτ, ?_⟩
  dsimp only
  rw [set_same hx]
/-- Moves put. -/
def movF (z : List Nat × Flt) (name : ByteArray) (ms : List Nat) : List Nat × Flt :=
  let q := putF1 (z.1, if 65535 < ms.length then note z.2 name 12 else z.2) (name, 4, ms.length)
  match q.2 with
  | some _ => q
  | none => if ms.all (fun m => decide (m ≤ 3)) then (q.1 ++ ms, none) else (q.1 ++ ms.takeWhile (fun m => decide (m ≤ 3)), some (name, 10))
structure S20 where
  k : Nat
  v : Value
  φ : Heap
theorem take_all {ms : List Nat} {j : Nat} (h : (ms.take j).all (fun m => decide (m ≤ 3)) = true) {x : Nat} (hx : ms[j]? = some x) (h3 : 3 < x) : ms.all (fun m => decide (m ≤ 3)) = false ∧ ms.takeWhile (fun m => decide (m ≤ 3)) = ms.take j := by
  have hlt := (List.getElem?_eq_some_iff.1 hx).1
  have e : ms = ms.take j ++ x :: ms.drop (j + 1) := by
    conv => lhs; rw [← List.take_append_drop j ms, List.drop_eq_getElem_cons hlt]
    rw [(List.getElem?_eq_some_iff.1 hx).2]
  constructor
  · rw [e, List.all_append, List.all_cons]
    simp [show ¬ x ≤ 3 by omega]
  · conv => lhs; rw [e]
    rw [List.takeWhile_append_of_pos (fun a ha => List.all_eq_true.1 h a ha)]
    rw [List.takeWhile_cons_of_neg (by simp; omega), List.append_nil]
theorem bes1 {n : Nat} (h : n < 256) : bes n 1 1 = [n] := by
  show [n / 2 ^ (8 * (1 - 1 - 0)) % 256] = [n]
  simp
  omega
theorem put1 {n : Nat} (h : n < 256) : putE n 1 = 0 ∧ putB n 1 = [n] := by
  have e : putE n 1 = 0 := by
    have h0 : n / 2 ^ 8 = 0 := Nat.div_eq_of_lt h
    unfold putE
    rw [if_pos (by rfl), if_neg]
    rintro ⟨_, h2⟩
    exact h2 h0
  refine ⟨e, ?_⟩
  unfold putB
  rw [if_pos e]
  exact bes1 h
end Go.Proofs.YtnaclkdjchnbpaaDoor
end
section
namespace Go.Proofs.YtnaclkdjchnbpaaDoor
open Go Go.K

theorem note_some (y : ByteArray × Int) (n : ByteArray) (e : Int) : note (some y) n e = some y := rfl
set_option maxHeartbeats 8000000 in
theorem movesP_p (β : Nat → Option Obj) (bf bn : Nat) (cs : List Value) (t : TypeId) (on : Nat) (what name : ByteArray) (z : List Nat × Flt) (σ : Heap) (hf : FormP β bf what z σ) (ms : List Nat) (p : Option Addr) (n c : Nat) (hn : ms.length = n) (hB : Byt ms) (hp : SL β [] 1 n (by8 ms) p) (hm : z.1.length + n ≤ 900000) (hx : cs[on]? = some (.slice p n c)) :
    Go.K.Tr Tryd.prog 72 [.pointer (some ⟨bf, 0, none⟩), .string name, .pointer (some ⟨bn, on, none⟩)] β ((bn, cl cs t) :: σ) (fun _ σ' => ∃ τ, FormP β bf what (movF z name ms) τ ∧ σ' = (bn, cl cs t) :: τ) := by
  refine Tr.sub ?_
  obtain ⟨wv, rv, dv, ev, φ, ε, hF, hE0, rfl⟩ := hf
  have hF0 := hF
  obtain ⟨rfl, hv, rfl⟩ := hF
  refine Tr.of_body Tryd.tt (args := [.pointer (some ⟨bf, 0, none⟩), .string name, .pointer (some ⟨bn, on, none⟩)]) (fr := [(0, true, .pointer (some ⟨bf, 0, none⟩)), (1, true, .string name), (2, true, .pointer (some ⟨bn, on, none⟩))]) Tryd.func72 rfl (by decide) rfl Tryd.ntmps72 rfl rfl ?_
  intro E hE
  subst hE
  obtain ⟨dv, hdv⟩ : ∃ dv, dv = Value.func (.func (Md.put z.1).fn) #[.pointer (some ⟨bf, 0, none⟩)] #[] := ⟨_, rfl⟩
  rw [← hdv] at hF0 ⊢
  have kx : ∀ σ', (bn, cl cs t) ∈ σ' → Cel E.β σ' bn on (.slice p n c) := fun σ' h => .inl ⟨cs, t, h, hx⟩
  have kf4 : ∀ σ' ev, (bf, cl [.string what, wv, .pointer none, dv, ev] 80) ∈ σ' → Cel E.β σ' bf 4 ev := fun σ' ev h => .inl ⟨_, _, h, rfl⟩
  have hn64 : I64 (n : Int) := by unfold I64; omega
  have hu64 : u64 (n : Int) = n := u64_of (by omega)
  by_cases hbig : 65535 < n
  · have htr := trivial
    repeat' (first | refine KW.seq ?_ | refine KW.region ?_ | refine KO.nil ?_ | refine At.then_normal ?_ | refine KW.skip ?_ | ((first | apply KO.val rfl rfl rfl ?kq ?_ ); (try (case ksub => (intro _ hp; first | exact hp | (cases hp; done) | (repeat (first | exact hp | apply List.mem_cons_of_mem | apply List.mem_append_right)) | (simp_all; done)))); (case kq => ((first | apply qt_ev rfl ?hi | ((first | apply qt_load1 rfl rfl ?hi rfl rfl ?hm ?hc ); (case hm => repeat (first | exact List.Mem.head _ | apply List.Mem.tail _ )); (case hc => rfl)) | apply qt_pick_t rfl rfl (by first | decide) rfl ?hi | apply qt_eqs rfl rfl rfl ?hi rfl (Or.inl rfl) ); (case hi => (intro h; (repeat' (first | with_reducible exact alln | with_reducible refine allc ?_ ?_ | with_reducible refine andi ?_ ?_)); all_goals (first | with_reducible rfl | with_reducible exact h | (simp [h]; done) )))))) | (refine KO.alloc rfl rfl rfl rfl rfl rfl ?_; intro _ _) | (apply KO.store (i := _) rfl rfl rfl rfl rfl rfl rfl rfl ?hl ?sg ?hw ?ho ?hs; (case sg => first | exact (rfl : getI 0 _ = _) ); (case hl => rfl); (case hw => rfl); (case ho => rfl); (case hs => rfl)) | (refine KW.cond rfl ?_ ?_ <;> (intro hc; try simp only [kBool] at hc)) | ((first | apply KO.val (g := true) rfl rfl rfl ); (first | (apply qt_load1_cel rfl rfl ?hi rfl rfl ?hc; (case hc => first | exact fun _ => (kx _ (by simp))))); (case hi => (first | exact fun _ => rfl ))) | (exfalso; omega) | fail)
    rename_i b6 _
    refine KO.callF ((bf, cl [.string what, wv, .pointer none, dv, ev] 80) :: (ε ++ φ)) [(b6, cl [.int .i64 (n : Int)] 3), (bn, cl cs t)] (by classical exact List.perm_iff_count.2 (fun _ => by first | (simp only [List.count_append, List.count_cons, List.count_nil, List.append_assoc, List.cons_append, List.nil_append]; omega))) rfl rfl rfl rfl rfl rfl rfl (wrong_p _ bf name what 12 wv (.pointer none) dv ev z.2 ε φ hE0) ?_
    rintro _ _ ⟨ev1, ε1, hE1, rfl⟩
    obtain ⟨y, hy⟩ : ∃ y, note z.2 name 12 = some y := by
      rcases z.2 with _ | y
      · exact ⟨(name, 12), rfl⟩
      · exact ⟨y, rfl⟩
    rw [hy] at hE1
    have hf1 : FormP E.β bf what (z.1, some y) ((bf, cl [.string what, wv, .pointer none, dv, ev1] 80) :: (ε1 ++ φ)) := ⟨_, _, _, _, _, _, hF0, hE1, rfl⟩
    repeat' (first | refine KW.seq ?_ | refine KW.region ?_ | refine KO.nil ?_ | ((first | apply KO.val rfl rfl rfl ?kq ?_ ); (try (case ksub => (intro _ hp; first | exact hp | (cases hp; done) | (repeat (first | exact hp | apply List.mem_cons_of_mem | apply List.mem_append_right)) | (simp_all; done)))); (case kq => ((first | apply qt_ev rfl ?hi ); (case hi => (intro h; (repeat' (first | with_reducible exact alln | with_reducible refine allc ?_ ?_ )); all_goals (first | with_reducible rfl )))))) | fail)
    refine KO.callF ((b6, cl [.int .i64 (n : Int)] 3) :: ((bf, cl [.string what, wv, .pointer none, dv, ev1] 80) :: (ε1 ++ φ))) [(bn, cl cs t)] (by classical exact List.perm_iff_count.2 (fun _ => by first | (simp only [List.count_append, List.count_cons, List.count_nil, List.append_assoc, List.cons_append, List.nil_append]; omega))) rfl rfl rfl rfl rfl rfl rfl (numberP_p _ bf b6 [.int .i64 (n : Int)] 3 0 what name (z.1, some y) _ hf1 (by dsimp only; omega) 4 (by omega) (by omega) hn64 rfl) ?_
    rintro _ _ ⟨τ, hτ, rfl⟩
    have hτ2 : FormP E.β bf what (z.1, some y) τ := hτ
    have hτ3 := hτ2
    obtain ⟨wv2, rv2, dv2, ev2, φ2, ε2, hF2, hE2, rfl⟩ := hτ2
    obtain ⟨b, c2, rfl, rfl⟩ := hE2
    obtain ⟨rfl, hv2, rfl⟩ := hF2
    have hmov : movF z name ms = (z.1, some y) := by
      unfold movF
      rw [hn, if_pos hbig, hy]
      rfl
    refine KO.perm (σ' := (b6, cl [.int .i64 (n : Int)] 3) :: (bn, cl cs t) :: ((bf, cl [.string what, wv2, .pointer none, .func (.func (Md.put z.1).fn) #[.pointer (some ⟨bf, 0, none⟩)] #[], .iface 100 (.pointer (some ⟨b, 0, none⟩))] 80) :: ([(b, cl [.string what, .iface 100 (.pointer (some ⟨c2, 0, none⟩))] 108), (c2, cl [.string y.1, .iface 32 (.int .i64 y.2)] 108)] ++ φ2))) (by classical exact List.perm_iff_count.2 (fun _ => by first | (simp only [List.count_append, List.count_cons, List.count_nil, List.append_assoc, List.cons_append, List.nil_append]; omega))) ?_
    repeat' (first | refine KW.seq ?_ | refine KW.region ?_ | refine KO.nil ?_ | refine At.then_normal ?_ | refine KW.skip ?_ | refine KW.ret ?_ | refine At.then_ret ?_ | refine KW.cond_t rfl (by first | decide) ?_ | ((first | apply KO.val rfl rfl rfl ?kq ?_ ); (try (case ksub => (intro _ hp; first | exact hp | (cases hp; done) | (repeat (first | exact hp | apply List.mem_cons_of_mem | apply List.mem_append_right)) | (simp_all; done)))); (case kq => ((first | apply qt_ev rfl ?hi | ((first | apply qt_load1 rfl rfl ?hi rfl rfl ?hm ?hc ); (case hm => repeat (first | exact List.Mem.head _ | apply List.Mem.tail _ )); (case hc => rfl)) | apply qt_nes rfl rfl rfl ?hi rfl (Or.inl rfl) ); (case hi => (intro h; (repeat' (first | with_reducible exact alln | with_reducible refine allc ?_ ?_ | with_reducible refine andi ?_ ?_)); all_goals (first | with_reducible rfl )))))) | (refine KW.cond rfl ?_ ?_ <;> (intro hc; try simp only [kBool] at hc)) | (exfalso; omega) | fail)
    refine KO.callF ((bf, cl [.string what, wv2, .pointer none, (.func (.func (Md.put z.1).fn) #[.pointer (some ⟨bf, 0, none⟩)] #[]), .iface 100 (.pointer (some ⟨b, 0, none⟩))] 80) :: ([(b, cl [.string what, .iface 100 (.pointer (some ⟨c2, 0, none⟩))] 108), (c2, cl [.string y.1, .iface 32 (.int .i64 y.2)] 108)] ++ φ2)) [(b6, cl [.int .i64 (n : Int)] 3), (bn, cl cs t)] (by classical exact List.perm_iff_count.2 (fun _ => by first | (simp only [List.count_append, List.count_cons, List.count_nil, List.append_assoc, List.cons_append, List.nil_append]; omega))) rfl rfl rfl rfl rfl rfl rfl (wrong_p _ bf name what 12 wv2 (.pointer none) _ _ (some y) _ φ2 ⟨b, c2, rfl, rfl⟩) ?_
    rintro _ _ ⟨ev3, ε3, hE3, rfl⟩
    obtain ⟨b', c', rfl, rfl⟩ := hE3
    refine KO.permS (σ' := (bn, cl cs t) :: ((bf, cl [.string what, wv2, .pointer none, (.func (.func (Md.put z.1).fn) #[.pointer (some ⟨bf, 0, none⟩)] #[]), .iface 100 (.pointer (some ⟨b', 0, none⟩))] 80) :: ([(b', cl [.string what, .iface 100 (.pointer (some ⟨c', 0, none⟩))] 108), (c', cl [.string y.1, .iface 32 (.int .i64 y.2)] 108)] ++ φ2))) (φ := [(b6, cl [.int .i64 (n : Int)] 3)]) (by classical exact List.perm_iff_count.2 (fun _ => by first | (simp only [List.count_append, List.count_cons, List.count_nil, List.append_assoc, List.cons_append, List.nil_append]; omega))) ?_
    repeat' (first | refine KW.seq ?_ | refine KW.region ?_ | refine KO.nil ?_ | refine At.then_normal ?_ | refine KW.ret ?_ | refine At.then_ret ?_ | refine KW.cond_t rfl (by first | decide) ?_ | ((first | apply KO.val rfl rfl rfl ?kq ?_ ); (try (case ksub => (intro _ hp; first | exact hp | (cases hp; done) | (repeat (first | exact hp | apply List.mem_cons_of_mem | apply List.mem_append_right)) | (simp_all; done)))); (case kq => ((first | apply qt_ev rfl ?hi | ((first | apply qt_load1 rfl rfl ?hi rfl rfl ?hm ?hc ); (case hm => repeat (first | exact List.Mem.head _ | apply List.Mem.tail _ )); (case hc => rfl)) | apply qt_nes rfl rfl rfl ?hi rfl (Or.inl rfl) ); (case hi => (intro h; (repeat' (first | with_reducible exact alln | with_reducible refine allc ?_ ?_ | with_reducible refine andi ?_ ?_)); all_goals (first | with_reducible rfl )))))) | fail)
    refine At.done_ret [] trivial ⟨_, List.Sublist.refl _, _, ?_, rfl⟩
    rw [hmov]
    exact ⟨_, _, _, _, _, _, ⟨rfl, hv2, rfl⟩, ⟨b', c', rfl, rfl⟩, rfl⟩
  · have htr := trivial
    repeat' (first | refine KW.seq ?_ | refine KW.region ?_ | refine KO.nil ?_ | refine At.then_normal ?_ | refine KW.skip ?_ | ((first | apply KO.val rfl rfl rfl ?kq ?_ ); (try (case ksub => (intro _ hp; first | exact hp | (cases hp; done) | (repeat (first | exact hp | apply List.mem_cons_of_mem | apply List.mem_append_right)) | (simp_all; done)))); (case kq => ((first | apply qt_ev rfl ?hi | ((first | apply qt_load1 rfl rfl ?hi rfl rfl ?hm ?hc ); (case hm => repeat (first | exact List.Mem.head _ | apply List.Mem.tail _ )); (case hc => rfl)) | apply qt_pick_t rfl rfl (by first | decide) rfl ?hi | apply qt_eqs rfl rfl rfl ?hi rfl (Or.inl rfl) ); (case hi => (intro h; (repeat' (first | with_reducible exact alln | with_reducible refine allc ?_ ?_ | with_reducible refine andi ?_ ?_)); all_goals (first | with_reducible rfl | with_reducible exact h | (simp [h]; done) )))))) | (refine KO.alloc rfl rfl rfl rfl rfl rfl ?_; intro _ _) | (apply KO.store (i := _) rfl rfl rfl rfl rfl rfl rfl rfl ?hl ?sg ?hw ?ho ?hs; (case sg => first | exact (rfl : getI 0 _ = _) ); (case hl => rfl); (case hw => rfl); (case ho => rfl); (case hs => rfl)) | (refine KW.cond rfl ?_ ?_ <;> (intro hc; try simp only [kBool] at hc)) | ((first | apply KO.val (g := true) rfl rfl rfl ); (first | (apply qt_load1_cel rfl rfl ?hi rfl rfl ?hc; (case hc => first | exact fun _ => (kx _ (by simp))))); (case hi => (first | exact fun _ => rfl ))) | (exfalso; omega) | fail)
    rename_i b6 _
    have hf0 : FormP E.β bf what z ((bf, cl [.string what, wv, .pointer none, dv, ev] 80) :: (ε ++ φ)) := ⟨_, _, _, _, _, _, hF0, hE0, rfl⟩
    refine KO.callF ((b6, cl [.int .i64 (n : Int)] 3) :: ((bf, cl [.string what, wv, .pointer none, dv, ev] 80) :: (ε ++ φ))) [(bn, cl cs t)] (by classical exact List.perm_iff_count.2 (fun _ => by first | (simp only [List.count_append, List.count_cons, List.count_nil, List.append_assoc, List.cons_append, List.nil_append]; omega))) rfl rfl rfl rfl rfl rfl rfl (numberP_p _ bf b6 [.int .i64 (n : Int)] 3 0 what name z _ hf0 (by omega) 4 (by omega) (by omega) hn64 rfl) ?_
    rintro _ _ ⟨τ, hτ, rfl⟩
    rw [hu64] at hτ
    have hq := putF1_len z (name, 4, n)
    have hmov : movF z name ms = (match (putF1 z (name, 4, n)).2 with
        | some _ => putF1 z (name, 4, n)
        | none => if ms.all (fun m => decide (m ≤ 3)) then ((putF1 z (name, 4, n)).1 ++ ms, none) else ((putF1 z (name, 4, n)).1 ++ ms.takeWhile (fun m => decide (m ≤ 3)), some (name, 10))) := by
      unfold movF
      rw [hn, if_neg hbig]; try rfl
    rcases hQ : putF1 z (name, 4, n) with ⟨o, x⟩
    rw [hQ] at hτ hq hmov
    dsimp only at hq hmov
    obtain ⟨wv2, rv2, dv2, ev2, φ2, ε2, hF2, hE2, rfl⟩ := hτ
    have hF3 := hF2
    obtain ⟨rfl, hv2, rfl⟩ := hF2
    rcases x with _ | y
    · obtain ⟨rfl, rfl⟩ := hE2
      dsimp only at hmov
      have htr := trivial
      refine KO.perm (σ' := (b6, cl [.int .i64 (n : Int)] 3) :: (bn, cl cs t) :: (bf, cl [.string what, wv2, .pointer none, (.func (.func (Md.put o).fn) #[.pointer (some ⟨bf, 0, none⟩)] #[]), .nilIface] 80) :: φ2) (by classical exact List.perm_iff_count.2 (fun _ => by first | (simp only [List.count_append, List.count_cons, List.count_nil, List.append_assoc, List.cons_append, List.nil_append]; omega))) ?_
      repeat' (first | refine KW.seq ?_ | refine KW.region ?_ | refine KO.nil ?_ | refine At.then_normal ?_ | refine KW.skip ?_ | refine KW.block ?_ | refine KW.cond_f rfl (by first | decide) ?_ | ((first | apply KO.val rfl rfl rfl ?kq ?_ ); (try (case ksub => (intro _ hp; first | exact hp | (cases hp; done) | (repeat (first | exact hp | apply List.mem_cons_of_mem | apply List.mem_append_right)) | (simp_all; done)))); (case kq => ((first | apply qt_ev rfl ?hi | ((first | apply qt_load1 rfl rfl ?hi rfl rfl ?hm ?hc ); (case hm => repeat (first | exact List.Mem.head _ | apply List.Mem.tail _ )); (case hc => rfl)) | apply qt_nes rfl rfl rfl ?hi rfl (Or.inl rfl) | apply qt_nes rfl rfl rfl ?hi rfl (Or.inr ⟨rfl, rfl, rfl⟩)); (case hi => (intro h; (repeat' (first | with_reducible exact alln | with_reducible refine allc ?_ ?_ | with_reducible refine andi ?_ ?_)); all_goals (first | with_reducible rfl )))))) | (refine KW.cond rfl ?_ ?_ <;> (intro hc; try simp only [kBool] at hc)) | ((first | apply KO.val (g := true) rfl rfl rfl ); (first | (apply qt_load1_cel rfl rfl ?hi rfl rfl ?hc; (case hc => first | exact fun _ => (kx _ (by simp))))); (case hi => (first | exact fun _ => rfl ))) | (exfalso; omega) | fail)
      refine KW.loop (fun s : S20 => s.k ≤ n ∧ (ms.take s.k).all (fun m => decide (m ≤ 3)) = true ∧ Vec 5 1 (o.length + s.k) (by8 (o ++ ms.take s.k)) s.v s.φ) (fun s => ([(73, true, .int .i64 (s.k : Int)), (72, true, .int .i64 (n : Int)), (71, true, .slice p n c), (0, true, .pointer (some ⟨bf, 0, none⟩)), (1, true, .string name), (2, true, .pointer (some ⟨bn, on, none⟩))], (bn, cl cs t) :: (bf, cl [.string what, s.v, .pointer none, (.func (.func (Md.put o).fn) #[.pointer (some ⟨bf, 0, none⟩)] #[]), .nilIface] 80) :: s.φ)) (fun s => n - s.k) ⟨0, wv2, φ2⟩
        ⟨Nat.zero_le _, rfl, by simpa using hv2⟩ (Le.permS (φ := [(b6, cl [.int .i64 (n : Int)] 3)]) (by repeat' (first | exact FLe.nil _ | refine FLe.cons rfl rfl ?_)) (by classical exact List.perm_iff_count.2 (fun _ => by first | (simp only [List.count_append, List.count_cons, List.count_nil, List.append_assoc, List.cons_append, List.nil_append]; omega)))) ?_
      rintro ⟨k, u, φ3⟩ ⟨hk, hall, hu⟩
      dsimp only at hk hall hu ⊢
      by_cases hkn : k < n
      · obtain ⟨b1, o1, rfl, h1⟩ := hp.2 (by omega)
        obtain ⟨x, hxx⟩ : ∃ z, ms[k]? = some z := ⟨_, List.getElem?_eq_getElem (by omega)⟩
        have hx256 : x < 256 := hB x (List.mem_of_getElem? hxx)
        repeat' (first | refine KW.seq ?_ | refine KW.region ?_ | refine KO.nil ?_ | refine At.then_normal ?_ | refine KW.skip ?_ | refine KW.block ?_ | refine KW.exit ?_ | refine At.then_exit ?_ | refine At.block_here rfl ?_ | refine At.loop_exit ?_ | refine KW.cond_t rfl (by first | decide) ?_ | ((first | apply KO.val rfl rfl rfl ?kq ?_ ); (try (case ksub => (intro _ hp; first | exact hp | (cases hp; done) | (repeat (first | exact hp | apply List.mem_cons_of_mem | apply List.mem_append_right)) | (simp_all; done)))); (case kq => ((first | ((first | apply qt_convU rfl rfl rfl rfl ?hi ?om | apply qt_indexAddr_slice rfl rfl rfl ?hi rfl rfl ?om ); (case om => (intro hg; first | omega ))) | apply qt_ev rfl ?hi | ((first | apply qt_load1 rfl rfl ?hi rfl rfl ?hm ?hc ); (case hm => repeat (first | exact List.Mem.head _ | apply List.Mem.tail _ )); (case hc => rfl)) | apply qt_eqs rfl rfl rfl ?hi rfl (Or.inl rfl) ); (case hi => (intro h; (repeat' (first | with_reducible exact alln | with_reducible refine allc ?_ ?_ | with_reducible refine andi ?_ ?_)); all_goals (first | with_reducible rfl )))))) | (refine KW.cond rfl ?_ ?_ <;> (intro hc; try simp only [kBool] at hc)) | ((first | apply KO.val (g := true) rfl rfl rfl ); (first | (apply qt_load1_cel rfl rfl ?hi rfl rfl ?hc; (case hc => first | exact fun _ => ((cel8 h1 hxx).mono (fun _ h => by cases h))))); (case hi => (first | exact fun _ => rfl ))) | (exfalso; omega) | fail)
        · have htr := trivial
          have hx3 : 3 < x := by omega
          obtain ⟨hall2, htw⟩ := take_all hall hxx hx3
          refine KO.callF ((bf, cl [.string what, u, .pointer none, (.func (.func (Md.put o).fn) #[.pointer (some ⟨bf, 0, none⟩)] #[]), .nilIface] 80) :: ([] ++ [])) ((bn, cl cs t) :: φ3) (by classical exact List.perm_iff_count.2 (fun _ => by first | (simp only [List.count_append, List.count_cons, List.count_nil, List.append_assoc, List.cons_append, List.nil_append]; omega))) rfl rfl rfl rfl rfl rfl rfl (wrong_p _ bf name what 10 u (.pointer none) _ .nilIface none [] [] ⟨rfl, rfl⟩) ?_
          rintro _ _ ⟨ev3, ε3, hE3, rfl⟩
          rw [show note none name 10 = some (name, 10) by simp [note]] at hE3
          obtain ⟨b', c', rfl, rfl⟩ := hE3
          refine KO.perm (σ' := (bn, cl cs t) :: (bf, cl [.string what, u, .pointer none, (.func (.func (Md.put o).fn) #[.pointer (some ⟨bf, 0, none⟩)] #[]), .iface 100 (.pointer (some ⟨b', 0, none⟩))] 80) :: ([(b', cl [.string what, .iface 100 (.pointer (some ⟨c', 0, none⟩))] 108), (c', cl [.string name, .iface 32 (.int .i64 10)] 108)] ++ φ3)) (by classical exact List.perm_iff_count.2 (fun _ => by first | (simp only [List.count_append, List.count_cons, List.count_nil, List.append_assoc, List.cons_append, List.nil_append]; omega))) ?_
          repeat' (first | refine KO.nil ?_ | refine At.then_normal ?_ | refine KW.ret ?_ | refine At.then_ret ?_ | refine At.block_ret ?_ | refine At.loop_ret ?_ | fail)
          refine At.done_ret [] trivial ⟨_, List.Sublist.refl _, _, ?_, rfl⟩
          rw [hmov, hall2, if_neg Bool.false_ne_true, htw]
          refine ⟨_, _, _, _, φ3, _, ⟨rfl, ?_, rfl⟩, ⟨b', c', rfl, rfl⟩, rfl⟩
          dsimp only
          rw [List.length_append, List.length_take, Nat.min_eq_left (by omega)]
          exact hu
        · have htr := trivial
          have hx3 : x ≤ 3 := by omega
          obtain ⟨hpe, hpb⟩ := put1 hx256
          refine KO.callF ((bf, cl [.string what, u, .pointer none, (.func (.func (Md.put o).fn) #[.pointer (some ⟨bf, 0, none⟩)] #[]), .nilIface] 80) :: φ3) [(bn, cl cs t)] (by classical exact List.perm_iff_count.2 (fun _ => by first | (simp only [List.count_append, List.count_cons, List.count_nil, List.append_assoc, List.cons_append, List.nil_append]; omega))) rfl rfl rfl rfl rfl rfl rfl (PutF_p _ bf (o.length + k) _ _ _ _ u φ3 (o ++ ms.take k) (by rw [List.length_append, List.length_take, Nat.min_eq_left (by omega)]) hu (by omega) x 1 (by omega)) ?_
          rintro _ _ ⟨rfl, u', φ4, hu', rfl⟩
          rw [hpb] at hu'
          repeat' (first | refine KW.region ?_ | refine KO.nil ?_ | ((first | apply KO.val rfl rfl rfl ?kq ?_ ); (try (case ksub => (intro _ hp; first | exact hp | (cases hp; done) | (repeat (first | exact hp | apply List.mem_cons_of_mem | apply List.mem_append_right)) | (simp_all; done)))); (case kq => ((first | ((first | apply qt_add rfl rfl rfl ?hi ?om ); (case om => (intro hg; first | omega ))) | apply qt_ev rfl ?hi ); (case hi => (intro h; (repeat' (first | with_reducible exact alln | with_reducible refine allc ?_ ?_ | with_reducible refine andi ?_ ?_)); all_goals (first | with_reducible rfl )))))) | fail)
          refine At.loop_on ⟨k + 1, u', φ4⟩ ⟨by dsimp only; omega, ?_, ?_⟩ (by dsimp only; omega) (Le.perm (by repeat' (first | exact FLe.nil _ | refine FLe.cons rfl rfl ?_)) (by classical exact List.perm_iff_count.2 (fun _ => by first | (simp only [List.count_append, List.count_cons, List.count_nil, List.append_assoc, List.cons_append, List.nil_append]; omega))))
          · dsimp only
            rw [List.take_add_one, hxx, List.all_append, hall]
            simp [hx3]
          · dsimp only
            rw [List.take_add_one, hxx, ← List.append_assoc]
            exact hu'
      · have hkn2 : k = n := by omega
        repeat' (first | refine KW.seq ?_ | refine KW.region ?_ | refine KO.nil ?_ | refine KW.skip ?_ | refine KW.block ?_ | refine KW.exit ?_ | refine At.then_exit ?_ | refine At.block_here rfl ?_ | refine At.loop_exit ?_ | ((first | apply KO.val rfl rfl rfl ?kq ?_ ); (try (case ksub => (intro _ hp; first | exact hp | (cases hp; done) | (repeat (first | exact hp | apply List.mem_cons_of_mem | apply List.mem_append_right)) | (simp_all; done)))); (case kq => ((first | apply qt_ev rfl ?hi ); (case hi => (intro h; (repeat' (first | with_reducible exact alln | with_reducible refine allc ?_ ?_ )); all_goals (first | with_reducible rfl )))))) | (refine KW.cond rfl ?_ ?_ <;> (intro hc; try simp only [kBool] at hc)) | (exfalso; omega) | fail)
        · refine At.done_normal [] trivial ⟨_, List.Sublist.refl _, _, ?_, rfl⟩
          have hall2 : ms.all (fun m => decide (m ≤ 3)) = true := by rw [← hall, hkn2, ← hn, List.take_length]
          rw [hmov, hall2, if_pos rfl]
          refine ⟨_, _, _, _, φ3, [], ⟨rfl, ?_, rfl⟩, ⟨rfl, rfl⟩, rfl⟩
          dsimp only
          rw [hkn2, List.take_of_length_le (by omega)] at hu
          rw [List.length_append, hn]
          exact hu
    · obtain ⟨b, c2, rfl, rfl⟩ := hE2
      dsimp only at hmov
      have htr := trivial
      refine KO.perm (σ' := (b6, cl [.int .i64 (n : Int)] 3) :: (bn, cl cs t) :: ((bf, cl [.string what, wv2, .pointer none, (.func (.func (Md.put o).fn) #[.pointer (some ⟨bf, 0, none⟩)] #[]), .iface 100 (.pointer (some ⟨b, 0, none⟩))] 80) :: ([(b, cl [.string what, .iface 100 (.pointer (some ⟨c2, 0, none⟩))] 108), (c2, cl [.string y.1, .iface 32 (.int .i64 y.2)] 108)] ++ φ2))) (by classical exact List.perm_iff_count.2 (fun _ => by first | (simp only [List.count_append, List.count_cons, List.count_nil, List.append_assoc, List.cons_append, List.nil_append]; omega))) ?_
      repeat' (first | refine KW.seq ?_ | refine KW.region ?_ | refine KO.nil ?_ | refine At.then_normal ?_ | refine KW.skip ?_ | refine KW.ret ?_ | refine At.then_ret ?_ | refine KW.cond_t rfl (by first | decide) ?_ | ((first | apply KO.val rfl rfl rfl ?kq ?_ ); (try (case ksub => (intro _ hp; first | exact hp | (cases hp; done) | (repeat (first | exact hp | apply List.mem_cons_of_mem | apply List.mem_append_right)) | (simp_all; done)))); (case kq => ((first | apply qt_ev rfl ?hi | ((first | apply qt_load1 rfl rfl ?hi rfl rfl ?hm ?hc ); (case hm => repeat (first | exact List.Mem.head _ | apply List.Mem.tail _ )); (case hc => rfl)) | apply qt_nes rfl rfl rfl ?hi rfl (Or.inl rfl) ); (case hi => (intro h; (repeat' (first | with_reducible exact alln | with_reducible refine allc ?_ ?_ | with_reducible refine andi ?_ ?_)); all_goals (first | with_reducible rfl )))))) | (refine KW.cond rfl ?_ ?_ <;> (intro hc; try simp only [kBool] at hc)) | (exfalso; omega) | fail)
      refine At.done_ret [] trivial ⟨_, List.Sublist.cons _ (List.Sublist.refl _), _, ?_, rfl⟩
      rw [hmov]
      exact ⟨_, _, _, _, _, _, ⟨rfl, hv2, rfl⟩, ⟨b, c2, rfl, rfl⟩, rfl⟩
end Go.Proofs.YtnaclkdjchnbpaaDoor
end
section
namespace Go.Proofs.YtnaclkdjchnbpaaDoor
open Go Go.K

def sAt : ByteArray := ⟨#[97, 116]⟩
def sNew : ByteArray := ⟨#[110, 101, 119]⟩
def sExpl : ByteArray := ⟨#[101, 120, 112, 108, 111, 114, 101, 100]⟩
def sVer : ByteArray := ⟨#[118, 101, 114, 115, 105, 111, 110]⟩
def sHit : ByteArray := ⟨#[104, 105, 116]⟩
def sCost : ByteArray := ⟨#[99, 111, 115, 116]⟩
def sSettled : ByteArray := ⟨#[115, 101, 116, 116, 108, 101, 100]⟩
def sLeft : ByteArray := ⟨#[108, 101, 102, 116]⟩
def sMoves : ByteArray := ⟨#[109, 111, 118, 101, 115]⟩
def sUnits : ByteArray := ⟨#[117, 110, 105, 116, 115]⟩
def sCache : ByteArray := ⟨#[99, 97, 99, 104, 101]⟩
def sSess : ByteArray := ⟨#[115, 101, 115, 115, 105, 111, 110, 115]⟩
/-- What a response may hold. -/
structure Rs.Ok (r : Rs) : Prop where
  st : I64 r.st
  op : I64 r.op
  tok : r.tok < 18446744073709551616
  unit : I64 r.unit
  ax : I64 r.ax
  ay : I64 r.ay
  new : I64 r.new
  expl : I64 r.expl
  ver : I64 r.ver
  cost : r.cost < 18446744073709551616
  settled : I64 r.settled
  left : I64 r.left
  units : I64 r.units
  cache : I64 r.cache
  sess : I64 r.sess
/-- A form that puts, of no more than so many bytes. -/
structure FormQ (β : Nat → Option Obj) (bf : Nat) (what : ByteArray) (z : List Nat × Flt) (B : Nat) (σ : Heap) : Prop where
  f : FormP β bf what z σ
  b : z.1.length ≤ B
theorem FormQ.cast {β : Nat → Option Obj} {bf : Nat} {what : ByteArray} {z z' : List Nat × Flt} {B B' : Nat} {σ : Heap} (h : FormQ β bf what z' B' σ) (e : z = z') (hB : B' ≤ B) : FormQ β bf what z B σ := ⟨e ▸ h.f, by have := h.b; rw [e]; omega⟩
theorem putF1_b {z : List Nat × Flt} {B : Nat} (h : z.1.length ≤ B) (f : ByteArray × Nat × Nat) (h8 : f.2.1 ≤ 8) : (putF1 z f).1.length ≤ B + 8 := by
  have := putF1_len z f
  omega
theorem movF_b (z : List Nat × Flt) (name : ByteArray) (ms : List Nat) {B : Nat} (h : z.1.length ≤ B) : (movF z name ms).1.length ≤ B + 8 + ms.length := by
  have h1 := putF1_b (z := (z.1, if 65535 < ms.length then note z.2 name 12 else z.2)) h (name, 4, ms.length) (by dsimp only; omega)
  have h2 : (ms.takeWhile (fun m => decide (m ≤ 3))).length ≤ ms.length := (List.takeWhile_sublist _).length_le
  unfold movF
  dsimp only
  split
  · omega
  · split
    · rw [List.length_append]; omega
    · rw [List.length_append]; omega
/-- What a response's body is put as. -/
def tellF (r : Rs) (ms : List Nat) (z : List Nat × Flt) : List Nat × Flt :=
  if r.op = 0 then putF1 z (sToken, 8, r.tok)
  else if r.op = 2 then putF1 (putF1 (putF [(sAt, 2, u64 r.ax), (sAt, 2, u64 r.ay)] (putF1 z (sUnit, 1, u64 r.unit))) (sNew, 4, u64 r.new)) (sVer, 4, u64 r.ver)
  else if r.op = 3 then putF1 (putF1 (putF1 z (sNew, 4, u64 r.new)) (sExpl, 4, u64 r.expl)) (sVer, 4, u64 r.ver)
  else if r.op = 4 ∨ r.op = 5 then movF (putF1 (putF1 (putF1 (putF1 z (sHit, 1, bit r.hit)) (sCost, 8, r.cost)) (sSettled, 4, u64 r.settled)) (sLeft, 4, u64 r.left)) sMoves ms
  else if r.op = 6 then putF1 (putF1 (putF1 (putF1 (putF1 (putF1 z (sExpl, 4, u64 r.expl)) (sVer, 4, u64 r.ver)) (sLeft, 4, u64 r.left)) (sUnits, 1, u64 r.units)) (sCache, 1, u64 r.cache)) (sSess, 1, u64 r.sess)
  else z
theorem wordQ_p (β : Nat → Option Obj) (bf bx : Nat) (cs : List Value) (t : TypeId) (ox : Nat) (what name : ByteArray) {z : List Nat × Flt} {B : Nat} {σ : Heap} (X : Nat) (s : Nat) (h1 : 1 ≤ s) (h8 : s ≤ 8) (hX : X < 18446744073709551616) (hx : cs[ox]? = some (.int .u64 (X : Int))) (hf : FormQ β bf what z B σ) (hm : B ≤ 899900) :
    Go.K.Tr Tryd.prog 55 [.pointer (some ⟨bf, 0, none⟩), .string name, .pointer (some ⟨bx, ox, none⟩), .int .i64 (s : Int)] β ((bx, cl cs t) :: σ) (fun _ σ' => ∃ τ, FormQ β bf what (putF1 z (name, s, X)) (B + 8) τ ∧ σ' = (bx, cl cs t) :: τ) := by
  refine (wordP_p β bf bx cs t ox what name z σ hf.f (by have := hf.b; omega) X s h1 h8 hX hx).mono ?_
  rintro _ _ ⟨τ, hτ, rfl⟩
  exact ⟨τ, ⟨hτ, putF1_b hf.b _ h8⟩, rfl⟩
theorem numberQ_p (β : Nat → Option Obj) (bf bx : Nat) (cs : List Value) (t : TypeId) (ox : Nat) (what name : ByteArray) {z : List Nat × Flt} {B : Nat} {σ : Heap} {N : Int} (s : Nat) (h1 : 1 ≤ s) (h8 : s ≤ 8) (hN : I64 N) (hx : cs[ox]? = some (.int .i64 N)) (hf : FormQ β bf what z B σ) (hm : B ≤ 899900) :
    Go.K.Tr Tryd.prog 52 [.pointer (some ⟨bf, 0, none⟩), .string name, .pointer (some ⟨bx, ox, none⟩), .int .i64 (s : Int)] β ((bx, cl cs t) :: σ) (fun _ σ' => ∃ τ, FormQ β bf what (putF1 z (name, s, u64 N)) (B + 8) τ ∧ σ' = (bx, cl cs t) :: τ) := by
  refine (numberP_p β bf bx cs t ox what name z σ hf.f (by have := hf.b; omega) s h1 h8 hN hx).mono ?_
  rintro _ _ ⟨τ, hτ, rfl⟩
  exact ⟨τ, ⟨hτ, putF1_b hf.b _ h8⟩, rfl⟩
theorem cellQ_p (β : Nat → Option Obj) (bf bx : Nat) (cs : List Value) (t : TypeId) (ox : Nat) (what name : ByteArray) {z : List Nat × Flt} {B : Nat} {σ : Heap} {X Y : Int} (hX : I64 X) (hY : I64 Y) (hx : cs[ox]? = some (.int .i64 X)) (hy : cs[ox + 1]? = some (.int .i64 Y)) (hf : FormQ β bf what z B σ) (hm : B ≤ 899900) :
    Go.K.Tr Tryd.prog 56 [.pointer (some ⟨bf, 0, none⟩), .string name, .pointer (some ⟨bx, ox, none⟩)] β ((bx, cl cs t) :: σ) (fun _ σ' => ∃ τ, FormQ β bf what (putF [(name, 2, u64 X), (name, 2, u64 Y)] z) (B + 16) τ ∧ σ' = (bx, cl cs t) :: τ) := by
  refine (cellP_p β bf bx cs t ox what name z σ hf.f (by have := hf.b; omega) hX hY hx hy).mono ?_
  rintro _ _ ⟨τ, hτ, rfl⟩
  exact ⟨τ, ⟨hτ, putF1_b (putF1_b hf.b _ (by dsimp only; omega)) _ (by dsimp only; omega)⟩, rfl⟩
theorem flagQ_p (β : Nat → Option Obj) (bf bx : Nat) (cs : List Value) (t : TypeId) (ox : Nat) (what name : ByteArray) {z : List Nat × Flt} {B : Nat} {σ : Heap} (b : Bool) (hx : cs[ox]? = some (.bool b)) (hf : FormQ β bf what z B σ) (hm : B ≤ 899900) :
    Go.K.Tr Tryd.prog 71 [.pointer (some ⟨bf, 0, none⟩), .string name, .pointer (some ⟨bx, ox, none⟩)] β ((bx, cl cs t) :: σ) (fun _ σ' => ∃ τ, FormQ β bf what (putF1 z (name, 1, bit b)) (B + 8) τ ∧ σ' = (bx, cl cs t) :: τ) := by
  refine (flagP_p β bf bx cs t ox what name z σ hf.f (by have := hf.b; omega) b hx).mono ?_
  rintro _ _ ⟨τ, hτ, rfl⟩
  exact ⟨τ, ⟨hτ, putF1_b hf.b _ (by dsimp only; omega)⟩, rfl⟩
theorem movesQ_p (β : Nat → Option Obj) (bf bx : Nat) (cs : List Value) (t : TypeId) (ox : Nat) (what name : ByteArray) {z : List Nat × Flt} {B : Nat} {σ : Heap} (ms : List Nat) (p : Option Addr) (n c : Nat) (hn : ms.length = n) (hB : Byt ms) (hp : SL β [] 1 n (by8 ms) p) (hx : cs[ox]? = some (.slice p n c)) (hf : FormQ β bf what z B σ) (hm : B + n ≤ 899900) :
    Go.K.Tr Tryd.prog 72 [.pointer (some ⟨bf, 0, none⟩), .string name, .pointer (some ⟨bx, ox, none⟩)] β ((bx, cl cs t) :: σ) (fun _ σ' => ∃ τ, FormQ β bf what (movF z name ms) (B + 8 + n) τ ∧ σ' = (bx, cl cs t) :: τ) := by
  refine (movesP_p β bf bx cs t ox what name z σ hf.f ms p n c hn hB hp (by have := hf.b; omega) hx).mono ?_
  rintro _ _ ⟨τ, hτ, rfl⟩
  exact ⟨τ, ⟨hτ, by have := movF_b z name ms hf.b; omega⟩, rfl⟩
set_option maxHeartbeats 16000000 in
theorem tellP_p (β : Nat → Option Obj) (bf bn : Nat) (what : ByteArray) (z : List Nat × Flt) (B : Nat) (σ : Heap) (hf : FormQ β bf what z B σ) (r : Rs) (hr : r.Ok) (ms : List Nat) (p : Option Addr) (n c : Nat) (hmv : r.mv = .slice p n c) (hn : ms.length = n) (hB : Byt ms) (hp : SL β [] 1 n (by8 ms) p) (hm : B + n ≤ 899000) :
    Go.K.Tr Tryd.prog 62 [.pointer (some ⟨bf, 0, none⟩), .pointer (some ⟨bn, 0, none⟩)] β ((bn, cl r.cells 44) :: σ) (fun _ σ' => ∃ τ, FormQ β bf what (tellF r ms z) (B + 100 + n) τ ∧ σ' = (bn, cl r.cells 44) :: τ) := by
  refine Tr.of_body Tryd.tt (args := [.pointer (some ⟨bf, 0, none⟩), .pointer (some ⟨bn, 0, none⟩)]) (fr := [(0, true, .pointer (some ⟨bf, 0, none⟩)), (1, true, .pointer (some ⟨bn, 0, none⟩))]) Tryd.func62 rfl (by decide) rfl Tryd.ntmps62 rfl rfl ?_
  intro E hE
  subst hE
  obtain ⟨CS, hCS⟩ : ∃ CS, CS = r.cells := ⟨_, rfl⟩
  have h_op : CS[1]? = some (.int .i64 r.op) := by rw [hCS]; rfl
  have h_tok : CS[2]? = some (.int .u64 (r.tok : Int)) := by rw [hCS]; rfl
  have h_unit : CS[3]? = some (.int .i64 r.unit) := by rw [hCS]; rfl
  have h_ax : CS[4]? = some (.int .i64 r.ax) := by rw [hCS]; rfl
  have h_ay : CS[5]? = some (.int .i64 r.ay) := by rw [hCS]; rfl
  have h_new : CS[6]? = some (.int .i64 r.new) := by rw [hCS]; rfl
  have h_expl : CS[7]? = some (.int .i64 r.expl) := by rw [hCS]; rfl
  have h_ver : CS[8]? = some (.int .i64 r.ver) := by rw [hCS]; rfl
  have h_hit : CS[9]? = some (.bool r.hit) := by rw [hCS]; rfl
  have h_cost : CS[10]? = some (.int .u64 (r.cost : Int)) := by rw [hCS]; rfl
  have h_settled : CS[11]? = some (.int .i64 r.settled) := by rw [hCS]; rfl
  have h_left : CS[12]? = some (.int .i64 r.left) := by rw [hCS]; rfl
  have h_mv : CS[13]? = some (.slice p n c) := by rw [hCS, ← hmv]; rfl
  have h_units : CS[14]? = some (.int .i64 r.units) := by rw [hCS]; rfl
  have h_cache : CS[15]? = some (.int .i64 r.cache) := by rw [hCS]; rfl
  have h_sess : CS[16]? = some (.int .i64 r.sess) := by rw [hCS]; rfl
  rw [← hCS]
  have kop : ∀ σ', Cel E.β ((bn, cl CS 44) :: σ') bn (0 + 1) (.int .i64 r.op) := fun σ' => .inl ⟨CS, _, List.Mem.head _, h_op⟩
  repeat' (first | refine KW.seq ?_ | refine KW.region ?_ | refine KO.nil ?_ | refine At.then_normal ?_ | refine KW.skip ?_ | refine KW.block ?_ | refine At.block_normal ?_ | ((first | apply KO.val rfl rfl rfl ?kq ?_); (case kq => ((first | apply qt_ev rfl ?hi ); (case hi => (intro h; (repeat' (first | with_reducible exact alln | with_reducible refine allc ?_ ?_ )); all_goals (first | with_reducible rfl )))))) | (refine KW.cond rfl ?_ ?_ <;> (intro hc; try simp only [kBool] at hc)) | ((first | apply KO.val (g := true) rfl rfl rfl); (first | (apply qt_load1_cel rfl rfl ?hi rfl rfl ?hc; (case hc => first | exact fun _ => (kop _)))); (case hi => (first | exact fun _ => rfl ))) | (refine KO.callF ((bn, cl CS 44) :: _) [] (List.Perm.of_eq (List.append_nil _).symm) rfl rfl rfl rfl rfl rfl rfl (wordQ_p _ bf bn CS 44 2 what sToken r.tok 8 (by omega) (by omega) hr.tok h_tok (by assumption) (by omega)) ?_; rintro _ _ ⟨s, hs, rfl⟩; refine KO.perm (σ' := (bn, cl CS 44) :: s) (List.Perm.of_eq (List.append_nil _)) ?_) | (refine KO.callF ((bn, cl CS 44) :: _) [] (List.Perm.of_eq (List.append_nil _).symm) rfl rfl rfl rfl rfl rfl rfl (wordQ_p _ bf bn CS 44 10 what sCost r.cost 8 (by omega) (by omega) hr.cost h_cost (by assumption) (by omega)) ?_; rintro _ _ ⟨s, hs, rfl⟩; refine KO.perm (σ' := (bn, cl CS 44) :: s) (List.Perm.of_eq (List.append_nil _)) ?_) | (refine KO.callF ((bn, cl CS 44) :: _) [] (List.Perm.of_eq (List.append_nil _).symm) rfl rfl rfl rfl rfl rfl rfl (numberQ_p _ bf bn CS 44 3 what sUnit 1 (by omega) (by omega) hr.unit h_unit (by assumption) (by omega)) ?_; rintro _ _ ⟨s, hs, rfl⟩; refine KO.perm (σ' := (bn, cl CS 44) :: s) (List.Perm.of_eq (List.append_nil _)) ?_) | (refine KO.callF ((bn, cl CS 44) :: _) [] (List.Perm.of_eq (List.append_nil _).symm) rfl rfl rfl rfl rfl rfl rfl (numberQ_p _ bf bn CS 44 6 what sNew 4 (by omega) (by omega) hr.new h_new (by assumption) (by omega)) ?_; rintro _ _ ⟨s, hs, rfl⟩; refine KO.perm (σ' := (bn, cl CS 44) :: s) (List.Perm.of_eq (List.append_nil _)) ?_) | (refine KO.callF ((bn, cl CS 44) :: _) [] (List.Perm.of_eq (List.append_nil _).symm) rfl rfl rfl rfl rfl rfl rfl (numberQ_p _ bf bn CS 44 7 what sExpl 4 (by omega) (by omega) hr.expl h_expl (by assumption) (by omega)) ?_; rintro _ _ ⟨s, hs, rfl⟩; refine KO.perm (σ' := (bn, cl CS 44) :: s) (List.Perm.of_eq (List.append_nil _)) ?_) | (refine KO.callF ((bn, cl CS 44) :: _) [] (List.Perm.of_eq (List.append_nil _).symm) rfl rfl rfl rfl rfl rfl rfl (numberQ_p _ bf bn CS 44 8 what sVer 4 (by omega) (by omega) hr.ver h_ver (by assumption) (by omega)) ?_; rintro _ _ ⟨s, hs, rfl⟩; refine KO.perm (σ' := (bn, cl CS 44) :: s) (List.Perm.of_eq (List.append_nil _)) ?_) | (refine KO.callF ((bn, cl CS 44) :: _) [] (List.Perm.of_eq (List.append_nil _).symm) rfl rfl rfl rfl rfl rfl rfl (numberQ_p _ bf bn CS 44 11 what sSettled 4 (by omega) (by omega) hr.settled h_settled (by assumption) (by omega)) ?_; rintro _ _ ⟨s, hs, rfl⟩; refine KO.perm (σ' := (bn, cl CS 44) :: s) (List.Perm.of_eq (List.append_nil _)) ?_) | (refine KO.callF ((bn, cl CS 44) :: _) [] (List.Perm.of_eq (List.append_nil _).symm) rfl rfl rfl rfl rfl rfl rfl (numberQ_p _ bf bn CS 44 12 what sLeft 4 (by omega) (by omega) hr.left h_left (by assumption) (by omega)) ?_; rintro _ _ ⟨s, hs, rfl⟩; refine KO.perm (σ' := (bn, cl CS 44) :: s) (List.Perm.of_eq (List.append_nil _)) ?_) | (refine KO.callF ((bn, cl CS 44) :: _) [] (List.Perm.of_eq (List.append_nil _).symm) rfl rfl rfl rfl rfl rfl rfl (numberQ_p _ bf bn CS 44 14 what sUnits 1 (by omega) (by omega) hr.units h_units (by assumption) (by omega)) ?_; rintro _ _ ⟨s, hs, rfl⟩; refine KO.perm (σ' := (bn, cl CS 44) :: s) (List.Perm.of_eq (List.append_nil _)) ?_) | (refine KO.callF ((bn, cl CS 44) :: _) [] (List.Perm.of_eq (List.append_nil _).symm) rfl rfl rfl rfl rfl rfl rfl (numberQ_p _ bf bn CS 44 15 what sCache 1 (by omega) (by omega) hr.cache h_cache (by assumption) (by omega)) ?_; rintro _ _ ⟨s, hs, rfl⟩; refine KO.perm (σ' := (bn, cl CS 44) :: s) (List.Perm.of_eq (List.append_nil _)) ?_) | (refine KO.callF ((bn, cl CS 44) :: _) [] (List.Perm.of_eq (List.append_nil _).symm) rfl rfl rfl rfl rfl rfl rfl (numberQ_p _ bf bn CS 44 16 what sSess 1 (by omega) (by omega) hr.sess h_sess (by assumption) (by omega)) ?_; rintro _ _ ⟨s, hs, rfl⟩; refine KO.perm (σ' := (bn, cl CS 44) :: s) (List.Perm.of_eq (List.append_nil _)) ?_) | (refine KO.callF ((bn, cl CS 44) :: _) [] (List.Perm.of_eq (List.append_nil _).symm) rfl rfl rfl rfl rfl rfl rfl (cellQ_p _ bf bn CS 44 4 what sAt hr.ax hr.ay h_ax h_ay (by assumption) (by omega)) ?_; rintro _ _ ⟨s, hs, rfl⟩; refine KO.perm (σ' := (bn, cl CS 44) :: s) (List.Perm.of_eq (List.append_nil _)) ?_) | (refine KO.callF ((bn, cl CS 44) :: _) [] (List.Perm.of_eq (List.append_nil _).symm) rfl rfl rfl rfl rfl rfl rfl (flagQ_p _ bf bn CS 44 9 what sHit r.hit h_hit (by assumption) (by omega)) ?_; rintro _ _ ⟨s, hs, rfl⟩; refine KO.perm (σ' := (bn, cl CS 44) :: s) (List.Perm.of_eq (List.append_nil _)) ?_) | (refine KO.callF ((bn, cl CS 44) :: _) [] (List.Perm.of_eq (List.append_nil _).symm) rfl rfl rfl rfl rfl rfl rfl (movesQ_p _ bf bn CS 44 13 what sMoves ms p n c hn hB hp h_mv (by assumption) (by omega)) ?_; rintro _ _ ⟨s, hs, rfl⟩; refine KO.perm (σ' := (bn, cl CS 44) :: s) (List.Perm.of_eq (List.append_nil _)) ?_) | (exfalso; omega) | fail)
  all_goals (refine At.end0 ⟨_, ?_, rfl⟩; refine FormQ.cast (by assumption) ?_ (by omega); unfold tellF; (repeat' (first | rw [if_pos (by omega)] | rw [if_neg (by omega)])); try rfl)
end Go.Proofs.YtnaclkdjchnbpaaDoor
end
section
namespace Go.Proofs.YtnaclkdjchnbpaaDoor
open Go Go.K

theorem wrongQ_p (β : Nat → Option Obj) (bf : Nat) (n what : ByteArray) (e : Int) {z : List Nat × Flt} {B : Nat} {σ : Heap} (hf : FormQ β bf what z B σ) :
    Go.K.Tr Tryd.prog 53 [.pointer (some ⟨bf, 0, none⟩), .string n, .int .i64 e] β σ (fun _ σ' => FormQ β bf what (z.1, note z.2 n e) B σ') := by
  obtain ⟨⟨wv, rv, dv, ev, φ, ε, hF, hE, rfl⟩, hb⟩ := hf
  refine (wrong_p β bf n what e wv rv dv ev z.2 ε φ hE).mono ?_
  rintro _ _ ⟨ev', ε', hE', rfl⟩
  exact ⟨⟨_, _, _, _, _, _, hF, hE', rfl⟩, hb⟩
theorem FormQ.err0 {β : Nat → Option Obj} {bf : Nat} {what : ByteArray} {o : List Nat} {B : Nat} {σ σ' : Heap} (h : FormQ β bf what (o, none) B σ) (hs : ∀ q ∈ σ, q ∈ σ') : Cel β σ' bf (0 + 4) .nilIface := by
  obtain ⟨⟨wv, rv, dv, ev, φ, ε, hF, ⟨rfl, rfl⟩, rfl⟩, hb⟩ := h
  exact .inl ⟨_, _, hs _ (List.Mem.head _), rfl⟩
theorem FormQ.err1 {β : Nat → Option Obj} {bf : Nat} {what : ByteArray} {o : List Nat} {y : ByteArray × Int} {B : Nat} {σ : Heap} (h : FormQ β bf what (o, some y) B σ) : ∃ v, ∀ σ', (∀ q ∈ σ, q ∈ σ') → Cel β σ' bf (0 + 4) (.iface 100 v) := by
  obtain ⟨⟨wv, rv, dv, ev, φ, ε, hF, ⟨b, c, rfl, rfl⟩, rfl⟩, hb⟩ := h
  exact ⟨_, fun σ' hs => .inl ⟨_, _, hs _ (List.Mem.head _), rfl⟩⟩
theorem FormQ.rd {β : Nat → Option Obj} {bf : Nat} {what : ByteArray} {z : List Nat × Flt} {B : Nat} {σ σ' : Heap} (h : FormQ β bf what z B σ) (hs : ∀ q ∈ σ, q ∈ σ') : Cel β σ' bf (0 + 2) (.pointer none) := by
  obtain ⟨⟨wv, rv, dv, ev, φ, ε, ⟨rfl, hv, rfl⟩, hE, rfl⟩, hb⟩ := h
  exact .inl ⟨_, _, hs _ (List.Mem.head _), rfl⟩
def sStat : ByteArray := ⟨#[115, 116, 97, 116, 117, 115]⟩
/-- Behind the op. -/
def toldF2 (r : Rs) (ms : List Nat) (c : List Nat × Flt) : List Nat × Flt := match c.2 with
  | some _ => c
  | none => if 7 ≤ r.op ∧ r.op ≠ 255 then (c.1, some (sOp, 18)) else if r.op = 255 ∧ r.st = 0 then (c.1, some (sOp, 1)) else if bodyB r.op r.st then tellF r ms c else c
def toldF (r : Rs) (ms : List Nat) (z : List Nat × Flt) : List Nat × Flt :=
  let a := putF1 z (sStat, 1, u64 r.st)
  toldF2 r ms (putF1 (a.1, if r.op < 0 ∨ 255 < r.op then note a.2 sOp 18 else a.2) (sOp, 1, u64 r.op))
set_option maxHeartbeats 16000000 in
theorem toldP_p (β : Nat → Option Obj) (bf bn : Nat) (what : ByteArray) (z : List Nat × Flt) (B : Nat) (σ : Heap) (hf : FormQ β bf what z B σ) (r : Rs) (hr : r.Ok) (ms : List Nat) (p : Option Addr) (n c : Nat) (hmv : r.mv = .slice p n c) (hn : ms.length = n) (hB : Byt ms) (hp : SL β [] 1 n (by8 ms) p) (hm : B + n ≤ 890000) :
    Go.K.Tr Tryd.prog 38 [.pointer (some ⟨bf, 0, none⟩), .pointer (some ⟨bn, 0, none⟩)] β ((bn, cl r.cells 44) :: σ) (fun _ σ' => ∃ τ, FormQ β bf what (toldF r ms z) (B + 200 + n) τ ∧ σ' = (bn, cl r.cells 44) :: τ) := by
  refine Tr.sub ?_
  refine Tr.of_body Tryd.tt (args := [.pointer (some ⟨bf, 0, none⟩), .pointer (some ⟨bn, 0, none⟩)]) (fr := [(0, true, .pointer (some ⟨bf, 0, none⟩)), (1, true, .pointer (some ⟨bn, 0, none⟩))]) Tryd.func38 rfl (by decide) rfl Tryd.ntmps38 rfl rfl ?_
  intro E hE
  subst hE
  have hbody := body_p E.β r
  have htell := fun z B s (h : FormQ E.β bf what z B s) (hb : B + n ≤ 899000) => tellP_p E.β bf bn what z B s h r hr ms p n c hmv hn hB hp hb
  dsimp only [Rs.cells] at hbody htell ⊢
  simp only [hmv] at hbody htell ⊢
  repeat' (first | refine KW.seq ?_ | refine KW.region ?_ | refine KO.nil ?_ | ((first | apply KO.val rfl rfl rfl ?kq ?_ ); (case kq => ((first | apply qt_ev rfl ?hi | ((first | apply qt_load1 rfl rfl ?hi rfl rfl ?hm ?hc ); (case hm => repeat (first | exact List.Mem.head _ )); (case hc => rfl)) ); (case hi => (intro h; (repeat' (first | with_reducible exact alln | with_reducible refine allc ?_ ?_ )); all_goals (first | with_reducible rfl )))))) | (refine KO.alloc rfl rfl rfl rfl rfl rfl ?_; intro _ _) | (apply KO.store (i := _) rfl rfl rfl rfl rfl rfl rfl rfl ?hl ?sg ?hw ?ho ?hs; (case sg => first | exact (rfl : getI 0 _ = _) ); (case hl => rfl); (case hw => rfl); (case ho => rfl); (case hs => rfl)) | fail)
  rename_i b4 _
  refine KO.callF ((b4, cl [.int .i64 r.st] 3) :: σ) [(bn, cl [.int .i64 r.st, .int .i64 r.op, .int .u64 (r.tok : Int), .int .i64 r.unit, .int .i64 r.ax, .int .i64 r.ay, .int .i64 r.new, .int .i64 r.expl, .int .i64 r.ver, .bool r.hit, .int .u64 (r.cost : Int), .int .i64 r.settled, .int .i64 r.left, .slice p n c, .int .i64 r.units, .int .i64 r.cache, .int .i64 r.sess] 44)] (by classical exact List.perm_iff_count.2 (fun _ => by first | (simp only [List.count_append, List.count_cons, List.count_nil, List.append_assoc, List.cons_append, List.nil_append]; omega))) rfl rfl rfl rfl rfl rfl rfl (numberQ_p _ bf b4 [.int .i64 r.st] 3 0 what sStat 1 (by omega) (by omega) hr.st rfl hf (by omega)) ?_
  rintro _ _ ⟨s, hs, rfl⟩
  refine KO.perm (σ' := (bn, cl [.int .i64 r.st, .int .i64 r.op, .int .u64 (r.tok : Int), .int .i64 r.unit, .int .i64 r.ax, .int .i64 r.ay, .int .i64 r.new, .int .i64 r.expl, .int .i64 r.ver, .bool r.hit, .int .u64 (r.cost : Int), .int .i64 r.settled, .int .i64 r.left, .slice p n c, .int .i64 r.units, .int .i64 r.cache, .int .i64 r.sess] 44) :: (b4, cl [.int .i64 r.st] 3) :: s) ?_ ?_
  · show List.Perm ((b4, cl [.int .i64 r.st] 3) :: s ++ [(bn, cl [.int .i64 r.st, .int .i64 r.op, .int .u64 (r.tok : Int), .int .i64 r.unit, .int .i64 r.ax, .int .i64 r.ay, .int .i64 r.new, .int .i64 r.expl, .int .i64 r.ver, .bool r.hit, .int .u64 (r.cost : Int), .int .i64 r.settled, .int .i64 r.left, .slice p n c, .int .i64 r.units, .int .i64 r.cache, .int .i64 r.sess] 44)]) _
    exact (by classical exact List.perm_iff_count.2 (fun _ => by first | (simp only [List.count_append, List.count_cons, List.count_nil, List.append_assoc, List.cons_append, List.nil_append]; omega)))
  unfold toldF
  dsimp only
  rcases ha : putF1 z (sStat, 1, u64 r.st) with ⟨o, x⟩
  rw [ha] at hs
  dsimp only
  have hcall : ∀ (w : List Nat × Flt) (s' : Heap), FormQ E.β bf what w (B + 8) s' → Go.K.Tr Tryd.prog 52 [.pointer (some ⟨bf, 0, none⟩), .string sOp, .pointer (some ⟨bn, 1, none⟩), .int .i64 1] E.β ((bn, cl [.int .i64 r.st, .int .i64 r.op, .int .u64 (r.tok : Int), .int .i64 r.unit, .int .i64 r.ax, .int .i64 r.ay, .int .i64 r.new, .int .i64 r.expl, .int .i64 r.ver, .bool r.hit, .int .u64 (r.cost : Int), .int .i64 r.settled, .int .i64 r.left, .slice p n c, .int .i64 r.units, .int .i64 r.cache, .int .i64 r.sess] 44) :: s') (fun _ σ' => ∃ τ, FormQ E.β bf what (putF1 w (sOp, 1, u64 r.op)) (B + 16) τ ∧ σ' = (bn, cl [.int .i64 r.st, .int .i64 r.op, .int .u64 (r.tok : Int), .int .i64 r.unit, .int .i64 r.ax, .int .i64 r.ay, .int .i64 r.new, .int .i64 r.expl, .int .i64 r.ver, .bool r.hit, .int .u64 (r.cost : Int), .int .i64 r.settled, .int .i64 r.left, .slice p n c, .int .i64 r.units, .int .i64 r.cache, .int .i64 r.sess] 44) :: τ) := fun w s' h => numberQ_p _ bf bn [.int .i64 r.st, .int .i64 r.op, .int .u64 (r.tok : Int), .int .i64 r.unit, .int .i64 r.ax, .int .i64 r.ay, .int .i64 r.new, .int .i64 r.expl, .int .i64 r.ver, .bool r.hit, .int .u64 (r.cost : Int), .int .i64 r.settled, .int .i64 r.left, .slice p n c, .int .i64 r.units, .int .i64 r.cache, .int .i64 r.sess] 44 1 what sOp 1 (by omega) (by omega) hr.op rfl h (by omega)
  rcases x with _ | y
  · have ke := fun σ' (h : ∀ q ∈ s, q ∈ σ') => hs.err0 h
    have kr := fun σ' (h : ∀ q ∈ s, q ∈ σ') => hs.rd h
    by_cases hop : r.op < 0 ∨ 255 < r.op
    · rw [if_pos hop]
      have htr := trivial
      repeat' (first | refine KW.seq ?_ | refine KW.region ?_ | refine KO.nil ?_ | refine At.then_normal ?_ | refine KW.skip ?_ | ((first | apply KO.val rfl rfl rfl ?kq ?_ ); (case kq => ((first | apply qt_ev rfl ?hi | ((first | apply qt_load1 rfl rfl ?hi rfl rfl ?hm ?hc ); (case hm => repeat (first | exact List.Mem.head _ | apply List.Mem.tail _ )); (case hc => rfl)) | apply qt_pick_t rfl rfl (by first | with_reducible rfl | decide) rfl ?hi | ((first | apply qt_pick_or rfl rfl rfl ?hi ?pj); (case pj => (intro h h2; first | (rw [h2]; rfl) ))) | apply qt_eqs rfl rfl rfl ?hi rfl (Or.inl rfl) | apply qt_eqs rfl rfl rfl ?hi rfl (Or.inr ⟨rfl, rfl, rfl⟩) ); (case hi => (intro h; (repeat' (first | with_reducible exact alln | with_reducible refine allc ?_ ?_ | with_reducible refine andi ?_ ?_)); all_goals (first | with_reducible rfl | with_reducible exact h | (simp [h]; done) )))))) | (apply KO.store (i := _) rfl rfl rfl rfl rfl rfl rfl rfl ?hl ?sg ?hw ?ho ?hs; (case sg => first | exact (rfl : getI 0 _ = _) ); (case hl => rfl); (case hw => rfl); (case ho => rfl); (case hs => rfl)) | (refine KW.cond rfl ?_ ?_ <;> (intro hc; try simp only [kBool] at hc)) | ((first | apply KO.val (g := true) rfl rfl rfl ); (first | (apply qt_load1_cel rfl rfl ?hi rfl rfl ?hc; (case hc => first | exact fun _ => (ke _ (fun q hq => List.mem_cons_of_mem _ (List.mem_cons_of_mem _ hq))) | exact fun _ => (kr _ (fun q hq => List.mem_cons_of_mem _ (List.mem_cons_of_mem _ hq)))))); (case hi => (first | exact fun _ => rfl ))) | (exfalso; omega) | fail)
      refine KO.callF s [(bn, cl [.int .i64 r.st, .int .i64 r.op, .int .u64 (r.tok : Int), .int .i64 r.unit, .int .i64 r.ax, .int .i64 r.ay, .int .i64 r.new, .int .i64 r.expl, .int .i64 r.ver, .bool r.hit, .int .u64 (r.cost : Int), .int .i64 r.settled, .int .i64 r.left, .slice p n c, .int .i64 r.units, .int .i64 r.cache, .int .i64 r.sess] 44), (b4, cl [.int .i64 r.st] 3)] (by classical exact List.perm_iff_count.2 (fun _ => by first | (simp only [List.count_append, List.count_cons, List.count_nil, List.append_assoc, List.cons_append, List.nil_append]; omega))) rfl rfl rfl rfl rfl rfl rfl (wrongQ_p _ bf sOp what 18 hs) ?_
      rintro _ s2 hs2
      refine KO.perm (σ' := (bn, cl [.int .i64 r.st, .int .i64 r.op, .int .u64 (r.tok : Int), .int .i64 r.unit, .int .i64 r.ax, .int .i64 r.ay, .int .i64 r.new, .int .i64 r.expl, .int .i64 r.ver, .bool r.hit, .int .u64 (r.cost : Int), .int .i64 r.settled, .int .i64 r.left, .slice p n c, .int .i64 r.units, .int .i64 r.cache, .int .i64 r.sess] 44) :: (b4, cl [.int .i64 r.st] 3) :: s2) (by classical exact List.perm_iff_count.2 (fun _ => by first | (simp only [List.count_append, List.count_cons, List.count_nil, List.append_assoc, List.cons_append, List.nil_append]; omega))) ?_
      repeat' (first | refine KW.seq ?_ | refine KW.region ?_ | refine KO.nil ?_ | ((first | apply KO.val rfl rfl rfl ?kq ?_ ); (case kq => ((first | apply qt_ev rfl ?hi ); (case hi => (intro h; (repeat' (first | with_reducible exact alln | with_reducible refine allc ?_ ?_ )); all_goals (first | with_reducible rfl )))))) | fail)
      refine KO.callF ((bn, cl [.int .i64 r.st, .int .i64 r.op, .int .u64 (r.tok : Int), .int .i64 r.unit, .int .i64 r.ax, .int .i64 r.ay, .int .i64 r.new, .int .i64 r.expl, .int .i64 r.ver, .bool r.hit, .int .u64 (r.cost : Int), .int .i64 r.settled, .int .i64 r.left, .slice p n c, .int .i64 r.units, .int .i64 r.cache, .int .i64 r.sess] 44) :: s2) [(b4, cl [.int .i64 r.st] 3)] (by classical exact List.perm_iff_count.2 (fun _ => by first | (simp only [List.count_append, List.count_cons, List.count_nil, List.append_assoc, List.cons_append, List.nil_append]; omega))) rfl rfl rfl rfl rfl rfl rfl (hcall _ s2 hs2) ?_
      rintro _ _ ⟨s3, hs3, rfl⟩
      have hs4 : FormQ E.β bf what (o, some (sOp, 18)) (B + 16) s3 := hs3
      obtain ⟨v, ke2⟩ := hs4.err1
      repeat' (first | refine KW.seq ?_ | refine KW.region ?_ | refine KO.nil ?_ | refine At.then_normal ?_ | refine KW.ret ?_ | refine KW.block ?_ | refine At.block_ret ?_ | refine KW.cond_t rfl (by first | decide) ?_ | ((first | apply KO.val rfl rfl rfl ?kq ?_ ); (case kq => ((first | apply qt_ev rfl ?hi | apply qt_nes rfl rfl rfl ?hi rfl (Or.inl rfl) ); (case hi => (intro h; (repeat' (first | with_reducible exact alln | with_reducible refine allc ?_ ?_ | with_reducible refine andi ?_ ?_)); all_goals (first | with_reducible rfl )))))) | ((first | apply KO.val (g := true) rfl rfl rfl ); (first | (apply qt_load1_cel rfl rfl ?hi rfl rfl ?hc; (case hc => first | exact fun _ => (ke2 _ (fun q hq => List.mem_cons_of_mem _ (List.mem_append_left _ hq)))))); (case hi => (first | exact fun _ => rfl ))) | fail)
      refine At.done_ret [] trivial ⟨(bn, cl [.int .i64 r.st, .int .i64 r.op, .int .u64 (r.tok : Int), .int .i64 r.unit, .int .i64 r.ax, .int .i64 r.ay, .int .i64 r.new, .int .i64 r.expl, .int .i64 r.ver, .bool r.hit, .int .u64 (r.cost : Int), .int .i64 r.settled, .int .i64 r.left, .slice p n c, .int .i64 r.units, .int .i64 r.cache, .int .i64 r.sess] 44) :: s3, List.Sublist.cons_cons _ (List.sublist_append_left _ _), _, FormQ.cast hs4 rfl (by omega), rfl⟩
    · rw [if_neg hop]
      have htr := trivial
      repeat' (first | refine KW.seq ?_ | refine KW.region ?_ | refine KO.nil ?_ | refine At.then_normal ?_ | refine KW.skip ?_ | ((first | apply KO.val rfl rfl rfl ?kq ?_ ); (case kq => ((first | apply qt_ev rfl ?hi | ((first | apply qt_load1 rfl rfl ?hi rfl rfl ?hm ?hc ); (case hm => repeat (first | exact List.Mem.head _ | apply List.Mem.tail _ )); (case hc => rfl)) | apply qt_pick_t rfl rfl (by first | with_reducible rfl | decide) rfl ?hi | ((first | apply qt_pick_or rfl rfl rfl ?hi ?pj); (case pj => (intro h h2; first | (rw [h2]; rfl) ))) | apply qt_eqs rfl rfl rfl ?hi rfl (Or.inl rfl) | apply qt_eqs rfl rfl rfl ?hi rfl (Or.inr ⟨rfl, rfl, rfl⟩) ); (case hi => (intro h; (repeat' (first | with_reducible exact alln | with_reducible refine allc ?_ ?_ | with_reducible refine andi ?_ ?_)); all_goals (first | with_reducible rfl | with_reducible exact h | (simp [h]; done) )))))) | (apply KO.store (i := _) rfl rfl rfl rfl rfl rfl rfl rfl ?hl ?sg ?hw ?ho ?hs; (case sg => first | exact (rfl : getI 0 _ = _) ); (case hl => rfl); (case hw => rfl); (case ho => rfl); (case hs => rfl)) | (refine KW.cond rfl ?_ ?_ <;> (intro hc; try simp only [kBool] at hc)) | ((first | apply KO.val (g := true) rfl rfl rfl ); (first | (apply qt_load1_cel rfl rfl ?hi rfl rfl ?hc; (case hc => first | exact fun _ => (ke _ (fun q hq => List.mem_cons_of_mem _ (List.mem_cons_of_mem _ hq))) | exact fun _ => (kr _ (fun q hq => List.mem_cons_of_mem _ (List.mem_cons_of_mem _ hq))) ))); (case hi => (first | exact fun _ => rfl ))) | (exfalso; omega) | fail)
      refine KO.callF ((bn, cl [.int .i64 r.st, .int .i64 r.op, .int .u64 (r.tok : Int), .int .i64 r.unit, .int .i64 r.ax, .int .i64 r.ay, .int .i64 r.new, .int .i64 r.expl, .int .i64 r.ver, .bool r.hit, .int .u64 (r.cost : Int), .int .i64 r.settled, .int .i64 r.left, .slice p n c, .int .i64 r.units, .int .i64 r.cache, .int .i64 r.sess] 44) :: s) [(b4, cl [.int .i64 r.st] 3)] (by classical exact List.perm_iff_count.2 (fun _ => by first | (simp only [List.count_append, List.count_cons, List.count_nil, List.append_assoc, List.cons_append, List.nil_append]; omega))) rfl rfl rfl rfl rfl rfl rfl (hcall _ s hs) ?_
      rintro _ _ ⟨s3, hs3, rfl⟩
      rcases hc2 : putF1 (o, none) (sOp, 1, u64 r.op) with ⟨o2, x2⟩
      rw [hc2] at hs3
      refine KO.permS (σ' := (bn, cl [.int .i64 r.st, .int .i64 r.op, .int .u64 (r.tok : Int), .int .i64 r.unit, .int .i64 r.ax, .int .i64 r.ay, .int .i64 r.new, .int .i64 r.expl, .int .i64 r.ver, .bool r.hit, .int .u64 (r.cost : Int), .int .i64 r.settled, .int .i64 r.left, .slice p n c, .int .i64 r.units, .int .i64 r.cache, .int .i64 r.sess] 44) :: s3) (φ := [(b4, cl [.int .i64 r.st] 3)]) (by first | exact List.Perm.refl _ ) ?_
      rcases x2 with _ | y
      · have ke2 := fun σ' (h : ∀ q ∈ s3, q ∈ σ') => hs3.err0 h
        have htell2 := htell _ _ s3 hs3 (by omega)
        repeat' (first | refine KW.seq ?_ | refine KW.region ?_ | refine KO.nil ?_ | refine At.then_normal ?_ | refine KW.skip ?_ | refine KW.block ?_ | refine At.block_normal ?_ | refine KW.cond_f rfl (by first | decide) ?_ | ((first | apply KO.val rfl rfl rfl ?kq ?_ ); (case kq => ((first | apply qt_ev rfl ?hi | ((first | apply qt_load1 rfl rfl ?hi rfl rfl ?hm ?hc | apply qt_loadN rfl rfl ?hi rfl rfl rfl ?hm ?hc); (case hm => repeat (first | exact List.Mem.head _ )); (case hc => rfl)) | refine qt_callQ rfl rfl ?hi (fun hg => Tr.quiet hbody) | ((first | apply qt_pick_and rfl rfl rfl ?hi ?pj ); (case pj => (intro h h2; first | with_reducible exact h2 ))) | apply qt_nes rfl rfl rfl ?hi rfl (Or.inr ⟨rfl, rfl, rfl⟩)); (case hi => (intro h; (repeat' (first | with_reducible exact alln | with_reducible refine allc ?_ ?_ | with_reducible refine andi ?_ ?_)); all_goals (first | with_reducible rfl | with_reducible exact h )))))) | (refine KW.cond rfl ?_ ?_ <;> (intro hc; try simp only [kBool] at hc)) | ((first | apply KO.val (g := true) rfl rfl rfl ); (first | (apply qt_load1_cel rfl rfl ?hi rfl rfl ?hc; (case hc => first | exact fun _ => (ke2 _ (fun q hq => List.mem_cons_of_mem _ hq))))); (case hi => (first | exact fun _ => rfl ))) | (refine KO.callF s3 [(bn, cl [.int .i64 r.st, .int .i64 r.op, .int .u64 (r.tok : Int), .int .i64 r.unit, .int .i64 r.ax, .int .i64 r.ay, .int .i64 r.new, .int .i64 r.expl, .int .i64 r.ver, .bool r.hit, .int .u64 (r.cost : Int), .int .i64 r.settled, .int .i64 r.left, .slice p n c, .int .i64 r.units, .int .i64 r.cache, .int .i64 r.sess] 44)] (List.perm_append_singleton _ _).symm rfl rfl rfl rfl rfl rfl rfl (wrongQ_p _ bf sOp what 18 hs3) ?_; rintro _ s5 hs5; refine KO.perm (σ' := (bn, cl [.int .i64 r.st, .int .i64 r.op, .int .u64 (r.tok : Int), .int .i64 r.unit, .int .i64 r.ax, .int .i64 r.ay, .int .i64 r.new, .int .i64 r.expl, .int .i64 r.ver, .bool r.hit, .int .u64 (r.cost : Int), .int .i64 r.settled, .int .i64 r.left, .slice p n c, .int .i64 r.units, .int .i64 r.cache, .int .i64 r.sess] 44) :: s5) (List.perm_append_singleton _ _) ?_) | (refine KO.callF s3 [(bn, cl [.int .i64 r.st, .int .i64 r.op, .int .u64 (r.tok : Int), .int .i64 r.unit, .int .i64 r.ax, .int .i64 r.ay, .int .i64 r.new, .int .i64 r.expl, .int .i64 r.ver, .bool r.hit, .int .u64 (r.cost : Int), .int .i64 r.settled, .int .i64 r.left, .slice p n c, .int .i64 r.units, .int .i64 r.cache, .int .i64 r.sess] 44)] (List.perm_append_singleton _ _).symm rfl rfl rfl rfl rfl rfl rfl (wrongQ_p _ bf sOp what 1 hs3) ?_; rintro _ s5 hs5; refine KO.perm (σ' := (bn, cl [.int .i64 r.st, .int .i64 r.op, .int .u64 (r.tok : Int), .int .i64 r.unit, .int .i64 r.ax, .int .i64 r.ay, .int .i64 r.new, .int .i64 r.expl, .int .i64 r.ver, .bool r.hit, .int .u64 (r.cost : Int), .int .i64 r.settled, .int .i64 r.left, .slice p n c, .int .i64 r.units, .int .i64 r.cache, .int .i64 r.sess] 44) :: s5) (List.perm_append_singleton _ _) ?_) | (refine KO.callF ((bn, cl [.int .i64 r.st, .int .i64 r.op, .int .u64 (r.tok : Int), .int .i64 r.unit, .int .i64 r.ax, .int .i64 r.ay, .int .i64 r.new, .int .i64 r.expl, .int .i64 r.ver, .bool r.hit, .int .u64 (r.cost : Int), .int .i64 r.settled, .int .i64 r.left, .slice p n c, .int .i64 r.units, .int .i64 r.cache, .int .i64 r.sess] 44) :: s3) [] (List.Perm.of_eq (List.append_nil _).symm) rfl rfl rfl rfl rfl rfl rfl htell2 ?_; rintro _ _ ⟨s5, hs5, rfl⟩; refine KO.perm (σ' := (bn, cl [.int .i64 r.st, .int .i64 r.op, .int .u64 (r.tok : Int), .int .i64 r.unit, .int .i64 r.ax, .int .i64 r.ay, .int .i64 r.new, .int .i64 r.expl, .int .i64 r.ver, .bool r.hit, .int .u64 (r.cost : Int), .int .i64 r.settled, .int .i64 r.left, .slice p n c, .int .i64 r.units, .int .i64 r.cache, .int .i64 r.sess] 44) :: s5) (List.Perm.of_eq (List.append_nil _)) ?_) | fail)
        · refine At.end0 ⟨_, List.Sublist.refl _, _, FormQ.cast hs5 ?_ (by omega), rfl⟩
          unfold toldF2
          dsimp only
          rw [if_pos (by omega)]
          rfl
        · refine At.end0 ⟨_, List.Sublist.refl _, _, FormQ.cast hs5 ?_ (by omega), rfl⟩
          unfold toldF2
          dsimp only
          rw [if_neg (by omega), if_pos (by omega)]
          rfl
        · refine At.end0 ⟨_, List.Sublist.refl _, _, FormQ.cast hs5 ?_ (by omega), rfl⟩
          unfold toldF2
          dsimp only
          rw [if_neg (by omega), if_neg (by omega), if_pos (by assumption)]
        · refine At.end0 ⟨_, List.Sublist.refl _, _, FormQ.cast hs3 ?_ (by omega), rfl⟩
          unfold toldF2
          dsimp only
          rw [if_neg (by omega), if_neg (by omega), if_neg (by simpa using hc)]
      · obtain ⟨v, ke2⟩ := hs3.err1
        repeat' (first | refine KW.seq ?_ | refine KW.region ?_ | refine KO.nil ?_ | refine At.then_normal ?_ | refine KW.ret ?_ | refine KW.block ?_ | refine At.block_ret ?_ | refine KW.cond_t rfl (by first | decide) ?_ | ((first | apply KO.val rfl rfl rfl ?kq ?_ ); (case kq => ((first | apply qt_ev rfl ?hi | apply qt_nes rfl rfl rfl ?hi rfl (Or.inl rfl) ); (case hi => (intro h; (repeat' (first | with_reducible exact alln | with_reducible refine allc ?_ ?_ | with_reducible refine andi ?_ ?_)); all_goals (first | with_reducible rfl )))))) | ((first | apply KO.val (g := true) rfl rfl rfl ); (first | (apply qt_load1_cel rfl rfl ?hi rfl rfl ?hc; (case hc => first | exact fun _ => (ke2 _ (fun q hq => List.mem_cons_of_mem _ hq))))); (case hi => (first | exact fun _ => rfl ))) | fail)
        refine At.done_ret [] trivial ⟨_, List.Sublist.refl _, _, FormQ.cast hs3 rfl (by omega), rfl⟩
  · obtain ⟨v, ke⟩ := hs.err1
    have e0 : (if r.op < 0 ∨ 255 < r.op then note (some y) sOp 18 else some y) = some y := by split <;> rfl
    rw [e0]
    have htr := trivial
    repeat' (first | refine KW.seq ?_ | refine KW.region ?_ | refine KO.nil ?_ | refine At.then_normal ?_ | refine KW.skip ?_ | refine KW.cond_f rfl (by first | with_reducible rfl ) ?_ | refine KO.skip' rfl (by first | with_reducible rfl ) rfl rfl ?_ | refine KO.skipIn rfl (by first | with_reducible rfl ) rfl rfl ?_ | ((first | apply KO.val rfl rfl rfl ?kq ?_ ); (case kq => ((first | apply qt_ev rfl ?hi | ((first | apply qt_load1 rfl rfl ?hi rfl rfl ?hm ?hc ); (case hm => repeat (first | exact List.Mem.head _ | apply List.Mem.tail _ )); (case hc => rfl)) | apply qt_pick_f rfl rfl (by first | with_reducible rfl ) rfl ?hi | apply qt_eqs rfl rfl rfl ?hi rfl (Or.inl rfl) ); (case hi => (intro h; (repeat' (first | with_reducible exact alln | with_reducible refine allc ?_ ?_ | with_reducible refine andi ?_ ?_)); all_goals (first | with_reducible rfl )))))) | (apply KO.store (i := _) rfl rfl rfl rfl rfl rfl rfl rfl ?hl ?sg ?hw ?ho ?hs; (case sg => first | exact (rfl : getI 0 _ = _) ); (case hl => rfl); (case hw => rfl); (case ho => rfl); (case hs => rfl)) | ((first | apply KO.val (g := true) rfl rfl rfl ); (first | (apply qt_load1_cel rfl rfl ?hi rfl rfl ?hc; (case hc => first | exact fun _ => (ke _ (fun q hq => List.mem_cons_of_mem _ (List.mem_cons_of_mem _ hq))) ))); (case hi => (first | exact fun _ => rfl ))) | fail)
    refine KO.callF ((bn, cl [.int .i64 r.st, .int .i64 r.op, .int .u64 (r.tok : Int), .int .i64 r.unit, .int .i64 r.ax, .int .i64 r.ay, .int .i64 r.new, .int .i64 r.expl, .int .i64 r.ver, .bool r.hit, .int .u64 (r.cost : Int), .int .i64 r.settled, .int .i64 r.left, .slice p n c, .int .i64 r.units, .int .i64 r.cache, .int .i64 r.sess] 44) :: s) [(b4, cl [.int .i64 r.st] 3)] (by classical exact List.perm_iff_count.2 (fun _ => by first | (simp only [List.count_append, List.count_cons, List.count_nil, List.append_assoc, List.cons_append, List.nil_append]; omega))) rfl rfl rfl rfl rfl rfl rfl (hcall _ s hs) ?_
    rintro _ _ ⟨s3, hs3, rfl⟩
    have hs4 : FormQ E.β bf what (o, some y) (B + 16) s3 := hs3
    obtain ⟨v, ke2⟩ := hs4.err1
    repeat' (first | refine KW.seq ?_ | refine KW.region ?_ | refine KO.nil ?_ | refine At.then_normal ?_ | refine KW.ret ?_ | refine KW.block ?_ | refine At.block_ret ?_ | refine KW.cond_t rfl (by first | decide) ?_ | ((first | apply KO.val rfl rfl rfl ?kq ?_ ); (case kq => ((first | apply qt_ev rfl ?hi | apply qt_nes rfl rfl rfl ?hi rfl (Or.inl rfl) ); (case hi => (intro h; (repeat' (first | with_reducible exact alln | with_reducible refine allc ?_ ?_ | with_reducible refine andi ?_ ?_)); all_goals (first | with_reducible rfl )))))) | ((first | apply KO.val (g := true) rfl rfl rfl ); (first | (apply qt_load1_cel rfl rfl ?hi rfl rfl ?hc; (case hc => first | exact fun _ => (ke2 _ (fun q hq => List.mem_cons_of_mem _ (List.mem_append_left _ hq))) ))); (case hi => (first | exact fun _ => rfl ))) | fail)
    refine At.done_ret [] trivial ⟨(bn, cl [.int .i64 r.st, .int .i64 r.op, .int .u64 (r.tok : Int), .int .i64 r.unit, .int .i64 r.ax, .int .i64 r.ay, .int .i64 r.new, .int .i64 r.expl, .int .i64 r.ver, .bool r.hit, .int .u64 (r.cost : Int), .int .i64 r.settled, .int .i64 r.left, .slice p n c, .int .i64 r.units, .int .i64 r.cache, .int .i64 r.sess] 44) :: s3, List.Sublist.cons_cons _ (List.sublist_append_left _ _), _, FormQ.cast hs4 rfl (by omega), rfl⟩
end Go.Proofs.YtnaclkdjchnbpaaDoor
end
section
namespace Go.Proofs.YtnaclkdjchnbpaaDoor
open Go Go.K

/-- A response without the fields that it has. -/
def spareR (r : Rs) : Rs :=
  let l := { r with st := 0, op := 0 }
  if bodyB r.op r.st then
    (if r.op = 0 then { l with tok := 0 }
    else if r.op = 2 then { l with unit := 0, ax := 0, ay := 0, new := 0, ver := 0 }
    else if r.op = 3 then { l with new := 0, expl := 0, ver := 0 }
    else if r.op = 4 ∨ r.op = 5 then { l with hit := false, cost := 0, settled := 0, left := 0, mv := .slice none 0 0 }
    else if r.op = 6 then { l with expl := 0, ver := 0, left := 0, units := 0, cache := 0, sess := 0 }
    else l)
  else l
set_option maxHeartbeats 4000000 in
theorem spare_p (β : Nat → Option Obj) (r : Rs) (p : Option Addr) (n c : Nat) (hmv : r.mv = .slice p n c) :
    Go.K.Tr Tryd.prog 39 [.agg r.cells.toArray] β [] (fun v s => v = .agg (spareR r).cells.toArray ∧ s = []) := by
  obtain ⟨st, op, tok, unit, ax, ay, new, expl, ver, hit, cost, settled, left, mv, units, cache, sess⟩ := r
  dsimp only at hmv
  subst hmv
  refine Tr.sub ?_
  refine Tr.of_body Tryd.tt (args := [.agg (Rs.mk st op tok unit ax ay new expl ver hit cost settled left (.slice p n c) units cache sess).cells.toArray]) (fr := [(0, true, .agg (Rs.mk st op tok unit ax ay new expl ver hit cost settled left (.slice p n c) units cache sess).cells.toArray)]) Tryd.func39 rfl (by decide) rfl Tryd.ntmps39 rfl rfl ?_
  intro E hE
  subst hE
  have hbody := body_p E.β ⟨st, op, tok, unit, ax, ay, new, expl, ver, hit, cost, settled, left, .slice p n c, units, cache, sess⟩
  dsimp only [Rs.cells] at hbody ⊢
  repeat' (first | refine KW.seq ?_ | refine KW.region ?_ | refine KO.nil ?_ | refine At.then_normal ?_ | refine KW.skip ?_ | refine KW.ret ?_ | refine At.then_ret ?_ | refine KW.block ?_ | ((first | apply KO.val rfl rfl rfl ?kq ?_); (case kq => ((first | apply qt_ev rfl ?hi | ((first | apply qt_load1 rfl rfl ?hi rfl rfl ?hm ?hc | apply qt_loadN rfl rfl ?hi rfl rfl rfl ?hm ?hc); (case hm => repeat (first | exact List.Mem.head _ | apply List.Mem.tail _ )); (case hc => rfl)) | refine qt_callQ rfl rfl ?hi (fun hg => Tr.quiet hbody) | apply qt_build rfl rfl ?hi rfl ); (case hi => (intro h; (repeat' (first | with_reducible exact alln | with_reducible refine allc ?_ ?_ )); all_goals (first | with_reducible rfl )))))) | (refine KO.box rfl rfl rfl rfl rfl rfl ?_; intro _ _) | (refine KO.alloc rfl rfl rfl rfl rfl rfl ?_; intro _ _) | (apply KO.store (i := _) rfl rfl rfl rfl rfl rfl rfl rfl ?hl ?sg ?hw ?ho ?hs; (case sg => first | exact (rfl : getI 0 _ = _) | exact (rfl : getI 1 _ = _) ); (case hl => rfl); (case hw => rfl); (case ho => rfl); (case hs => rfl)) | (refine KW.cond rfl ?_ ?_ <;> (intro hc; try simp only [kBool] at hc)) | (exfalso; omega) | fail)
  all_goals
    ((first | apply At.done_ret ); (focus (repeat' (first | exact ResVs.nil' | apply ResVs.cons' | (apply ResV.cellN rfl ?hm rfl rfl rfl ?hc; (case hm => repeat (first | exact List.Mem.head _ | apply List.Mem.tail _ )); (case hc => rfl))))); dsimp only [resVal])
    refine ⟨[], List.nil_sublist _, ?_, rfl⟩
    unfold spareR
    dsimp only
    first | rw [if_pos (by assumption)] | rw [if_neg (by simp_all)]
    (repeat' (first | rw [if_pos (by omega)] | rw [if_neg (by omega)]))
    try rfl
def zR : Rs := ⟨0, 0, 0, 0, 0, 0, 0, 0, 0, false, 0, 0, 0, .slice none 0 0, 0, 0, 0⟩
def spareM (r : Rs) (ms : List Nat) : List Nat := if bodyB r.op r.st ∧ (r.op = 4 ∨ r.op = 5) then [] else ms
/-- Whether a field is not nought that a response has not. -/
def leftS (r : Rs) (ms : List Nat) : Bool := !(spareR r).eqB zR (decide (spareM r ms = []))
theorem spareR_mv1 {r : Rs} (h : bodyB r.op r.st ∧ (r.op = 4 ∨ r.op = 5)) : (spareR r).mv = .slice none 0 0 := by
  obtain ⟨hb, h4⟩ := h
  unfold spareR
  dsimp only
  rw [if_pos hb, if_neg (by omega), if_neg (by omega), if_neg (by omega), if_pos h4]
theorem spareR_mv2 {r : Rs} (h : ¬ (bodyB r.op r.st ∧ (r.op = 4 ∨ r.op = 5))) : (spareR r).mv = r.mv := by
  unfold spareR
  dsimp only
  split
  · rename_i hb
    split
    · rfl
    · split
      · rfl
      · split
        · rfl
        · split
          · rename_i h4
            exact absurd ⟨hb, h4⟩ h
          · split <;> rfl
  · rfl
theorem sameS_p (β : Nat → Option Obj) (r : Rs) (ms : List Nat) (p : Option Addr) (n c : Nat) (hmv : r.mv = .slice p n c) (hn : ms.length = n) (hp : SL β [] 1 n (by8 ms) p) (hm : n ≤ 1000000) :
    Go.K.Tr Tryd.prog 19 [.agg (spareR r).cells.toArray, .agg zR.cells.toArray] β [] (fun v s => v = .bool ((spareR r).eqB zR (decide (spareM r ms = []))) ∧ s = []) := by
  by_cases h : bodyB r.op r.st ∧ (r.op = 4 ∨ r.op = 5)
  · have e : (spareR r).mv = .slice none 0 0 := spareR_mv1 h
    have e2 : spareM r ms = [] := if_pos h
    rw [e2]
    exact Same_p β (spareR r) zR [] [] none none 0 0 0 0 e rfl rfl rfl (SL.nil8 _ _) (SL.nil8 _ _) (by omega) (by omega)
  · have e : (spareR r).mv = .slice p n c := by rw [spareR_mv2 h, hmv]
    have e2 : spareM r ms = ms := if_neg h
    rw [e2]
    exact Same_p β (spareR r) zR ms [] p none c 0 n 0 e rfl hn rfl hp (SL.nil8 _ _) hm (by omega)
def sRes : ByteArray := ⟨#[114, 101, 115, 112, 111, 110, 115, 101]⟩
theorem endW_p (β : Nat → Option Obj) (bf : Nat) {z : List Nat × Flt} {B : Nat} {σ : Heap} (hf : FormQ β bf sRes z B σ) {rest b : Bool} (hb : rest = b) :
    Go.K.Tr Tryd.prog 30 [.pointer (some ⟨bf, 0, none⟩), .bool rest, .int .i64 1] β σ (fun v σ' => ∃ wv dv ev φ ε, Vec 5 1 z.1.length (by8 z.1) wv φ ∧ EV sRes (if b then note z.2 sEnd 1 else z.2) ev ε ∧ v = ev ∧ σ' = (bf, cl [.string sRes, wv, .pointer none, dv, ev] 80) :: (ε ++ φ)) := by
  subst hb
  refine (end_p β bf sRes (.put z.1) z.2 σ hf.f rest 1).mono ?_
  rintro v s ⟨wv, rv, dv, ev, φ, ε, ⟨rfl, hv, rfl⟩, hE, rfl, rfl⟩
  exact ⟨wv, _, _, φ, ε, hv, hE, rfl, rfl⟩
/-- A response's payload, and what is wrong with it. -/
def wri (r : Rs) (ms : List Nat) : Flt × List Nat := fin (cutO (toldF r ms ([], none))) (leftS r ms)
def WriR (r : Rs) (ms : List Nat) (v : Value) (σ : Heap) : Prop := match wri r ms with
  | (some y, _) => ∃ ev ε, EV sRes (some y) ev ε ∧ v = .tuple #[.slice none 0 0, ev] ∧ σ = ε
  | (none, o) => ∃ b, v = .tuple #[.slice (some ⟨b, 0, none⟩) o.length o.length, .nilIface] ∧ σ = [(b, cl (by8 o) 5)]
set_option maxHeartbeats 16000000 in
theorem Write_p (β : Nat → Option Obj) (r : Rs) (hr : r.Ok) (ms : List Nat) (p : Option Addr) (n c : Nat) (hmv : r.mv = .slice p n c) (hn : ms.length = n) (hB : Byt ms) (hp : SL β [] 1 n (by8 ms) p) (hm : n ≤ 800000) :
    Go.K.Tr Tryd.prog 16 [.agg r.cells.toArray] β [] (fun v σ' => WriR r ms v σ') := by
  refine Tr.sub ?_
  refine Tr.of_body Tryd.tt (args := [.agg r.cells.toArray]) (fr := [(0, true, .agg r.cells.toArray)]) Tryd.func16 rfl (by decide) rfl Tryd.ntmps16 rfl rfl ?_
  intro E hE
  subst hE
  have hT := fun (bf bn : Nat) (s : Heap) (h : FormQ E.β bf sRes ([], none) 0 s) => toldP_p E.β bf bn sRes ([], none) 0 s h r hr ms p n c hmv hn hB hp (by omega)
  have hP := spare_p E.β r p n c hmv
  have hS : Go.K.Tr Tryd.prog 19 [.agg (spareR r).cells.toArray, .agg #[.int .i64 0, .int .i64 0, .int .u64 0, .int .i64 0, .int .i64 0, .int .i64 0, .int .i64 0, .int .i64 0, .int .i64 0, .bool false, .int .u64 0, .int .i64 0, .int .i64 0, .slice none 0 0, .int .i64 0, .int .i64 0, .int .i64 0]] E.β [] (fun v s => v = .bool ((spareR r).eqB zR (decide (spareM r ms = []))) ∧ s = []) := sameS_p E.β r ms p n c hmv hn hp (by omega)
  obtain ⟨q, hq⟩ : ∃ q, q = (spareR r).eqB zR (decide (spareM r ms = [])) := ⟨_, rfl⟩
  rw [← hq] at hS
  have hleft : leftS r ms = !q := by rw [hq]; rfl
  obtain ⟨SP, hSP⟩ : ∃ SP, SP = Value.agg (spareR r).cells.toArray := ⟨_, rfl⟩
  rw [← hSP] at hP hS
  dsimp only [Rs.cells] at hT hP ⊢
  simp only [hmv] at hT hP ⊢
  repeat' (first | refine KW.seq ?_ | refine KW.region ?_ | refine KO.nil ?_ | ((first | apply KO.val rfl rfl rfl ?kq ?_); (case kq => ((first | apply qt_ev rfl ?hi ); (case hi => (intro h; (repeat' (first | with_reducible exact alln | with_reducible refine allc ?_ ?_ )); all_goals (first | with_reducible rfl )))))) | (refine KO.box rfl rfl rfl rfl rfl rfl ?_; intro _ _) | fail)
  rename_i bx _
  refine KO.callF [] [(bx, cl [.int .i64 r.st, .int .i64 r.op, .int .u64 (r.tok : Int), .int .i64 r.unit, .int .i64 r.ax, .int .i64 r.ay, .int .i64 r.new, .int .i64 r.expl, .int .i64 r.ver, .bool r.hit, .int .u64 (r.cost : Int), .int .i64 r.settled, .int .i64 r.left, (.slice p n c), .int .i64 r.units, .int .i64 r.cache, .int .i64 r.sess] 44)] (by classical exact List.perm_iff_count.2 (fun _ => by first | (simp only [List.count_append, List.count_cons, List.count_nil, List.append_assoc, List.cons_append, List.nil_append]; done) )) rfl rfl rfl rfl rfl rfl rfl (writes_p _ sRes) ?_
  rintro _ s ⟨bf, rfl, hf⟩
  refine KO.perm (σ' := (bx, cl [.int .i64 r.st, .int .i64 r.op, .int .u64 (r.tok : Int), .int .i64 r.unit, .int .i64 r.ax, .int .i64 r.ay, .int .i64 r.new, .int .i64 r.expl, .int .i64 r.ver, .bool r.hit, .int .u64 (r.cost : Int), .int .i64 r.settled, .int .i64 r.left, (.slice p n c), .int .i64 r.units, .int .i64 r.cache, .int .i64 r.sess] 44) :: s) (by classical exact List.perm_iff_count.2 (fun _ => by first | (simp only [List.count_append, List.count_cons, List.count_nil, List.append_assoc, List.cons_append, List.nil_append]; omega))) ?_
  repeat' (first | refine KW.seq ?_ | refine KW.region ?_ | refine KO.nil ?_ | ((first | apply KO.val rfl rfl rfl ?kq ?_); (case kq => ((first | apply qt_ev rfl ?hi | ((first | apply qt_loadN rfl rfl ?hi rfl rfl rfl ?hm ?hc); (case hm => repeat (first | exact List.Mem.head _ )); (case hc => rfl)) ); (case hi => (intro h; (repeat' (first | with_reducible exact alln | with_reducible refine allc ?_ ?_ )); all_goals (first | with_reducible rfl )))))) | (refine KO.alloc rfl rfl rfl rfl rfl rfl ?_; intro _ _) | (apply KO.store (i := _) rfl rfl rfl rfl rfl rfl rfl rfl ?hl ?sg ?hw ?ho ?hs; (case sg => first | exact (rfl : getI 0 _ = _) ); (case hl => rfl); (case hw => rfl); (case ho => rfl); (case hs => rfl)) | fail)
  rename_i b5 _
  refine KO.callF ((b5, cl [.int .i64 r.st, .int .i64 r.op, .int .u64 (r.tok : Int), .int .i64 r.unit, .int .i64 r.ax, .int .i64 r.ay, .int .i64 r.new, .int .i64 r.expl, .int .i64 r.ver, .bool r.hit, .int .u64 (r.cost : Int), .int .i64 r.settled, .int .i64 r.left, (.slice p n c), .int .i64 r.units, .int .i64 r.cache, .int .i64 r.sess] 44) :: s) [(bx, cl [.int .i64 r.st, .int .i64 r.op, .int .u64 (r.tok : Int), .int .i64 r.unit, .int .i64 r.ax, .int .i64 r.ay, .int .i64 r.new, .int .i64 r.expl, .int .i64 r.ver, .bool r.hit, .int .u64 (r.cost : Int), .int .i64 r.settled, .int .i64 r.left, (.slice p n c), .int .i64 r.units, .int .i64 r.cache, .int .i64 r.sess] 44)] (by classical exact List.perm_iff_count.2 (fun _ => by first | (simp only [List.count_append, List.count_cons, List.count_nil, List.append_assoc, List.cons_append, List.nil_append]; omega))) rfl rfl rfl rfl rfl rfl rfl (hT bf b5 s ⟨hf, Nat.le_refl _⟩) ?_
  rintro _ _ ⟨s2, hs2, rfl⟩
  refine KO.perm (σ' := (bx, cl [.int .i64 r.st, .int .i64 r.op, .int .u64 (r.tok : Int), .int .i64 r.unit, .int .i64 r.ax, .int .i64 r.ay, .int .i64 r.new, .int .i64 r.expl, .int .i64 r.ver, .bool r.hit, .int .u64 (r.cost : Int), .int .i64 r.settled, .int .i64 r.left, (.slice p n c), .int .i64 r.units, .int .i64 r.cache, .int .i64 r.sess] 44) :: ((b5, cl [.int .i64 r.st, .int .i64 r.op, .int .u64 (r.tok : Int), .int .i64 r.unit, .int .i64 r.ax, .int .i64 r.ay, .int .i64 r.new, .int .i64 r.expl, .int .i64 r.ver, .bool r.hit, .int .u64 (r.cost : Int), .int .i64 r.settled, .int .i64 r.left, (.slice p n c), .int .i64 r.units, .int .i64 r.cache, .int .i64 r.sess] 44) :: s2)) ?_ ?_
  · show List.Perm ((b5, cl [.int .i64 r.st, .int .i64 r.op, .int .u64 (r.tok : Int), .int .i64 r.unit, .int .i64 r.ax, .int .i64 r.ay, .int .i64 r.new, .int .i64 r.expl, .int .i64 r.ver, .bool r.hit, .int .u64 (r.cost : Int), .int .i64 r.settled, .int .i64 r.left, (.slice p n c), .int .i64 r.units, .int .i64 r.cache, .int .i64 r.sess] 44) :: s2 ++ [(bx, cl [.int .i64 r.st, .int .i64 r.op, .int .u64 (r.tok : Int), .int .i64 r.unit, .int .i64 r.ax, .int .i64 r.ay, .int .i64 r.new, .int .i64 r.expl, .int .i64 r.ver, .bool r.hit, .int .u64 (r.cost : Int), .int .i64 r.settled, .int .i64 r.left, (.slice p n c), .int .i64 r.units, .int .i64 r.cache, .int .i64 r.sess] 44)]) _
    exact (by classical exact List.perm_iff_count.2 (fun _ => by first | (simp only [List.count_append, List.count_cons, List.count_nil, List.append_assoc, List.cons_append, List.nil_append]; omega)))
  repeat' (first | refine KW.seq ?_ | refine KW.region ?_ | refine KO.nil ?_ | ((first | apply KO.val rfl rfl rfl ?kq ?_); (case kq => ((first | apply qt_ev rfl ?hi | ((first | apply qt_loadN rfl rfl ?hi rfl rfl rfl ?hm ?hc); (case hm => repeat (first | exact List.Mem.head _ )); (case hc => rfl)) | refine qt_callQ rfl rfl ?hi (fun hg => Tr.quiet hP) | refine qt_callQ rfl rfl ?hi (fun hg => Tr.quiet hS) | apply qt_build rfl rfl ?hi rfl ); (case hi => (intro h; (repeat' (first | with_reducible exact alln | with_reducible refine allc ?_ ?_ )); all_goals (first | with_reducible rfl )))))) | fail)
  refine KO.callF s2 [(bx, cl [.int .i64 r.st, .int .i64 r.op, .int .u64 (r.tok : Int), .int .i64 r.unit, .int .i64 r.ax, .int .i64 r.ay, .int .i64 r.new, .int .i64 r.expl, .int .i64 r.ver, .bool r.hit, .int .u64 (r.cost : Int), .int .i64 r.settled, .int .i64 r.left, (.slice p n c), .int .i64 r.units, .int .i64 r.cache, .int .i64 r.sess] 44), (b5, cl [.int .i64 r.st, .int .i64 r.op, .int .u64 (r.tok : Int), .int .i64 r.unit, .int .i64 r.ax, .int .i64 r.ay, .int .i64 r.new, .int .i64 r.expl, .int .i64 r.ver, .bool r.hit, .int .u64 (r.cost : Int), .int .i64 r.settled, .int .i64 r.left, (.slice p n c), .int .i64 r.units, .int .i64 r.cache, .int .i64 r.sess] 44)] (by classical exact List.perm_iff_count.2 (fun _ => by first | (simp only [List.count_append, List.count_cons, List.count_nil, List.append_assoc, List.cons_append, List.nil_append]; omega))) rfl rfl rfl rfl rfl rfl rfl (endW_p _ bf hs2 hleft.symm) ?_
  rintro _ _ ⟨wv, dv, ev, φ, ε, hv, hE2, rfl, rfl⟩
  have eF : wri r ms = match (if leftS r ms then note (toldF r ms ([], none)).2 sEnd 1 else (toldF r ms ([], none)).2) with
      | some y => (some y, [])
      | none => (none, (toldF r ms ([], none)).1) := by
    unfold wri
    rcases toldF r ms ([], none) with ⟨o, x⟩
    rcases x with _ | y
    · cases leftS r ms <;> rfl
    · cases leftS r ms <;> rfl
  rcases hX : (if leftS r ms then note (toldF r ms ([], none)).2 sEnd 1 else (toldF r ms ([], none)).2) with _ | y
  · rw [hX] at hE2 eF
    obtain ⟨rfl, rfl⟩ := hE2
    have htr := trivial
    repeat' (first | refine KW.seq ?_ | refine KW.region ?_ | refine KO.nil ?_ | refine At.then_normal ?_ | refine KW.skip ?_ | refine KW.cond_f rfl (by first | decide) ?_ | ((first | apply KO.val rfl rfl rfl ?kq ?_); (case kq => ((first | apply qt_ev rfl ?hi | apply qt_nes rfl rfl rfl ?hi rfl (Or.inr ⟨rfl, rfl, rfl⟩)); (case hi => (intro h; (repeat' (first | with_reducible exact alln | with_reducible refine allc ?_ ?_ | with_reducible refine andi ?_ ?_)); all_goals (first | with_reducible rfl )))))) | fail)
    refine KO.callF ((bf, cl [.string sRes, wv, .pointer none, dv, .nilIface] 80) :: φ) [(bx, cl [.int .i64 r.st, .int .i64 r.op, .int .u64 (r.tok : Int), .int .i64 r.unit, .int .i64 r.ax, .int .i64 r.ay, .int .i64 r.new, .int .i64 r.expl, .int .i64 r.ver, .bool r.hit, .int .u64 (r.cost : Int), .int .i64 r.settled, .int .i64 r.left, (.slice p n c), .int .i64 r.units, .int .i64 r.cache, .int .i64 r.sess] 44), (b5, cl [.int .i64 r.st, .int .i64 r.op, .int .u64 (r.tok : Int), .int .i64 r.unit, .int .i64 r.ax, .int .i64 r.ay, .int .i64 r.new, .int .i64 r.expl, .int .i64 r.ver, .bool r.hit, .int .u64 (r.cost : Int), .int .i64 r.settled, .int .i64 r.left, (.slice p n c), .int .i64 r.units, .int .i64 r.cache, .int .i64 r.sess] 44)] (by classical exact List.perm_iff_count.2 (fun _ => by first | (simp only [List.count_append, List.count_cons, List.count_nil, List.append_assoc, List.cons_append, List.nil_append]; done) )) rfl rfl rfl rfl rfl rfl rfl (BytesF_p _ bf (toldF r ms ([], none)).1.length _ _ _ _ wv φ φ (toldF r ms ([], none)).1 rfl hv (by have := hs2.b; omega) (fun q hq => hq)) ?_
    rintro _ _ ⟨b, rfl, rfl⟩
    repeat' (first | refine KO.nil ?_ | refine At.then_normal ?_ | refine KW.ret ?_ | ((first | apply KO.val rfl rfl rfl ?kq ?_); (case kq => ((first | apply qt_ev rfl ?hi ); (case hi => (intro h; (repeat' (first | with_reducible exact alln | with_reducible refine allc ?_ ?_ )); all_goals (first | with_reducible rfl )))))) | fail)
    ((first | apply At.done_ret ); (focus (repeat' (first | exact ResVs.nil' | apply ResVs.cons' | exact ResV.tmp' rfl ))); dsimp only [resVal])
    refine ⟨[(b, cl (by8 (toldF r ms ([], none)).1) 5)], List.Sublist.cons_cons _ (List.nil_sublist _), ?_⟩
    unfold WriR
    rw [eF]
    exact ⟨b, rfl, rfl⟩
  · rw [hX] at hE2 eF
    obtain ⟨b, c', rfl, rfl⟩ := hE2
    have htr := trivial
    repeat' (first | refine KW.seq ?_ | refine KW.region ?_ | refine KO.nil ?_ | refine At.then_normal ?_ | refine KW.ret ?_ | refine At.then_ret ?_ | refine KW.cond_t rfl (by first | decide) ?_ | ((first | apply KO.val rfl rfl rfl ?kq ?_); (case kq => ((first | apply qt_ev rfl ?hi | apply qt_nes rfl rfl rfl ?hi rfl (Or.inl rfl) ); (case hi => (intro h; (repeat' (first | with_reducible exact alln | with_reducible refine allc ?_ ?_ | with_reducible refine andi ?_ ?_)); all_goals (first | with_reducible rfl )))))) | fail)
    ((first | apply At.done_ret ); (focus (repeat' (first | exact ResVs.nil' | apply ResVs.cons' | exact ResV.tmp' rfl ))); dsimp only [resVal])
    refine ⟨[(b, cl [.string sRes, .iface 100 (.pointer (some ⟨c', 0, none⟩))] 108), (c', cl [.string y.1, .iface 32 (.int .i64 y.2)] 108)], List.Sublist.cons _ (List.Sublist.cons_cons _ (List.Sublist.cons_cons _ (List.nil_sublist _))), ?_⟩
    unfold WriR
    rw [eF]
    exact ⟨_, _, ⟨b, c', rfl, rfl⟩, rfl, rfl⟩
end Go.Proofs.YtnaclkdjchnbpaaDoor
end
section
namespace Go.Proofs.YtnaclkdjchnbpaaDoor
open Go Go.K Go.ChangeShapes Go.WideShapes Go.ChangeAt Go.RowKit

def laidL : List (String × DataW Unit) := [("errors.errorType", Rows.laid_errors_errorType)]
def TB (β : Nat → Option Obj) : Prop := TBE β
theorem door_met (os : Os) (args : Array Value) : laidMetH Tryd.prog laidL ((World.doorLaid Tryd.prog 400 os).forCall (fun _ _ => 0) ⟨#[], args, []⟩).memory :=
  laidMetH_of_parts (laidMet_nil _ _) (by kernel_rfl)
theorem oneRow : ((List.range Tryd.prog.types.size).filter fun t => Tryd.prog.rowNamed t [101, 114, 114, 111, 114]) = [29] := by kernel_rfl
theorem tb_of (W : World) (h : laidMetH Tryd.prog laidL W) : TB (fun b => W.heap[b]?) := by
  have h' : laidMet Tryd.prog [] W ∧ handlesMet Tryd.prog laidL W := h
  obtain ⟨name, u, ty, e1, e2, e3, e4, e5⟩ := h'.2 _ (List.mem_singleton.2 rfl)
  have en : name = [101, 114, 114, 111, 114] := (Option.some.inj e1).symm
  subst en
  obtain rfl := Option.some.inj ((show (Tryd.prog.cutTypes.find? (·.1 == "internal/reflectlite.rtype")).map (·.2) = some 151 by kernel_rfl).symm.trans e2)
  have hm : ty ∈ (List.range Tryd.prog.types.size).filter fun t => Tryd.prog.rowNamed t [101, 114, 114, 111, 114] := List.mem_filter.2 ⟨List.mem_range.2 e3, e4⟩
  rw [oneRow] at hm
  obtain rfl := List.mem_singleton.1 hm
  have hh : typeHandle Tryd.prog 29 = hdl 29 := by kernel_rfl
  rw [hh] at e5
  have h3 := World.var?_cell (show Tryd.prog.globalNamed "errors.errorType" = some 0 by kernel_rfl) e5 0
  exact .inr (rc_of_cell (by rw [rt]; simpa using h3))
end Go.Proofs.YtnaclkdjchnbpaaDoor
end
section
namespace Go.Proofs.YtnaclkdjchnbpaaDoor
open Go Go.K

def Rs.c : Rs := ⟨19, 1, 0, 0, 0, 0, 0, 0, 0, false, 0, 0, 0, .slice none 0 0, 0, 0, 0⟩
theorem wri_c : wri Rs.c [] = (none, [19, 1]) := by rfl
theorem Rs.c_ok : Rs.c.Ok := by
  have h0 : I64 0 := by unfold I64; omega
  exact ⟨by show I64 19; unfold I64; omega, by show I64 1; unfold I64; omega, by decide, h0, h0, h0, h0, h0, h0, by decide, h0, h0, h0, h0, h0⟩
theorem WriteD_p (β : Nat → Option Obj) : Go.K.Tr Tryd.prog 16 [.agg #[.int .i64 19, .int .i64 1, .int .u64 0, .int .i64 0, .int .i64 0, .int .i64 0, .int .i64 0, .int .i64 0, .int .i64 0, .bool false, .int .u64 0, .int .i64 0, .int .i64 0, .slice none 0 0, .int .i64 0, .int .i64 0, .int .i64 0]] β [] (fun v σ => ∃ b, v = .tuple #[.slice (some ⟨b, 0, none⟩) 2 2, .nilIface] ∧ σ = [(b, cl (by8 [19, 1]) 5)]) := by
  refine (Write_p β Rs.c Rs.c_ok [] none 0 0 rfl rfl (fun x hx => by cases hx) (SL.nil8 _ _) (by omega)).mono ?_
  intro v σ h
  unfold WriR at h
  rw [wri_c] at h
  exact h
theorem awakeW_p (β : Nat → Option Obj) : Go.K.Tr Tryd.prog 15 [] β [] (fun z σ => z = .bool true ∧ σ = []) := awake_of β WriteD_p
theorem isBadT_p (β : Nat → Option Obj) (σ : Heap) (hty : TBE β) (b c : Nat) (what n : ByteArray) (e : Int) (he : e ≠ 0) (hL : (ErrF b c what n e).Lies β σ) :
    Go.K.Tr Tryd.prog 13 [.iface 100 (.pointer (some ⟨b, 0, none⟩)), .agg #[.int .i64 e, .string n], .string what] β σ (fun v s => v = .bool true ∧ s = σ) :=
  Tr.frzQ (isOk_p β n what).ok (fun β' g1 g2 => isBad_p β' (TBE.up g1 hty) b c what n e he (ErrT.Lies.frz (φ := σ) g1 g2 hL))
theorem CodeT_p (β : Nat → Option Obj) (σ : Heap) (hty : TBE β) (b c : Nat) (what n : ByteArray) (e : Int) (hL : (ErrF b c what n e).Lies β σ) :
    Go.K.Tr Tryd.prog 23 [.iface 100 (.pointer (some ⟨b, 0, none⟩))] β σ (fun v s => v = .int .i64 e ∧ s = σ) :=
  Tr.frzQ (CodeNil_p β).ok (fun β' g1 g2 => Code_p β' (TBE.up g1 hty) (ErrF b c what n e) (ErrT.Lies.frz (φ := σ) g1 g2 hL))
end Go.Proofs.YtnaclkdjchnbpaaDoor
end
section
namespace Go.Proofs.YtnaclkdjchnbpaaDoor
open Go.K

def hdr (m : Nat) : List Nat := bes m 4 4
/-- What the first frame of bytes is: 0: whole; 12: too long; 17: not all there. -/
def cutE (xs : List Nat) : Int := if xs.length < 4 then 17 else if 131072 < num (xs.take 4) then 12 else if xs.length - 4 < num (xs.take 4) then 17 else 0
end Go.Proofs.YtnaclkdjchnbpaaDoor
end
section
namespace Go.Proofs.YtnaclkdjchnbpaaDoor
open Go.K

theorem rNumber_p (β : Nat → Option Obj) (σ : Heap) (l1 : List Nat) (p : Option Addr) (c m : Nat) (hm : l1.length = m) (hB : Byt l1) (hp : SL β σ 1 m (by8 l1) p) (hb : m ≤ 8) :
    Go.K.Tr Tryd.prog 48 [.slice p m c] β σ (fun v σ' => v = .int .u64 ((num l1 : Nat) : Int) ∧ σ' = σ) := by
  refine Tr.of_body Tryd.tt (args := [.slice p m c]) (fr := [(0, true, .slice p m c)]) Tryd.func48 rfl (by decide) rfl Tryd.ntmps48 rfl rfl ?_
  intro E hE
  subst hE
  repeat' (first | refine KW.seq ?_ | refine KW.region ?_ | refine KO.nil ?_ | refine At.then_normal ?_ | refine KW.block ?_ | ((first | apply KO.val rfl rfl rfl ?kq ?_); (case kq => ((first | apply qt_ev rfl ?hi ); (case hi => (intro h; (repeat' (first | with_reducible exact alln | with_reducible refine allc ?_ ?_ )); all_goals (first | with_reducible rfl )))))) | fail)
  refine KW.loop (fun j : Nat => j ≤ m) (fun j => ([(4, true, .int .i64 (j : Int)), (3, true, .int .u64 ((num (l1.take j) : Nat) : Int)), (0, true, .slice p m c)], σ)) (fun j => m - j) 0
    (by omega) (Le.sub (FLe.cons rfl rfl (FLe.cons rfl rfl (FLe.cons rfl rfl (FLe.nil _)))) (List.Sublist.refl _)) ?_
  intro j hj
  dsimp only
  have hp1 := hp
  have hlt := num_lt j (l1.take j) (by rw [List.length_take]; omega) (hB.take j)
  have hlt2 : j < 8 → num (l1.take j) < 72057594037927936 := fun h => by
    have h2 : 256 ^ j ≤ 256 ^ 7 := Nat.pow_le_pow_right (by omega) (by omega)
    have h3 : (256 : Nat) ^ 7 = 72057594037927936 := by decide
    omega
  repeat' (first | refine KW.seq ?_ | refine KW.region ?_ | refine KO.nil ?_ | refine At.then_normal ?_ | refine KW.skip ?_ | refine KW.ret ?_ | refine KW.block ?_ | refine KW.exit ?_ | ((first | apply KO.val rfl rfl rfl ?kq ?_); (case kq => ((first | ((first | apply qt_add rfl rfl rfl ?hi ?om | apply qt_addU rfl rfl rfl ?hi ?om | apply qt_mulU rfl rfl rfl ?hi ?om | apply qt_convU rfl rfl rfl rfl ?hi ?om | apply qt_indexAddr_slice rfl rfl rfl ?hi rfl rfl ?om); (case om => (intro hg; first | omega ))) | apply qt_ev rfl ?hi ); (case hi => (intro h; (repeat' (first | with_reducible exact alln | with_reducible refine allc ?_ ?_ | with_reducible refine andi ?_ ?_)); all_goals (first | with_reducible rfl )))))) | (refine KW.cond rfl ?_ ?_ <;> (intro hc; try simp only [kBool] at hc)) | ((replace hlt2 := hlt2 (by omega)); (have hjn : (0 : Int) ≤ j ∧ (j : Int) < m := by omega); (obtain ⟨b1, o1, rfl, h1⟩ := hp.2 (by omega)); (obtain ⟨x, hx⟩ : ∃ z, l1[j]? = some z := ⟨_, List.getElem?_eq_getElem (by omega)⟩); (have hx256 : x < 256 := hB x (List.mem_of_getElem? hx)); clear hp1) | ((first | apply KO.val (g := true) rfl rfl rfl); (first | (apply qt_load1_cel rfl rfl ?hi rfl rfl ?hc; (case hc => first | exact fun _ => (cel8 h1 hx)))); (case hi => (first | exact fun _ => rfl ))) | fail)
  · refine At.loop_on (j + 1) (by omega) (by omega) (Le.sub (FLe.cons rfl rfl (FLe.cons rfl ?_ (FLe.cons rfl rfl (FLe.nil _)))) (List.Sublist.refl _))
    rw [List.take_add_one, hx]
    simp only [Option.toList_some]
    rw [num_snoc]
    congr 1
  · ((first | apply At.done_ret ); (focus (repeat' (first | exact ResVs.nil' | apply ResVs.cons' | exact ResV.tmp' rfl ))); dsimp only [resVal])
    have : j = m := by omega
    subst this
    rw [List.take_of_length_le (by omega)]
    exact ⟨rfl, rfl⟩

theorem bes_drop {X size t : Nat} (ht : t < size) : (bes X size size).drop (size - (t + 1)) = (X / 2 ^ (8 * t) % 256) :: (bes X size size).drop (size - t) := by
  have hl : size - (t + 1) < (bes X size size).length := by rw [bes_len]; omega
  rw [List.drop_eq_getElem_cons hl]
  have e1 : size - (t + 1) + 1 = size - t := by omega
  have e2 : (bes X size size)[size - (t + 1)] = X / 2 ^ (8 * t) % 256 := by
    simp only [bes, List.getElem_map, List.getElem_range]
    rw [show size - 1 - (size - (t + 1)) = t by omega]
  rw [e1, e2]
theorem rBytes_p (X size : Nat) (hX : X < 18446744073709551616) (hs : size ≤ 8) (β : Nat → Option Obj) :
    Go.K.Tr Tryd.prog 58 [.int .u64 X, .int .i64 size] β [] (fun v σ' => ∃ b, v = .tuple #[.slice (some ⟨b, 0, none⟩) size size, .bool (decide (X / 2 ^ (8 * size) = 0))] ∧ σ' = [(b, cl (by8 (bes X size size)) 5)]) := by
  refine Tr.of_body Tryd.tt (args := [.int .u64 X, .int .i64 size]) (fr := [(0, true, .int .u64 X), (1, true, .int .i64 size)]) Tryd.func58 rfl (by decide) rfl Tryd.ntmps58 rfl rfl ?_
  intro E hE
  subst hE
  repeat' (first | refine KW.seq ?_ | refine KW.region ?_ | refine KO.nil ?_ | ((first | apply KO.val rfl rfl rfl ?kq ?_); (case kq => ((first | apply qt_ev rfl ?hi ); (case hi => (intro h; (repeat' (first | with_reducible exact alln | with_reducible refine allc ?_ ?_ )); all_goals (first | with_reducible rfl )))))) | fail)
  refine KO.makeSlice rfl rfl rfl rfl rfl rfl rfl rfl rfl rfl rfl ⟨by omega, by omega⟩ ⟨by omega, by omega⟩ ?_
  intro b hb
  rw [Int.toNat_natCast, flat_rep]
  repeat' (first | refine KW.seq ?_ | refine KW.region ?_ | refine KO.nil ?_ | refine At.then_normal ?_ | refine KW.block ?_ | ((first | apply KO.val rfl rfl rfl ?kq ?_); (case kq => ((first | ((first | apply qt_sub rfl rfl rfl ?hi ?om ); (case om => (intro hg; first | omega ))) | apply qt_ev rfl ?hi ); (case hi => (intro h; (repeat' (first | with_reducible exact alln | with_reducible refine allc ?_ ?_ | with_reducible refine andi ?_ ?_)); all_goals (first | with_reducible rfl )))))) | fail)
  refine KW.loop (fun t : Nat => t ≤ size) (fun t => ([(7, true, .int .i64 ((size : Int) - 1 - (t : Int))), (6, true, .slice (some ⟨b, 0, none⟩) size size), (0, true, .int .u64 ((X / 2 ^ (8 * t) : Nat) : Int))], [(b, cl (List.replicate (size - t) (.int .u8 0) ++ by8 ((bes X size size).drop (size - t))) 5)])) (fun t => size - t) 0
    (by omega) ?_ ?_
  · refine Le.sub (FLe.cons rfl (by simp) (FLe.cons rfl rfl (FLe.cons rfl (by simp) (FLe.nil _)))) ?_
    rw [Nat.sub_zero, List.drop_of_length_le (by rw [bes_len]; omega)]
    simp [by8]
  intro t ht
  dsimp only
  obtain ⟨q, hqe⟩ : ∃ q, q = X / 2 ^ (8 * t) := ⟨_, rfl⟩
  have hq : q < 18446744073709551616 := by rw [hqe]; exact Nat.lt_of_le_of_lt (Nat.div_le_self _ _) hX
  rw [← hqe]
  repeat' (first | refine KW.seq ?_ | refine KW.region ?_ | refine KO.nil ?_ | refine At.then_normal ?_ | refine KW.skip ?_ | refine KW.ret ?_ | refine KW.block ?_ | refine KW.exit ?_ | ((first | apply KO.val rfl rfl rfl ?kq ?_); (case kq => ((first | ((first | apply qt_remN rfl rfl rfl ?hi ?om | apply qt_indexAddr_slice rfl rfl rfl ?hi rfl rfl ?om); (case om => (intro hg; first | omega ))) | apply qt_ev rfl ?hi ); (case hi => (intro h; (repeat' (first | with_reducible exact alln | with_reducible refine allc ?_ ?_ | with_reducible refine andi ?_ ?_)); all_goals (first | with_reducible rfl )))))) | (refine KW.cond rfl ?_ ?_ <;> (intro hc; try simp only [kBool] at hc)) | fail)
  · have ht1 : t < size := by omega
    have e1 : IntKind.u8.wrap ((q : Int) % 256) = ((q % 256 : Nat) : Int) := by
      rw [show (q : Int) % 256 = ((q % 256 : Nat) : Int) by omega, wrap_u8, Nat.mod_mod]
    have e2 : 0 + ((size : Int) - 1 - (t : Int)).toNat * 1 = size - (t + 1) := by omega
    rw [e1, e2]
    refine KO.storeW (i := 0) (cs' := List.replicate (size - (t + 1)) (.int .u8 0) ++ by8 ((bes X size size).drop (size - (t + 1)))) rfl rfl rfl rfl rfl rfl rfl rfl rfl rfl ?_ rfl ?_
    · refine ⟨?_, ?_⟩
      · simp only [List.length_append, List.length_replicate, List.length_cons, List.length_nil]; omega
      · rw [bes_drop ht1, ← hqe]
        have e3 : List.replicate (size - t) (Value.int .u8 0) = List.replicate (size - (t + 1)) (Value.int .u8 0) ++ [Value.int .u8 0] := by
          rw [show size - t = (size - (t + 1)) + 1 by omega, List.replicate_succ']
        rw [e3]
        have e4 : (List.replicate (size - (t + 1)) (Value.int .u8 0)).length = size - (t + 1) := List.length_replicate
        simp only [by8, List.map_cons, List.length_cons, List.length_nil, List.append_assoc]
        rw [List.take_left' e4]
        have e5 : List.drop (size - (t + 1) + (0 + 1)) (List.replicate (size - (t + 1)) (Value.int .u8 0) ++ ([Value.int .u8 0] ++ List.map (fun n : Nat => Value.int .u8 (n : Int)) (List.drop (size - t) (bes X size size)))) = List.map (fun n : Nat => Value.int .u8 (n : Int)) (List.drop (size - t) (bes X size size)) := by
          rw [← List.append_assoc]
          exact List.drop_left' (by simp)
        rw [e5]
        simp
    repeat' (first | refine KW.region ?_ | refine KO.nil ?_ | ((first | apply KO.val rfl rfl rfl ?kq ?_); (case kq => ((first | ((first | apply qt_sub rfl rfl rfl ?hi ?om | apply qt_quoU rfl rfl rfl ?hi ?om ); (case om => (intro hg; first | omega ))) | apply qt_ev rfl ?hi ); (case hi => (intro h; (repeat' (first | with_reducible exact alln | with_reducible refine allc ?_ ?_ | with_reducible refine andi ?_ ?_)); all_goals (first | with_reducible rfl )))))) | fail)
    refine At.loop_on (t + 1) (by omega) (by omega) (Le.sub (FLe.cons rfl (by congr 1; omega) (FLe.cons rfl rfl (FLe.cons rfl ?_ (FLe.nil _)))) (List.Sublist.refl _))
    rw [show 8 * (t + 1) = 8 * t + 8 by omega, Nat.pow_add, ← Nat.div_div_eq_div_mul, ← hqe]
    congr 1
  · ((first | apply At.done_ret ); (focus (repeat' (first | exact ResVs.nil' | apply ResVs.cons' | exact ResV.tmp' rfl ))); dsimp only [resVal])
    have ht1 : t = size := by omega
    subst ht1
    refine ⟨b, ?_, ?_⟩
    · rw [← hqe, show decide ((q : Int) = 0) = decide (q = 0) from by rw [decide_eq_decide]; omega]
    · simp

end Go.Proofs.YtnaclkdjchnbpaaDoor
end
section
namespace Go.Proofs.YtnaclkdjchnbpaaDoor
open Go Go.K

def ofB (l : List Nat) : ByteArray := ⟨(l.map UInt8.ofNat).toArray⟩
theorem byt_ofB {l : List Nat} (h : Byt l) : byt (ofB l) = l := by
  unfold byt ofB
  rw [List.map_map]
  conv => rhs; rw [← List.map_id l]
  apply List.map_congr_left
  intro x hx
  have := h x hx
  show (UInt8.ofNat x).toNat = x
  simp only [UInt8.toNat_ofNat']
  omega
def rowV (w : RowT) : List Value := [.string w.name, .int .i64 (w.size : Int), .int .i64 (w.many : Int), .string (ofB w.ops)]
def rowsV (l : List RowT) : List Value := l.flatMap rowV
def uv (l : List Nat) : List Value := l.map fun (n : Nat) => .int .u64 (n : Int)
theorem uv_len (l : List Nat) : (uv l).length = l.length := by simp [uv]
theorem uv_get {l : List Nat} {i s : Nat} (h : l[i]? = some s) : (uv l)[i]? = some (.int .u64 (s : Int)) := by simp [uv, h]
theorem cuv {β : Nat → Option Obj} {σ : Heap} {b off n : Nat} {l : List Nat} {s : Nat} (h : ∀ (j : Nat) (u : Value), (uv l)[j]? = some u → Cel β σ b (off + j) u) (hi : l[n]? = some s) : Cel β σ b (off + ((n : Nat) : Int).toNat * 1) (.int .u64 (s : Int)) := by
  rw [Int.toNat_natCast, Nat.mul_one]
  exact h n _ (uv_get hi)
theorem hasR_succ {l : List Nat} {j b : Nat} {op : Int} (h : l[j]? = some b) : hasR (l.take (j + 1)) op = (hasR (l.take j) op || decide ((b : Int) - 48 = op)) := by
  unfold hasR
  rw [List.take_add_one, h, List.any_append]
  simp
theorem Has_p (β : Nat → Option Obj) (σ : Heap) (w : RowT) (hw : ∀ b ∈ w.ops, 48 ≤ b ∧ b ≤ 57) (hn : w.ops.length ≤ 100) (op : Int) :
    Go.K.Tr Tryd.prog 33 [.agg (rowV w).toArray, .int .i64 op] β σ (fun v s => v = .bool (hasR w.ops op) ∧ s = σ) := by
  refine Tr.sub ?_
  refine Tr.of_body Tryd.tt (args := [.agg (rowV w).toArray, .int .i64 op]) (fr := [(0, true, .agg (rowV w).toArray), (1, true, .int .i64 op)]) Tryd.func33 rfl (by decide) rfl Tryd.ntmps33 rfl rfl ?_
  intro E hE
  subst hE
  have hB : Byt w.ops := fun b hb => by have := hw b hb; omega
  have hb := byt_ofB hB
  have hz : (ofB w.ops).size = w.ops.length := by rw [← byt_len, hb]
  dsimp only [rowV]
  obtain ⟨s, hs⟩ : ∃ s, s = ofB w.ops := ⟨_, rfl⟩
  rw [← hs] at hb hz ⊢
  repeat' (first | refine KW.seq ?_ | refine KW.region ?_ | refine KO.nil ?_ | refine At.then_normal ?_ | refine KW.block ?_ | ((first | apply KO.val rfl rfl rfl ?kq ?_); (case kq => ((first | apply qt_ev rfl ?hi ); (case hi => (intro h; (repeat' (first | with_reducible exact alln | with_reducible refine allc ?_ ?_ )); all_goals (first | with_reducible rfl )))))) | (refine KO.box rfl rfl rfl rfl rfl rfl ?_; intro _ _) | fail)
  rename_i b2 _
  refine KW.loop (fun j : Nat => j ≤ w.ops.length ∧ hasR (w.ops.take j) op = false) (fun j => ([(5, true, .int .i64 (j : Int)), (2, true, .pointer (some ⟨b2, 0, none⟩)), (1, true, .int .i64 op)], (b2, cl [.string w.name, .int .i64 (w.size : Int), .int .i64 (w.many : Int), .string s] 86) :: σ)) (fun j => w.ops.length - j) 0
    ⟨Nat.zero_le _, by simp [hasR]⟩ (Le.sub (FLe.cons rfl rfl (FLe.cons rfl rfl (FLe.cons rfl rfl (FLe.nil _)))) (List.Sublist.refl _)) ?_
  rintro j ⟨hj, he⟩
  dsimp only
  by_cases hjn : j < w.ops.length
  · obtain ⟨x, hx⟩ : ∃ z, w.ops[j]? = some z := ⟨_, List.getElem?_eq_getElem hjn⟩
    have hx2 : (byt s)[((j : Int)).toNat]? = some x := by rw [hb, Int.toNat_natCast]; exact hx
    have hw1 := hw x (List.mem_of_getElem? hx)
    have hss := hasR_succ (op := op) hx
    have hwr : IntKind.i64.wrap (IntKind.u8.wrap ((x : Int) - 48)) = (x : Int) - 48 := by
      rw [show (x : Int) - 48 = ((x - 48 : Nat) : Int) by omega, wrap_u8, IntKind.wrap_i64]
      omega
    repeat' (first | refine KW.seq ?_ | refine KW.region ?_ | refine KO.nil ?_ | refine At.then_normal ?_ | refine KW.skip ?_ | refine KW.ret ?_ | refine At.then_ret ?_ | refine KW.block ?_ | refine KW.exit ?_ | refine At.block_ret ?_ | refine At.loop_ret ?_ | ((first | apply KO.val rfl rfl rfl ?kq ?_); (case kq => ((first | ((first | apply qt_add rfl rfl rfl ?hi ?om ); (case om => (intro hg; first | omega ))) | apply qt_ev rfl ?hi | ((first | apply qt_load1 rfl rfl ?hi rfl rfl ?hm ?hc ); (case hm => repeat (first | exact List.Mem.head _ )); (case hc => rfl)) | apply qt_indexS rfl rfl rfl ?hi rfl (fun _ => ⟨by omega, hx2⟩) ); (case hi => (intro h; (repeat' (first | with_reducible exact alln | with_reducible refine allc ?_ ?_ | with_reducible refine andi ?_ ?_)); all_goals (first | with_reducible rfl )))))) | (refine KW.cond rfl ?_ ?_ <;> (intro hc; try simp only [kBool] at hc)) | fail)
    · ((first | apply At.done_ret ); (focus (repeat' (first | exact ResVs.nil' | apply ResVs.cons' | exact ResV.tmp' rfl ))); dsimp only [resVal])
      rw [hwr] at hc
      refine ⟨σ, List.Sublist.cons _ (List.Sublist.refl _), ?_, rfl⟩
      have : hasR w.ops op = true := by
        unfold hasR
        exact List.any_eq_true.2 ⟨x, List.mem_of_getElem? hx, decide_eq_true hc⟩
      rw [this]
    · rw [hwr] at hc
      refine At.loop_on (j + 1) ⟨by omega, ?_⟩ (by omega) (Le.sub (by repeat' (first | exact FLe.nil _ | refine FLe.cons rfl rfl ?_)) (List.Sublist.refl _))
      rw [hss, he, decide_eq_false hc]; try rfl
    · exfalso; omega
  · have hj2 : j = w.ops.length := by omega
    repeat' (first | refine KW.seq ?_ | refine KW.region ?_ | refine KO.nil ?_ | refine At.then_normal ?_ | refine KW.skip ?_ | refine KW.ret ?_ | refine KW.block ?_ | refine KW.exit ?_ | ((first | apply KO.val rfl rfl rfl ?kq ?_); (case kq => ((first | apply qt_ev rfl ?hi | ((first | apply qt_load1 rfl rfl ?hi rfl rfl ?hm ?hc ); (case hm => repeat (first | exact List.Mem.head _ )); (case hc => rfl)) ); (case hi => (intro h; (repeat' (first | with_reducible exact alln | with_reducible refine allc ?_ ?_ )); all_goals (first | with_reducible rfl )))))) | (refine KW.cond rfl ?_ ?_ <;> (intro hc; try simp only [kBool] at hc)) | (exfalso; omega) | fail)
    ((first | apply At.done_ret ); (focus (repeat' (first | exact ResVs.nil' | apply ResVs.cons' | exact ResV.tmp' rfl ))); dsimp only [resVal])
    refine ⟨σ, List.Sublist.cons _ (List.Sublist.refl _), ?_, rfl⟩
    rw [hj2, List.take_length] at he
    rw [he]
theorem Asked_p (β : Nat → Option Obj) : Go.K.Tr Tryd.prog 32 [] β [] (fun v s => ∃ b, v = .slice (some ⟨b, 0, none⟩) 6 6 ∧ s = [(b, cl (rowsV asked) 86)]) := by
  refine Tr.of_body Tryd.tt (args := []) (fr := []) Tryd.func32 rfl (by decide) rfl Tryd.ntmps32 rfl rfl ?_
  intro E hE
  subst hE
  repeat' (first | refine KW.seq ?_ | refine KW.region ?_ | refine KO.nil ?_ | refine At.then_normal ?_ | refine KW.ret ?_ | ((first | apply KO.val rfl rfl rfl ?kq ?_); (case kq => ((first | apply qt_ev rfl ?hi | apply qt_build rfl rfl ?hi rfl ); (case hi => (intro h; (repeat' (first | with_reducible exact alln | with_reducible refine allc ?_ ?_ )); all_goals (first | with_reducible rfl )))))) | (refine KO.buildSlice rfl rfl rfl rfl rfl rfl rfl rfl rfl rfl rfl rfl rfl rfl ?_; intro _ _) | fail)
  ((first | apply At.done_ret ); (focus (repeat' (first | exact ResVs.nil' | apply ResVs.cons' | exact ResV.tmp' rfl ))); dsimp only [resVal])
  rename_i b _
  exact ⟨b, rfl, rfl⟩
theorem nought_succ {l : List Nat} {j b : Nat} (h : l[j]? = some b) : nought (l.take (j + 1)) = (nought (l.take j) && decide (b = 0)) := by
  unfold nought
  rw [List.take_add_one, h, List.all_append]
  simp
theorem nought_p (β : Nat → Option Obj) (σ : Heap) (l : List Nat) (p : Option Addr) (n c : Nat) (hl : l.length = n) (hp : SL β σ 1 n (uv l) p) (hn : n ≤ 1000000) :
    Go.K.Tr Tryd.prog 36 [.slice p n c] β σ (fun v s => v = .bool (nought l) ∧ s = σ) := by
  refine Tr.of_body Tryd.tt (args := [.slice p n c]) (fr := [(0, true, .slice p n c)]) Tryd.func36 rfl (by decide) rfl Tryd.ntmps36 rfl rfl ?_
  intro E hE
  subst hE
  repeat' (first | refine KW.seq ?_ | refine KW.region ?_ | refine KO.nil ?_ | refine At.then_normal ?_ | refine KW.block ?_ | ((first | apply KO.val rfl rfl rfl ?kq ?_); (case kq => ((first | apply qt_ev rfl ?hi ); (case hi => (intro h; (repeat' (first | with_reducible exact alln | with_reducible refine allc ?_ ?_ )); all_goals (first | with_reducible rfl )))))) | fail)
  refine KW.loop (fun j : Nat => j ≤ n ∧ nought (l.take j) = true) (fun j => ([(3, true, .int .i64 (j : Int)), (0, true, .slice p n c)], σ)) (fun j => n - j) 0
    ⟨Nat.zero_le _, by simp [nought]⟩ (Le.sub (FLe.cons rfl rfl (FLe.cons rfl rfl (FLe.nil _))) (List.Sublist.refl _)) ?_
  rintro j ⟨hj, he⟩
  dsimp only
  by_cases hjn : j < n
  · obtain ⟨b1, o1, rfl, h1⟩ := hp.2 (by omega)
    obtain ⟨x, hx⟩ : ∃ z, l[j]? = some z := ⟨_, List.getElem?_eq_getElem (by omega)⟩
    have hss := nought_succ hx
    repeat' (first | refine KW.seq ?_ | refine KW.region ?_ | refine KO.nil ?_ | refine At.then_normal ?_ | refine KW.skip ?_ | refine KW.ret ?_ | refine At.then_ret ?_ | refine KW.block ?_ | refine KW.exit ?_ | refine At.block_ret ?_ | refine At.loop_ret ?_ | ((first | apply KO.val rfl rfl rfl ?kq ?_); (case kq => ((first | ((first | apply qt_add rfl rfl rfl ?hi ?om | apply qt_indexAddr_slice rfl rfl rfl ?hi rfl rfl ?om); (case om => (intro hg; first | omega ))) | apply qt_ev rfl ?hi ); (case hi => (intro h; (repeat' (first | with_reducible exact alln | with_reducible refine allc ?_ ?_ | with_reducible refine andi ?_ ?_)); all_goals (first | with_reducible rfl )))))) | (refine KW.cond rfl ?_ ?_ <;> (intro hc; try simp only [kBool] at hc)) | ((first | apply KO.val (g := true) rfl rfl rfl); (first | (apply qt_load1_cel rfl rfl ?hi rfl rfl ?hc; (case hc => first | exact fun _ => (cuv h1 hx)))); (case hi => (first | exact fun _ => rfl ))) | (exfalso; omega) | fail)
    · ((first | apply At.done_ret ); (focus (repeat' (first | exact ResVs.nil' | apply ResVs.cons' | exact ResV.tmp' rfl ))); dsimp only [resVal])
      refine ⟨?_, rfl⟩
      have hx0 : x ≠ 0 := by omega
      have : nought l = false := by
        unfold nought
        rw [List.all_eq_false]
        exact ⟨x, List.mem_of_getElem? hx, by simpa using hx0⟩
      rw [this]
    · refine At.loop_on (j + 1) ⟨by omega, ?_⟩ (by omega) (Le.sub (by repeat' (first | exact FLe.nil _ | refine FLe.cons rfl rfl ?_)) (List.Sublist.refl _))
      have hx0 : x = 0 := by omega
      rw [hss, he, hx0]; try rfl
  · have hj2 : j = n := by omega
    repeat' (first | refine KW.seq ?_ | refine KW.region ?_ | refine KO.nil ?_ | refine At.then_normal ?_ | refine KW.skip ?_ | refine KW.ret ?_ | refine KW.block ?_ | refine KW.exit ?_ | ((first | apply KO.val rfl rfl rfl ?kq ?_); (case kq => ((first | apply qt_ev rfl ?hi ); (case hi => (intro h; (repeat' (first | with_reducible exact alln | with_reducible refine allc ?_ ?_ )); all_goals (first | with_reducible rfl )))))) | (refine KW.cond rfl ?_ ?_ <;> (intro hc; try simp only [kBool] at hc)) | (exfalso; omega) | fail)
    ((first | apply At.done_ret ); (focus (repeat' (first | exact ResVs.nil' | apply ResVs.cons' | exact ResV.tmp' rfl ))); dsimp only [resVal])
    rw [hj2, List.take_of_length_le (by omega)] at he
    exact ⟨by rw [he], rfl⟩
theorem rowsV_get : ∀ {l : List RowT} {i : Nat} {w : RowT}, l[i]? = some w → ∀ {j : Nat} {v : Value}, (rowV w)[j]? = some v → (rowsV l)[i * 4 + j]? = some v
  | [], _, _, h, _, _, _ => by simp at h
  | x :: l, 0, w, h, j, v, hj => by
    simp only [List.getElem?_cons_zero, Option.some.injEq] at h
    subst h
    show (rowV x ++ rowsV l)[0 * 4 + j]? = _
    rw [Nat.zero_mul, Nat.zero_add, List.getElem?_append_left (List.getElem?_eq_some_iff.1 hj).1]
    exact hj
  | x :: l, i + 1, w, h, j, v, hj => by
    show (rowV x ++ rowsV l)[(i + 1) * 4 + j]? = _
    rw [List.getElem?_append_right (by show 4 ≤ _; omega)]
    rw [show (i + 1) * 4 + j - (rowV x).length = i * 4 + j from by show (i + 1) * 4 + j - 4 = _; omega]
    exact rowsV_get (by simpa using h) hj
theorem celR {β : Nat → Option Obj} {σ : Heap} {b i : Nat} {t : TypeId} {l : List RowT} {w : RowT} (hm : (b, cl (rowsV l) t) ∈ σ) (hi : l[i]? = some w) :
    ∀ j v, (rowV w)[j]? = some v → Cel β σ b (0 + ((i : Nat) : Int).toNat * 4 + j) v := by
  intro j v hj
  refine .inl ⟨_, _, hm, ?_⟩
  rw [Int.toNat_natCast, Nat.zero_add]
  exact rowsV_get hi hj
theorem asked_ops : ∀ w ∈ asked, (∀ b ∈ w.ops, 48 ≤ b ∧ b ≤ 57) ∧ w.ops.length ≤ 100 ∧ w.size ≤ 8 ∧ w.many ≤ 2 := by decide
theorem drop_of {α : Type} {l : List α} {k : Nat} {w : α} (h : l[k]? = some w) : l.drop k = w :: l.drop (k + 1) := by
  obtain ⟨h1, h2⟩ := List.getElem?_eq_some_iff.1 h
  rw [List.drop_eq_getElem_cons h1, h2]
structure S21 where
  k : Nat
  v : Value
  φ : Heap
end Go.Proofs.YtnaclkdjchnbpaaDoor
end

/- MsgWrites: a response's payload is the document's. -/
import Derived.Test.YtnaclkdjchnbpaaDoorNK
import Derived.Test.YtnaclkdjchnbpaaDoorNY
import Derived.Test.YtnaclkdjchnbpaaDoorEL
import Derived.Test.YtnaclkdjchnbpaaDoorK30
namespace Go.Proofs.YtnaclkdjchnbpaaDoor
open Go Go.K

def Rs.c : Rs := ⟨19, 1, 0, 0, 0, 0, 0, 0, 0, false, 0, 0, 0, .slice none 0 0, 0, 0, 0⟩
theorem wri_c : wri Rs.c [] = (none, [19, 1]) := by rfl
theorem Rs.c_ok : Rs.c.Ok := by
  have h0 : I64 0 := by unfold I64; omega
  exact ⟨by show I64 19; unfold I64; omega, by show I64 1; unfold I64; omega, by decide, h0, h0, h0, h0, h0, h0, by decide, h0, h0, h0, h0, h0⟩
theorem WriteD_p (β : Nat → Option Obj) : Go.K.Tr Tryd.prog 16 [.agg #[.int .i64 19, .int .i64 1, .int .u64 0, .int .i64 0, .int .i64 0, .int .i64 0, .int .i64 0, .int .i64 0, .int .i64 0, .bool false, .int .u64 0, .int .i64 0, .int .i64 0, .slice none 0 0, .int .i64 0, .int .i64 0, .int .i64 0]] β [] (fun v σ => ∃ b, v = .tuple #[.slice (some ⟨b, 0, none⟩) 2 2, .nilIface] ∧ σ = [(b, cl (by8 [19, 1]) 5)]) := by
  refine (Write_p β Rs.c Rs.c_ok [] none 0 0 rfl rfl (fun x hx => by cases hx) (SL.nil8 _ _) (by omega)).mono ?_
  intro v σ h
  unfold WriR at h
  rw [wri_c] at h
  exact h
theorem awakeW_p (β : Nat → Option Obj) : Go.K.Tr Tryd.prog 15 [] β [] (fun z σ => z = .bool true ∧ σ = []) := awake_of β WriteD_p
theorem fin_ne {x : Flt × List Nat} {left : Bool} (h : ∀ y o, x = (some y, o) → y.2 ≠ 0) {y : ByteArray × Int} {o : List Nat} (e : fin x left = (some y, o)) : y.2 ≠ 0 := by
  rcases x with ⟨x, xs⟩
  rcases x with _ | z
  · cases left
    · simp [fin] at e
    · simp only [fin, if_true, Prod.mk.injEq, Option.some.injEq] at e
      rw [← e.1]; decide
  · simp only [fin, Prod.mk.injEq, Option.some.injEq] at e
    rw [← e.1]; exact h z xs rfl
theorem refW_ne (has : RowT → Bool) (nums : RowT → List Nat) (ms : List Nat) : ∀ (ws : List RowT) (out : List Nat) (y : ByteArray × Int) (o : List Nat), refW has nums ms ws out = (some y, o) → y.2 ≠ 0
  | [], out, y, o, h => by simp [refW] at h
  | w :: ws, out, y, o, h => by
    rw [refW] at h
    split at h
    · split at h
      · simp only [Prod.mk.injEq, Option.some.injEq] at h; rw [← h.1]; decide
      · split at h
        · simp only [Prod.mk.injEq, Option.some.injEq] at h; rw [← h.1]; show (10 : Int) ≠ 0; decide
        · split at h
          · split at h
            · exact refW_ne has nums ms ws _ y o h
            · simp only [Prod.mk.injEq, Option.some.injEq] at h; rw [← h.1]; decide
          · exact refW_ne has nums ms ws _ y o h
    · exact refW_ne has nums ms ws _ y o h
theorem rWri_ne {r : Rs} {ms : List Nat} {y : ByteArray × Int} {o : List Nat} (h : rWri r ms = (some y, o)) : y.2 ≠ 0 := by
  unfold rWri at h
  split at h
  · simp only [Prod.mk.injEq, Option.some.injEq] at h; rw [← h.1]; decide
  · split at h
    · rename_i h2
      simp only [Prod.mk.injEq, Option.some.injEq] at h; rw [← h.1]; exact h2
    · exact fin_ne (fun y o e => refW_ne _ _ _ _ _ y o e) h
theorem isBadT_p (β : Nat → Option Obj) (σ : Heap) (hty : TBE β) (b c : Nat) (what n : ByteArray) (e : Int) (he : e ≠ 0) (hL : (ErrF b c what n e).Lies β σ) :
    Go.K.Tr Tryd.prog 13 [.iface 100 (.pointer (some ⟨b, 0, none⟩)), .agg #[.int .i64 e, .string n], .string what] β σ (fun v s => v = .bool true ∧ s = σ) :=
  Tr.frzQ (isOk_p β n what).ok (fun β' g1 g2 => isBad_p β' (TBE.up g1 hty) b c what n e he (ErrT.Lies.frz (φ := σ) g1 g2 hL))
theorem tellF_len (r : Rs) (ms : List Nat) (z : List Nat × Flt) : (tellF r ms z).1.length ≤ z.1.length + 60 + ms.length := by
  have d1 : ∀ (n : ByteArray) (X : Nat), (n, 1, X).2.1 ≤ 8 := fun _ _ => by dsimp only; omega
  have d2 : ∀ (n : ByteArray) (X : Nat), (n, 2, X).2.1 ≤ 8 := fun _ _ => by dsimp only; omega
  have d4 : ∀ (n : ByteArray) (X : Nat), (n, 4, X).2.1 ≤ 8 := fun _ _ => by dsimp only; omega
  have d8 : ∀ (n : ByteArray) (X : Nat), (n, 8, X).2.1 ≤ 8 := fun _ _ => by dsimp only; omega
  have h0 : z.1.length ≤ z.1.length := Nat.le_refl _
  unfold tellF
  split
  · have h1 := putF1_b h0 (sToken, 8, r.tok) (d8 _ _)
    omega
  · split
    · have h1 := putF1_b (putF1_b (putF1_b (putF1_b (putF1_b h0 (sUnit, 1, u64 r.unit) (d1 _ _)) (sAt, 2, u64 r.ax) (d2 _ _)) (sAt, 2, u64 r.ay) (d2 _ _)) (sNew, 4, u64 r.new) (d4 _ _)) (sVer, 4, u64 r.ver) (d4 _ _)
      have h2 : (putF1 (putF1 (putF [(sAt, 2, u64 r.ax), (sAt, 2, u64 r.ay)] (putF1 z (sUnit, 1, u64 r.unit))) (sNew, 4, u64 r.new)) (sVer, 4, u64 r.ver)).1.length ≤ _ := h1
      omega
    · split
      · have h1 := putF1_b (putF1_b (putF1_b h0 (sNew, 4, u64 r.new) (d4 _ _)) (sExpl, 4, u64 r.expl) (d4 _ _)) (sVer, 4, u64 r.ver) (d4 _ _)
        omega
      · split
        · have h1 := movF_b _ sMoves ms (putF1_b (putF1_b (putF1_b (putF1_b h0 (sHit, 1, bit r.hit) (d1 _ _)) (sCost, 8, r.cost) (d8 _ _)) (sSettled, 4, u64 r.settled) (d4 _ _)) (sLeft, 4, u64 r.left) (d4 _ _))
          omega
        · split
          · have h1 := putF1_b (putF1_b (putF1_b (putF1_b (putF1_b (putF1_b h0 (sExpl, 4, u64 r.expl) (d4 _ _)) (sVer, 4, u64 r.ver) (d4 _ _)) (sLeft, 4, u64 r.left) (d4 _ _)) (sUnits, 1, u64 r.units) (d1 _ _)) (sCache, 1, u64 r.cache) (d1 _ _)) (sSess, 1, u64 r.sess) (d1 _ _)
            omega
          · omega
theorem toldF2_len (r : Rs) (ms : List Nat) (z : List Nat × Flt) : (toldF2 r ms z).1.length ≤ z.1.length + 60 + ms.length := by
  have h := tellF_len r ms z
  unfold toldF2
  split
  · omega
  · split
    · dsimp only; omega
    · split
      · dsimp only; omega
      · split
        · exact h
        · omega
theorem wri_len (r : Rs) (ms : List Nat) (o : List Nat) (h : wri r ms = (none, o)) : o.length ≤ 200 + ms.length := by
  have e : o = (toldF r ms ([], none)).1 := by
    unfold wri at h
    generalize toldF r ms ([], none) = q at h ⊢
    obtain ⟨z, x⟩ := q
    rcases x with _ | y
    · cases hl : leftS r ms
      · rw [hl] at h
        simpa [fin, cutO] using h.symm
      · rw [hl] at h
        simp [fin, cutO] at h
    · simp [fin, cutO] at h
  rw [e]
  unfold toldF
  have h0 : (([], none) : List Nat × Flt).1.length ≤ 0 := Nat.le_refl _
  have h1 := putF1_b h0 (sStat, 1, u64 r.st) (by dsimp only; omega)
  have h2 := putF1_b (z := ((putF1 ([], none) (sStat, 1, u64 r.st)).1, if r.op < 0 ∨ 255 < r.op then note (putF1 ([], none) (sStat, 1, u64 r.st)).2 sOp 18 else (putF1 ([], none) (sStat, 1, u64 r.st)).2)) h1 (sOp, 1, u64 r.op) (by dsimp only; omega)
  have h3 := toldF2_len r ms (putF1 ((putF1 ([], none) (sStat, 1, u64 r.st)).1, if r.op < 0 ∨ 255 < r.op then note (putF1 ([], none) (sStat, 1, u64 r.st)).2 sOp 18 else (putF1 ([], none) (sStat, 1, u64 r.st)).2) (sOp, 1, u64 r.op))
  dsimp only at h3 ⊢
  omega
set_option maxHeartbeats 8000000 in
theorem MsgWrites_p (β : Nat → Option Obj) (ht : TB β) (r : Rs) (hr : r.Ok) (ms : List Nat) (p : Option Addr) (m c : Nat) (hmv : r.mv = .slice p m c) (hn : ms.length = m) (hB : Byt ms) (hp : SL β [] 1 m (by8 ms) p) (hpc : p = none → c = 0 ∧ m = 0) : Go.K.PureB Tryd.prog 4 #[.agg r.cells.toArray] β (.bool true) := by
  refine Tr.pureB (Tr.of_body Tryd.tt (args := [.agg r.cells.toArray]) (fr := [(0, true, .agg r.cells.toArray)]) Tryd.func4 rfl (by decide) rfl Tryd.ntmps4 rfl rfl ?_)
  intro E hE
  subst hE
  have hsame := wri_same r ms hr
  by_cases hbig : 70000 < m
  · dsimp only [Rs.cells]
    rw [hmv]
    have htr := trivial
    repeat' (first | refine KW.seq ?_ | refine KW.region ?_ | refine KO.nil ?_ | refine At.then_normal ?_ | refine KW.skip ?_ | refine KW.ret ?_ | refine At.then_ret ?_ | ((first | apply KO.val rfl rfl rfl ?kq ?_ ); (case kq => ((first | apply qt_ev rfl ?hi | ((first | apply qt_load1 rfl rfl ?hi rfl rfl ?hm ?hc | apply qt_loadN rfl rfl ?hi rfl rfl rfl ?hm ?hc); (case hm => repeat (first | exact List.Mem.head _ )); (case hc => rfl)) | refine qt_callQ rfl rfl ?hi (fun hg => Tr.quiet (awakeW_p _)) | ((first | apply qt_pick_and rfl rfl rfl ?hi ?pj | apply qt_pick_or rfl rfl rfl ?hi ?pj); (case pj => (intro h h2; first | with_reducible exact h2 | (rw [h2]; rfl) ))) ); (case hi => (intro h; (repeat' (first | with_reducible exact alln | with_reducible refine allc ?_ ?_ )); all_goals (first | with_reducible rfl | with_reducible exact h )))))) | (refine KO.box rfl rfl rfl rfl rfl rfl ?_; intro _ _) | (refine KW.cond rfl ?_ ?_ <;> (intro hc; try simp only [kBool] at hc)) | (exfalso; omega) | fail)
    ((first | apply At.done_ret ); (focus (repeat' (first | exact ResVs.nil' | apply ResVs.cons' | exact ResV.tmp' rfl ))); dsimp only [resVal])
  have hA := Write_p E.β r hr ms p m c hmv hn hB hp (by omega)
  have hL := toldL_p E.β r p m c hmv
  have hC := rWrite_p E.β r hr ms p m c hmv hn hB hp hpc (by omega)
  dsimp only [Rs.cells] at hA hL hC ⊢
  simp only [hmv] at hA hL hC ⊢
  have htr := trivial
  repeat' (first | refine KW.seq ?_ | refine KW.region ?_ | refine KO.nil ?_ | refine At.then_normal ?_ | refine KW.skip ?_ | refine KW.ret ?_ | refine At.then_ret ?_ | ((first | apply KO.val rfl rfl rfl ?kq ?_ ); (case kq => ((first | apply qt_ev rfl ?hi | ((first | apply qt_load1 rfl rfl ?hi rfl rfl ?hm ?hc | apply qt_loadN rfl rfl ?hi rfl rfl rfl ?hm ?hc); (case hm => repeat (first | exact List.Mem.head _ )); (case hc => rfl)) | refine qt_callQ rfl rfl ?hi (fun hg => Tr.quiet (awakeW_p _)) | ((first | apply qt_pick_and rfl rfl rfl ?hi ?pj | apply qt_pick_or rfl rfl rfl ?hi ?pj); (case pj => (intro h h2; first | with_reducible exact h2 | (rw [h2]; rfl) ))) ); (case hi => (intro h; (repeat' (first | with_reducible exact alln | with_reducible refine allc ?_ ?_ )); all_goals (first | with_reducible rfl | with_reducible exact h )))))) | (refine KO.box rfl rfl rfl rfl rfl rfl ?_; intro _ _) | (refine KW.cond rfl ?_ ?_ <;> (intro hc; try simp only [kBool] at hc)) | fail)
  · ((first | apply At.done_ret ); (focus (repeat' (first | exact ResVs.nil' | apply ResVs.cons' | exact ResV.tmp' rfl ))); dsimp only [resVal])
  · rename_i br _
    refine KO.callF [] [(br, cl [.int .i64 r.st, .int .i64 r.op, .int .u64 (r.tok : Int), .int .i64 r.unit, .int .i64 r.ax, .int .i64 r.ay, .int .i64 r.new, .int .i64 r.expl, .int .i64 r.ver, .bool r.hit, .int .u64 (r.cost : Int), .int .i64 r.settled, .int .i64 r.left, (.slice p m c), .int .i64 r.units, .int .i64 r.cache, .int .i64 r.sess] 44)] (by classical exact List.perm_iff_count.2 (fun _ => by first | (simp only [List.count_append, List.count_cons, List.count_nil, List.append_assoc, List.cons_append, List.nil_append]; done) )) rfl rfl rfl rfl rfl rfl rfl hA ?_
    intro v σ1 h1
    unfold WriR at h1
    unfold RWriR at hC
    rw [← hsame] at hC
    rcases hW : wri r ms with ⟨x, o⟩
    rw [hW] at h1 hC hsame
    rcases x with _ | y
    · obtain ⟨b1, rfl, rfl⟩ := h1
      have hlo := wri_len r ms o hW
      repeat' (first | refine KW.seq ?_ | refine KW.region ?_ | refine KO.nil ?_ | ((first | apply KO.val rfl rfl rfl ?kq ?_ ); (case kq => ((first | apply qt_ev rfl ?hi | ((first | apply qt_loadN rfl rfl ?hi rfl rfl rfl ?hm ?hc); (case hm => repeat (first | exact List.Mem.head _ | apply List.Mem.tail _ )); (case hc => rfl)) | refine qt_callQ rfl rfl ?hi (fun hg => Tr.quiet hL) ); (case hi => (intro h; (repeat' (first | with_reducible exact alln | with_reducible refine allc ?_ ?_ )); all_goals (first | with_reducible rfl )))))) | fail)
      refine KO.callF [] [(b1, cl (by8 o) 5), (br, cl [.int .i64 r.st, .int .i64 r.op, .int .u64 (r.tok : Int), .int .i64 r.unit, .int .i64 r.ax, .int .i64 r.ay, .int .i64 r.new, .int .i64 r.expl, .int .i64 r.ver, .bool r.hit, .int .u64 (r.cost : Int), .int .i64 r.settled, .int .i64 r.left, (.slice p m c), .int .i64 r.units, .int .i64 r.cache, .int .i64 r.sess] 44)] (by classical exact List.perm_iff_count.2 (fun _ => by first | (simp only [List.count_append, List.count_cons, List.count_nil, List.append_assoc, List.cons_append, List.nil_append]; done) )) rfl rfl rfl rfl rfl rfl rfl hC ?_
      intro v2 σ2 h2
      obtain ⟨u, φ, hu, rfl, h0⟩ := h2
      rw [h0]
      obtain ⟨pu, cu, rfl⟩ := hu.len
      have hs := fun (σ : Heap) (h1 : (b1, cl (by8 o) 5) ∈ σ) (h2 : ∀ q ∈ φ, q ∈ σ) => same_p E.β σ o o (some ⟨b1, 0, none⟩) pu o.length cu o.length o.length rfl rfl (SL.ofBlk h1 (by simp [by8_len])) (SL.ofVec hu h2) (by omega)
      simp only [decide_true] at hs
      repeat' (first | refine KW.seq ?_ | refine KW.region ?_ | refine KO.nil ?_ | refine At.then_normal ?_ | refine KW.ret ?_ | ((first | apply KO.val rfl rfl rfl ?kq ?_ ); (case kq => ((first | apply qt_ev rfl ?hi | ((first | apply qt_loadN rfl rfl ?hi rfl rfl rfl ?hm ?hc); (case hm => repeat (first | exact List.Mem.head _ )); (case hc => rfl)) | refine qt_callQ rfl rfl ?hi (fun hg => Tr.quiet (isOk_p _ _ _)) | refine qt_callQ rfl rfl ?hi (fun hg => hs _ (by simp) (by intro q hq; simp [hq])) | refine qt_callQ rfl rfl ?hi (fun hg => Tr.quiet (awakeW_p _)) | apply qt_pick_t rfl rfl (by first | with_reducible rfl ) rfl ?hi ); (case hi => (intro h; (repeat' (first | with_reducible exact alln | with_reducible refine allc ?_ ?_ | with_reducible refine andi ?_ ?_)); all_goals (first | with_reducible rfl )))))) | (refine KO.alloc rfl rfl rfl rfl rfl rfl ?_; intro _ _) | (apply KO.store (i := _) rfl rfl rfl rfl rfl rfl rfl rfl ?hl ?sg ?hw ?ho ?hs; (case sg => first | exact (rfl : getI 0 _ = _) ); (case hl => rfl); (case hw => rfl); (case ho => rfl); (case hs => rfl)) | fail)
      ((first | apply At.done_ret ); (focus (repeat' (first | exact ResVs.nil' | apply ResVs.cons' | exact ResV.tmp' rfl ))); dsimp only [resVal])
    · obtain ⟨ev, ε, ⟨e1, e2, rfl, rfl⟩, rfl, rfl⟩ := h1
      have hy : y.2 ≠ 0 := rWri_ne hsame.symm
      repeat' (first | refine KW.seq ?_ | refine KW.region ?_ | refine KO.nil ?_ | ((first | apply KO.val rfl rfl rfl ?kq ?_ ); (case kq => ((first | apply qt_ev rfl ?hi | ((first | apply qt_loadN rfl rfl ?hi rfl rfl rfl ?hm ?hc); (case hm => repeat (first | exact List.Mem.head _ | apply List.Mem.tail _ )); (case hc => rfl)) | refine qt_callQ rfl rfl ?hi (fun hg => Tr.quiet hL) ); (case hi => (intro h; (repeat' (first | with_reducible exact alln | with_reducible refine allc ?_ ?_ )); all_goals (first | with_reducible rfl )))))) | fail)
      refine KO.callF [] ((e1, cl [.string sRes, .iface 100 (.pointer (some ⟨e2, 0, none⟩))] 108) :: [(e2, cl [.string y.1, .iface 32 (.int .i64 y.2)] 108), (br, cl [.int .i64 r.st, .int .i64 r.op, .int .u64 (r.tok : Int), .int .i64 r.unit, .int .i64 r.ax, .int .i64 r.ay, .int .i64 r.new, .int .i64 r.expl, .int .i64 r.ver, .bool r.hit, .int .u64 (r.cost : Int), .int .i64 r.settled, .int .i64 r.left, (.slice p m c), .int .i64 r.units, .int .i64 r.cache, .int .i64 r.sess] 44)]) (by classical exact List.perm_iff_count.2 (fun _ => by first | (simp only [List.count_append, List.count_cons, List.count_nil, List.append_assoc, List.cons_append, List.nil_append]; done) )) rfl rfl rfl rfl rfl rfl rfl hC ?_
      rintro _ _ ⟨rfl, rfl⟩
      have hs := fun (σ : Heap) => same_p E.β σ [] [] none none 0 0 0 0 rfl rfl (SL.nil8 _ _) (SL.nil8 _ _) (by omega)
      simp only [decide_true] at hs
      have hIs := fun σ (m1 : (e1, cl [.string sRes, .iface 100 (.pointer (some ⟨e2, 0, none⟩))] 108) ∈ σ) (m2 : (e2, cl [.string y.1, .iface 32 (.int .i64 y.2)] 108) ∈ σ) => isBadT_p E.β σ ht e1 e2 sRes y.1 y.2 hy ⟨.inl ⟨_, _, m1, rfl⟩, .inl ⟨_, _, m1, rfl⟩, .inl ⟨_, _, m2, rfl⟩, .inl ⟨_, _, m2, rfl⟩, trivial⟩
      repeat' (first | refine KW.seq ?_ | refine KW.region ?_ | refine KO.nil ?_ | refine At.then_normal ?_ | refine KW.ret ?_ | ((first | apply KO.val rfl rfl rfl ?kq ?_ ); (case kq => ((first | apply qt_ev rfl ?hi | ((first | apply qt_loadN rfl rfl ?hi rfl rfl rfl ?hm ?hc); (case hm => repeat (first | exact List.Mem.head _ )); (case hc => rfl)) | refine qt_callQ rfl rfl ?hi (fun hg => hIs _ (by simp) (by simp)) | refine qt_callQ rfl rfl ?hi (fun hg => hs _) | refine qt_callQ rfl rfl ?hi (fun hg => Tr.quiet (awakeW_p _)) | apply qt_pick_t rfl rfl (by first | with_reducible rfl ) rfl ?hi ); (case hi => (intro h; (repeat' (first | with_reducible exact alln | with_reducible refine allc ?_ ?_ | with_reducible refine andi ?_ ?_)); all_goals (first | with_reducible rfl )))))) | (refine KO.alloc rfl rfl rfl rfl rfl rfl ?_; intro _ _) | (apply KO.store (i := _) rfl rfl rfl rfl rfl rfl rfl rfl ?hl ?sg ?hw ?ho ?hs; (case sg => first | exact (rfl : getI 0 _ = _) ); (case hl => rfl); (case hw => rfl); (case ho => rfl); (case hs => rfl)) | fail)
      ((first | apply At.done_ret ); (focus (repeat' (first | exact ResVs.nil' | apply ResVs.cons' | exact ResV.tmp' rfl ))); dsimp only [resVal])
theorem u64_nat {t : Int} (h : (Lit.int .u64 t).wf = true) : ∃ n : Nat, t = n ∧ n < 18446744073709551616 := by
  simp only [Lit.wf, Bool.and_eq_true, decide_eq_true_eq] at h
  have h1 : (0 : Int) ≤ t := h.1
  have h2 : t ≤ 18446744073709551615 := h.2
  exact ⟨t.toNat, by omega, by omega⟩
theorem MsgWrites_c (β : Nat → Option Obj) (ht : TB β) (vs : List Value) (hrd : RdVs Tryd.prog β [44] vs) : Go.K.PureB Tryd.prog 4 vs.toArray β (.bool true) := by
  obtain ⟨va0, vr0, rfl, ha0, hrd⟩ := hrd.cons
  obtain rfl := hrd.nil
  obtain ⟨vc0, rfl, hq0⟩ := rdV_agg (k := 8) (ts := [32, 3, 22, 3, 3, 3, 3, 3, 3, 4, 22, 3, 3, 27, 3, 3, 3]) ha0 (by kernel_rfl) (by kernel_rfl)
  obtain ⟨vl0_0, vm0_0, rfl, hl0_0, hq0⟩ := hq0.cons
  obtain ⟨vl0_1, vm0_1, rfl, hl0_1, hq0⟩ := hq0.cons
  obtain ⟨vl0_2, vm0_2, rfl, hl0_2, hq0⟩ := hq0.cons
  obtain ⟨vl0_3, vm0_3, rfl, hl0_3, hq0⟩ := hq0.cons
  obtain ⟨vl0_4, vm0_4, rfl, hl0_4, hq0⟩ := hq0.cons
  obtain ⟨vl0_5, vm0_5, rfl, hl0_5, hq0⟩ := hq0.cons
  obtain ⟨vl0_6, vm0_6, rfl, hl0_6, hq0⟩ := hq0.cons
  obtain ⟨vl0_7, vm0_7, rfl, hl0_7, hq0⟩ := hq0.cons
  obtain ⟨vl0_8, vm0_8, rfl, hl0_8, hq0⟩ := hq0.cons
  obtain ⟨vl0_9, vm0_9, rfl, hl0_9, hq0⟩ := hq0.cons
  obtain ⟨vl0_10, vm0_10, rfl, hl0_10, hq0⟩ := hq0.cons
  obtain ⟨vl0_11, vm0_11, rfl, hl0_11, hq0⟩ := hq0.cons
  obtain ⟨vl0_12, vm0_12, rfl, hl0_12, hq0⟩ := hq0.cons
  obtain ⟨vl0_13, vm0_13, rfl, hl0_13, hq0⟩ := hq0.cons
  obtain ⟨vl0_14, vm0_14, rfl, hl0_14, hq0⟩ := hq0.cons
  obtain ⟨vl0_15, vm0_15, rfl, hl0_15, hq0⟩ := hq0.cons
  obtain ⟨vl0_16, vm0_16, rfl, hl0_16, hq0⟩ := hq0.cons
  obtain rfl := hq0.nil
  obtain ⟨st, rfl, hb_st⟩ := rd_i64 Tryd.underlying32 hl0_0
  obtain ⟨op, rfl, hb_op⟩ := rd_i64 Tryd.underlying3 hl0_1
  obtain ⟨tok, rfl, hb_tok⟩ := rd_int Tryd.underlying22 hl0_2
  obtain ⟨unit, rfl, hb_unit⟩ := rd_i64 Tryd.underlying3 hl0_3
  obtain ⟨ax, rfl, hb_ax⟩ := rd_i64 Tryd.underlying3 hl0_4
  obtain ⟨ay, rfl, hb_ay⟩ := rd_i64 Tryd.underlying3 hl0_5
  obtain ⟨new, rfl, hb_new⟩ := rd_i64 Tryd.underlying3 hl0_6
  obtain ⟨expl, rfl, hb_expl⟩ := rd_i64 Tryd.underlying3 hl0_7
  obtain ⟨ver, rfl, hb_ver⟩ := rd_i64 Tryd.underlying3 hl0_8
  obtain ⟨hit, rfl⟩ := rd_bool Tryd.underlying4 hl0_9
  obtain ⟨cost, rfl, hb_cost⟩ := rd_int Tryd.underlying22 hl0_10
  obtain ⟨settled, rfl, hb_settled⟩ := rd_i64 Tryd.underlying3 hl0_11
  obtain ⟨left, rfl, hb_left⟩ := rd_i64 Tryd.underlying3 hl0_12
  obtain ⟨mv_p, mv_m, mv_c, mv, rfl, hb_mv⟩ := rd_bytes Tryd.underlying27 Tryd.underlying5 (by kernel_rfl) (by kernel_rfl) (by kernel_rfl) hl0_13
  obtain ⟨units, rfl, hb_units⟩ := rd_i64 Tryd.underlying3 hl0_14
  obtain ⟨cache, rfl, hb_cache⟩ := rd_i64 Tryd.underlying3 hl0_15
  obtain ⟨sess, rfl, hb_sess⟩ := rd_i64 Tryd.underlying3 hl0_16
  obtain ⟨tok, rfl, h1⟩ := u64_nat hb_tok
  obtain ⟨cost, rfl, h2⟩ := u64_nat hb_cost
  exact MsgWrites_p β ht ⟨st, op, tok, unit, ax, ay, new, expl, ver, hit, cost, settled, left, .slice mv_p mv_m mv_c, units, cache, sess⟩ ⟨hb_st, hb_op, h1, hb_unit, hb_ax, hb_ay, hb_new, hb_expl, hb_ver, h2, hb_settled, hb_left, hb_units, hb_cache, hb_sess⟩ mv mv_p mv_m mv_c rfl hb_mv.len hb_mv.byt hb_mv.sl hb_mv.none
set_option maxRecDepth 100000 in
theorem MsgWrites_lifted (os : Os) (started : os.Started) (H : Type) (enc : TypeId × Value → H) :
    ReturnsInHanded {} Tryd.checked os 4 .any (fun w args => (Rows.msgWritesSpec.pre enc Tryd.prog Tryd.f4 [] false w args ∧ laidMetH Tryd.prog laidL w) ∧ sizedMet enc Tryd.prog Tryd.f4 (OpenSpec.ofChange Rows.msgWritesSpec) false w args) (Rows.msgWritesSpec.post enc Tryd.prog Tryd.f4 false true false false) :=
  law_liftL (C := Tryd.checked) (laid := laidL) (Tb := TB) Tryd.own started (by kernel_rfl) Tryd.func4
    (ChangeSpec.witness_shaped (enc := enc) (C := Tryd.checked) (os := os) (X := fun w _ => laidMetH Tryd.prog laidL w) false (World.doorLaid Tryd.prog 400 os) #[.agg #[.int .i64 0, .int .i64 0, .int .u64 0, .int .i64 0, .int .i64 0, .int .i64 0, .int .i64 0, .int .i64 0, .int .i64 0, .bool false, .int .u64 0, .int .i64 0, .int .i64 0, .slice none 0 0, .int .i64 0, .int .i64 0, .int .i64 0]] 8 rfl (World.shaped_of_RefB (by kernel_rfl) (by kernel_rfl)) (by kernel_rfl) (by kernel_rfl) (by kernel_rfl) (door_met os _))
    Tryd.laidOut rfl (by kernel_rfl) (by kernel_rfl) rfl Tryd.underlying4
    (fun ds h => by
      have h' : ds.length = 1 := h
      match ds, h' with
      | [_], _ => rfl)
    tb_of (fun β vs h ht => MsgWrites_c β ht vs h)

theorem MsgWrites_holds : Rows.MsgWritesSaid :=
  OpenClaim.holds_of_wide 4 Tryd.f4 rfl rfl rfl rfl rfl rfl rfl ⟨rfl, rfl, rfl, rfl, rfl⟩ rfl rfl rfl rfl rfl (by kernel_rfl) Tryd.func4 (by kernel_rfl)
    (of_decide_eq_true (by kernel_rfl)) (by unfold Func.isWrapper; first | (rw [if_neg (by decide +kernel)]; exact ⟨rfl, rfl⟩))
    (fun os started H enc _ => MsgWrites_lifted os started H enc)
theorem MsgWrites_card : Rows.MsgWritesCardSaid :=
  Claim7.holds_tied_plain_at .later [] [.handle] true (true, "9b5da6f2840a215d410c8f54959855c8ec1c8453c8fb6315fb33309d85292c9f") true
    MsgWrites_holds (fun _ h => by cases h) (by kernel_rfl) (fun _ h => by cases h) msgWrites_row_tie rfl ⟨rfl, rfl⟩ (by kernel_rfl) rfl
    (fun f fn hf hfn => by
      obtain rfl : f = 4 := Option.some.inj ((show Tryd.prog.funcNamed "gloaming/gloaminglaw20.MsgWrites" = some 4 by kernel_rfl).symm.trans hf) |>.symm
      obtain rfl : fn = Tryd.f4 := (Option.some.inj (Tryd.func4.symm.trans hfn)).symm
      refine ⟨by kernel_rfl, fun j t ht => ?_⟩
      rw [Tryd.params4] at ht
      have hall : ([44].all fun t => !Tryd.prog.wantsStandIn t) = true := by kernel_rfl
      have hm : t ∈ [44] := by have := Array.mem_of_getElem? ht; simpa using this
      have := List.all_eq_true.1 hall t hm
      have h5 : Tryd.prog.wantsStandIn t = false := by simpa using this
      exact h5)
    (by kernel_rfl)
end Go.Proofs.YtnaclkdjchnbpaaDoor

/- MsgParses: which response a payload is, or where it is wrong, is what the document tells. -/
import Derived.Test.YtnaclkdjchnbpaaDoorZE
section
namespace Go.Proofs.YtnaclkdjchnbpaaDoor
open Go Go.K

def parF (l : List Nat) : Flt := if 0 < (toldT (l, none)).1.1.length then note (toldT (l, none)).1.2 sEnd 12 else (toldT (l, none)).1.2
def ParR (β : Nat → Option Obj) (l : List Nat) (v : Value) (σ : Heap) : Prop := match parF l with
  | some y => ∃ e1 e2, v = .tuple #[.agg zR.cells.toArray, .iface 100 (.pointer (some ⟨e1, 0, none⟩))] ∧ σ = [(e1, cl [.string sRes, .iface 100 (.pointer (some ⟨e2, 0, none⟩))] 108), (e2, cl [.string y.1, .iface 32 (.int .i64 y.2)] 108)]
  | none => ∃ mv, MvR β mv (toldT (l, none)).2.2 σ ∧ v = .tuple #[.agg { (toldT (l, none)).2.1 with mv := mv }.cells.toArray, .nilIface]
theorem endP_p (β : Nat → Option Obj) (bf n : Nat) (md : Md) (y : Flt) (σ : Heap) (hf : FormB β bf sRes md y σ) {rest : Bool} (hb : rest = decide (0 < n)) :
    Go.K.Tr Tryd.prog 30 [.pointer (some ⟨bf, 0, none⟩), .bool rest, .int .i64 12] β σ (fun v σ' => ∃ wv rv dv ev φ ε, FormH β bf md wv rv dv φ ∧ EV sRes (if 0 < n then note y sEnd 12 else y) ev ε ∧ v = ev ∧ σ' = (bf, cl [.string sRes, wv, rv, dv, ev] 80) :: (ε ++ φ)) := by
  subst hb
  refine (end_p β bf sRes md y σ hf _ 12).mono ?_
  simp only [decide_eq_true_eq]
  exact fun v s h => h
theorem MvR.slice {β : Nat → Option Obj} {mv : Value} {ms : List Nat} {μ : Heap} (h : MvR β mv ms μ) : ∃ p n c, mv = .slice p n c := by
  obtain ⟨p, c, e, _⟩ := h
  exact ⟨p, _, c, e⟩
set_option maxHeartbeats 16000000 in
theorem Parse_p (β : Nat → Option Obj) (ht : TBE β) (m c : Nat) (l : List Nat) (p : Option Addr) (hl : l.length = m) (hB : Byt l) (hv : SL β [] 1 m (by8 l) p) (hpc : p = none → c = 0 ∧ m = 0) (hm : m ≤ 900000) :
    Go.K.Tr Tryd.prog 21 [.slice p m c] β [] (fun v σ' => ParR β l v σ') := by
  refine Tr.sub ?_
  refine Tr.of_body Tryd.tt (args := [.slice p m c]) (fr := [(0, true, .slice p m c)]) Tryd.func21 rfl (by decide) rfl Tryd.ntmps21 rfl rfl ?_
  intro E hE
  subst hE
  repeat' (first | refine KW.seq ?_ | refine KW.region ?_ | refine KO.nil ?_ | refine At.then_normal ?_ | refine KW.skip ?_ | refine KW.ret ?_ | refine At.then_ret ?_ | refine KW.block ?_ | refine KW.exit ?_ | refine At.block_normal ?_ | refine At.block_ret ?_ | refine At.loop_ret ?_ | refine At.then_exit ?_ | refine At.block_here rfl ?_ | refine At.block_there rfl ?_ | refine At.loop_exit ?_ | refine At.cut_ret ?_ | refine At.cutA_ret ?_ | refine At.cutA_exit ?_ | refine At.cut_exit ?_ | (refine At.cut_same ?_; repeat' (first | exact FLe.nil _ | refine FLe.cons rfl rfl ?_)) | refine KW.cond_t rfl (by first | with_reducible rfl | decide) ?_ | refine KW.cond_f rfl (by first | with_reducible rfl | decide) ?_ | refine KW.scope ?_ | refine KW.label ?_ | refine At.scope_normal ?_ | refine At.scope_ret ?_ | refine At.scope_exit ?_ | refine KW.drawM (id := 7) [0, 1, 1, 3] [] (by decide +kernel) rfl rfl rfl ?_ | refine KDH.mid2 ?_ | refine KDH.mid3 ?_ | refine KDH.done ?_ | refine KDM.head0 ?_ | refine KDM.head1 ?_ | refine KDM.fin ?_ | refine KDH.skip0' rfl (by first | with_reducible rfl | decide) rfl rfl ?_ | refine KDH.skip1' rfl (by first | with_reducible rfl | decide) rfl rfl ?_ | (refine KDM.eo30 rfl rfl (eo_store (i := _) rfl rfl rfl rfl rfl rfl rfl ?sg ?sw ?so ?ss) ?_; (case sg => first | exact (rfl : getI 0 _ = _) | exact (rfl : getI 1 _ = _) | exact (rfl : getI 2 _ = _) | exact (rfl : getI 3 _ = _) | exact (rfl : getI 4 _ = _) | exact (rfl : getI 5 _ = _) | exact (rfl : getI 6 _ = _) | exact (rfl : getI 7 _ = _)); (case sw => rfl); (case so => rfl); (case ss => rfl); rintro _ _ rfl; refine ⟨?sub, ?_⟩; (case sub => (intro _ hp; first | exact hp | (cases hp; done) | (repeat (first | exact hp | apply List.mem_cons_of_mem | apply List.mem_append_right)) | (simp_all; done)))) | refine KW.draw 0 (by decide +kernel) ?_ | refine KW.drawU rfl (by decide +kernel) ?_ | refine KD.zero ?_ | ((first | apply KO.val rfl rfl rfl ?kq ?_ | apply KD.val rfl rfl rfl ?kq ?_ | apply KDH.val0 rfl rfl rfl ?kq ?_ | apply KDH.val1 rfl rfl rfl ?kq ?_ | apply KDH.valIn0 rfl rfl rfl ?kq ?_ | apply KDH.valIn1 rfl rfl rfl ?kq ?_ | apply KDM.q2f rfl rfl rfl ?kq ?ksub ?_ | apply KDM.q2t rfl rfl rfl ?kq ?ksub ?_); (try (case ksub => (intro _ hp; first | exact hp | (cases hp; done) | (repeat (first | exact hp | apply List.mem_cons_of_mem | apply List.mem_append_right)) | (simp_all; done)))); (case kq => ((first | apply qt_ev rfl ?hi | ((first | apply qt_load1 rfl rfl ?hi rfl rfl ?hm ?hc | apply qt_loadN rfl rfl ?hi rfl rfl rfl ?hm ?hc); (case hm => repeat (first | exact List.Mem.head _ | apply List.Mem.tail _ | apply List.mem_append_right _)); (case hc => rfl)) | apply qt_cap rfl rfl ?hi rfl | apply qt_build rfl rfl ?hi rfl | apply qt_eqs rfl rfl rfl ?hi rfl (Or.inl rfl) | apply qt_nes rfl rfl rfl ?hi rfl (Or.inl rfl) | apply qt_eqs rfl rfl rfl ?hi rfl (Or.inr ⟨rfl, rfl, rfl⟩) | apply qt_nes rfl rfl rfl ?hi rfl (Or.inr ⟨rfl, rfl, rfl⟩)); (case hi => (intro h; (repeat' (first | with_reducible exact alln | with_reducible refine allc ?_ ?_ | with_reducible refine andi ?_ ?_)); all_goals (first | with_reducible rfl | with_reducible exact h | with_reducible exact andl h | with_reducible exact andr h | with_reducible exact andl (andl h) | (simp only [h, Bool.and_self]; done) | (simp [h]; done) | (simp_all; done))))))) | (refine KO.alloc rfl rfl rfl rfl rfl rfl ?_; intro _ _) | (apply KO.store (i := _) rfl rfl rfl rfl rfl rfl rfl rfl ?hl ?sg ?hw ?ho ?hs; (case sg => first | exact (rfl : getI 0 _ = _) | exact (rfl : getI 1 _ = _) | exact (rfl : getI 2 _ = _) | exact (rfl : getI 3 _ = _) | exact (rfl : getI 4 _ = _) | exact (rfl : getI 5 _ = _) | exact (rfl : getI 6 _ = _) | exact (rfl : getI 7 _ = _)); (case hl => rfl); (case hw => rfl); (case ho => rfl); (case hs => rfl)) | (refine KW.cond rfl ?_ ?_ <;> (intro hc; try simp only [kBool] at hc)) | exact absurd trivial ‹¬True› | fail)
  rename_i b2 _ b4 _
  refine KO.callF [] [(b4, cl [.int .i64 0, .int .i64 0, .int .u64 0, .int .i64 0, .int .i64 0, .int .i64 0, .int .i64 0, .int .i64 0, .int .i64 0, .bool false, .int .u64 0, .int .i64 0, .int .i64 0, .slice none 0 0, .int .i64 0, .int .i64 0, .int .i64 0] 44), (b2, cl [.int .i64 0, .int .i64 0, .int .u64 0, .int .i64 0, .int .i64 0, .int .i64 0, .int .i64 0, .int .i64 0, .int .i64 0, .bool false, .int .u64 0, .int .i64 0, .int .i64 0, .slice none 0 0, .int .i64 0, .int .i64 0, .int .i64 0] 44)] (by classical exact List.perm_iff_count.2 (fun _ => by first | (simp only [List.count_append, List.count_cons, List.count_nil, List.append_assoc, List.cons_append, List.nil_append]; done) | (simp only [List.count_append, List.count_cons, List.count_nil, List.append_assoc, List.cons_append, List.nil_append]; omega))) rfl rfl rfl rfl rfl rfl rfl (reads_p _ sRes m c l p hl hB hv hpc (by omega)) ?_
  rintro _ s ⟨bf, rfl, hf⟩
  repeat' (first | refine KW.seq ?_ | refine KW.region ?_ | refine KO.nil ?_ | refine At.then_normal ?_ | refine KW.skip ?_ | refine KW.ret ?_ | refine At.then_ret ?_ | refine KW.block ?_ | refine KW.exit ?_ | refine At.block_normal ?_ | refine At.block_ret ?_ | refine At.loop_ret ?_ | refine At.then_exit ?_ | refine At.block_here rfl ?_ | refine At.block_there rfl ?_ | refine At.loop_exit ?_ | refine At.cut_ret ?_ | refine At.cutA_ret ?_ | refine At.cutA_exit ?_ | refine At.cut_exit ?_ | (refine At.cut_same ?_; repeat' (first | exact FLe.nil _ | refine FLe.cons rfl rfl ?_)) | refine KW.cond_t rfl (by first | with_reducible rfl | decide) ?_ | refine KW.cond_f rfl (by first | with_reducible rfl | decide) ?_ | refine KW.scope ?_ | refine KW.label ?_ | refine At.scope_normal ?_ | refine At.scope_ret ?_ | refine At.scope_exit ?_ | refine KW.drawM (id := 7) [0, 1, 1, 3] [] (by decide +kernel) rfl rfl rfl ?_ | refine KDH.mid2 ?_ | refine KDH.mid3 ?_ | refine KDH.done ?_ | refine KDM.head0 ?_ | refine KDM.head1 ?_ | refine KDM.fin ?_ | refine KDH.skip0' rfl (by first | with_reducible rfl | decide) rfl rfl ?_ | refine KDH.skip1' rfl (by first | with_reducible rfl | decide) rfl rfl ?_ | (refine KDM.eo30 rfl rfl (eo_store (i := _) rfl rfl rfl rfl rfl rfl rfl ?sg ?sw ?so ?ss) ?_; (case sg => first | exact (rfl : getI 0 _ = _) | exact (rfl : getI 1 _ = _) | exact (rfl : getI 2 _ = _) | exact (rfl : getI 3 _ = _) | exact (rfl : getI 4 _ = _) | exact (rfl : getI 5 _ = _) | exact (rfl : getI 6 _ = _) | exact (rfl : getI 7 _ = _)); (case sw => rfl); (case so => rfl); (case ss => rfl); rintro _ _ rfl; refine ⟨?sub, ?_⟩; (case sub => (intro _ hp; first | exact hp | (cases hp; done) | (repeat (first | exact hp | apply List.mem_cons_of_mem | apply List.mem_append_right)) | (simp_all; done)))) | refine KW.draw 0 (by decide +kernel) ?_ | refine KW.drawU rfl (by decide +kernel) ?_ | refine KD.zero ?_ | ((first | apply KO.val rfl rfl rfl ?kq ?_ | apply KD.val rfl rfl rfl ?kq ?_ | apply KDH.val0 rfl rfl rfl ?kq ?_ | apply KDH.val1 rfl rfl rfl ?kq ?_ | apply KDH.valIn0 rfl rfl rfl ?kq ?_ | apply KDH.valIn1 rfl rfl rfl ?kq ?_ | apply KDM.q2f rfl rfl rfl ?kq ?ksub ?_ | apply KDM.q2t rfl rfl rfl ?kq ?ksub ?_); (try (case ksub => (intro _ hp; first | exact hp | (cases hp; done) | (repeat (first | exact hp | apply List.mem_cons_of_mem | apply List.mem_append_right)) | (simp_all; done)))); (case kq => ((first | apply qt_ev rfl ?hi | ((first | apply qt_load1 rfl rfl ?hi rfl rfl ?hm ?hc | apply qt_loadN rfl rfl ?hi rfl rfl rfl ?hm ?hc); (case hm => repeat (first | exact List.Mem.head _ | apply List.Mem.tail _ | apply List.mem_append_right _)); (case hc => rfl)) | apply qt_cap rfl rfl ?hi rfl | apply qt_build rfl rfl ?hi rfl | apply qt_eqs rfl rfl rfl ?hi rfl (Or.inl rfl) | apply qt_nes rfl rfl rfl ?hi rfl (Or.inl rfl) | apply qt_eqs rfl rfl rfl ?hi rfl (Or.inr ⟨rfl, rfl, rfl⟩) | apply qt_nes rfl rfl rfl ?hi rfl (Or.inr ⟨rfl, rfl, rfl⟩)); (case hi => (intro h; (repeat' (first | with_reducible exact alln | with_reducible refine allc ?_ ?_ | with_reducible refine andi ?_ ?_)); all_goals (first | with_reducible rfl | with_reducible exact h | with_reducible exact andl h | with_reducible exact andr h | with_reducible exact andl (andl h) | (simp only [h, Bool.and_self]; done) | (simp [h]; done) | (simp_all; done))))))) | (refine KO.alloc rfl rfl rfl rfl rfl rfl ?_; intro _ _) | (apply KO.store (i := _) rfl rfl rfl rfl rfl rfl rfl rfl ?hl ?sg ?hw ?ho ?hs; (case sg => first | exact (rfl : getI 0 _ = _) | exact (rfl : getI 1 _ = _) | exact (rfl : getI 2 _ = _) | exact (rfl : getI 3 _ = _) | exact (rfl : getI 4 _ = _) | exact (rfl : getI 5 _ = _) | exact (rfl : getI 6 _ = _) | exact (rfl : getI 7 _ = _)); (case hl => rfl); (case hw => rfl); (case ho => rfl); (case hs => rfl)) | (refine KW.cond rfl ?_ ?_ <;> (intro hc; try simp only [kBool] at hc)) | exact absurd trivial ‹¬True› | fail)
  refine KO.callF ((b4, cl [.int .i64 0, .int .i64 0, .int .u64 0, .int .i64 0, .int .i64 0, .int .i64 0, .int .i64 0, .int .i64 0, .int .i64 0, .bool false, .int .u64 0, .int .i64 0, .int .i64 0, .slice none 0 0, .int .i64 0, .int .i64 0, .int .i64 0] 44) :: s) [(b2, cl [.int .i64 0, .int .i64 0, .int .u64 0, .int .i64 0, .int .i64 0, .int .i64 0, .int .i64 0, .int .i64 0, .int .i64 0, .bool false, .int .u64 0, .int .i64 0, .int .i64 0, .slice none 0 0, .int .i64 0, .int .i64 0, .int .i64 0] 44)] (by classical exact List.perm_iff_count.2 (fun _ => by first | (simp only [List.count_append, List.count_cons, List.count_nil, List.append_assoc, List.cons_append, List.nil_append]; done) | (simp only [List.count_append, List.count_cons, List.count_nil, List.append_assoc, List.cons_append, List.nil_append]; omega))) rfl rfl rfl rfl rfl rfl rfl (toldT_p _ bf b4 sRes (z := (l, none)) ⟨hf, by dsimp only; omega⟩ hB) ?_
  rintro _ _ ⟨s2, μ, mv, hs2, hmv, rfl⟩
  have hpf : parF l = if 0 < (toldT (l, none)).1.1.length then note (toldT (l, none)).1.2 sEnd 12 else (toldT (l, none)).1.2 := rfl
  have hPR : ∀ v σ, ParR E.β l v σ = (match parF l with
    | some y => ∃ e1 e2, v = .tuple #[.agg zR.cells.toArray, .iface 100 (.pointer (some ⟨e1, 0, none⟩))] ∧ σ = [(e1, cl [.string sRes, .iface 100 (.pointer (some ⟨e2, 0, none⟩))] 108), (e2, cl [.string y.1, .iface 32 (.int .i64 y.2)] 108)]
    | none => ∃ mv, MvR E.β mv (toldT (l, none)).2.2 σ ∧ v = .tuple #[.agg { (toldT (l, none)).2.1 with mv := mv }.cells.toArray, .nilIface]) := fun _ _ => rfl
  rcases hT : toldT (l, none) with ⟨⟨l', y⟩, r, ms⟩
  rw [hT] at hs2 hmv hpf hPR
  dsimp only at hs2 hmv hpf hPR ⊢
  obtain ⟨⟨wv, rv, dv, ev, φ, ε, hF, hE, rfl⟩, hb⟩ := hs2
  dsimp only at hb
  have hF2 := hF
  obtain ⟨rfl, rfl, br, p', c', ψ, rfl, rfl, hB', hlc, hpc', hs'⟩ := hF
  obtain ⟨pm, nm, cm, rfl⟩ := hmv.slice
  dsimp only [Rs.cells]
  refine KO.perm (σ' := (bf, cl [.string sRes, .slice none 0 0, .pointer (some ⟨br, 0, none⟩), .func (.func (Md.take l').fn) #[.pointer (some ⟨bf, 0, none⟩)] #[], ev] 80) :: ((b4, cl [.int .i64 r.st, .int .i64 r.op, .int .u64 (r.tok : Int), .int .i64 r.unit, .int .i64 r.ax, .int .i64 r.ay, .int .i64 r.new, .int .i64 r.expl, .int .i64 r.ver, .bool r.hit, .int .u64 (r.cost : Int), .int .i64 r.settled, .int .i64 r.left, (.slice pm nm cm), .int .i64 r.units, .int .i64 r.cache, .int .i64 r.sess] 44) :: ((b2, cl [.int .i64 0, .int .i64 0, .int .u64 0, .int .i64 0, .int .i64 0, .int .i64 0, .int .i64 0, .int .i64 0, .int .i64 0, .bool false, .int .u64 0, .int .i64 0, .int .i64 0, .slice none 0 0, .int .i64 0, .int .i64 0, .int .i64 0] 44) :: ((br, cl [.slice p' l'.length c'] 126) :: (ε ++ (ψ ++ μ)))))) ?_ ?_
  · show List.Perm ((b4, cl [.int .i64 r.st, .int .i64 r.op, .int .u64 (r.tok : Int), .int .i64 r.unit, .int .i64 r.ax, .int .i64 r.ay, .int .i64 r.new, .int .i64 r.expl, .int .i64 r.ver, .bool r.hit, .int .u64 (r.cost : Int), .int .i64 r.settled, .int .i64 r.left, (.slice pm nm cm), .int .i64 r.units, .int .i64 r.cache, .int .i64 r.sess] 44) :: (((bf, cl [.string sRes, .slice none 0 0, .pointer (some ⟨br, 0, none⟩), .func (.func (Md.take l').fn) #[.pointer (some ⟨bf, 0, none⟩)] #[], ev] 80) :: (ε ++ (br, cl [.slice p' l'.length c'] 126) :: ψ)) ++ μ) ++ [(b2, cl [.int .i64 0, .int .i64 0, .int .u64 0, .int .i64 0, .int .i64 0, .int .i64 0, .int .i64 0, .int .i64 0, .int .i64 0, .bool false, .int .u64 0, .int .i64 0, .int .i64 0, .slice none 0 0, .int .i64 0, .int .i64 0, .int .i64 0] 44)]) _
    exact (by classical exact List.perm_iff_count.2 (fun _ => by first | (simp only [List.count_append, List.count_cons, List.count_nil, List.append_assoc, List.cons_append, List.nil_append]; done) | (simp only [List.count_append, List.count_cons, List.count_nil, List.append_assoc, List.cons_append, List.nil_append]; omega)))
  repeat' (first | refine KW.seq ?_ | refine KW.region ?_ | refine KO.nil ?_ | refine At.then_normal ?_ | refine KW.skip ?_ | refine KW.ret ?_ | refine At.then_ret ?_ | refine KW.block ?_ | refine KW.exit ?_ | refine At.block_normal ?_ | refine At.block_ret ?_ | refine At.loop_ret ?_ | refine At.then_exit ?_ | refine At.block_here rfl ?_ | refine At.block_there rfl ?_ | refine At.loop_exit ?_ | refine At.cut_ret ?_ | refine At.cutA_ret ?_ | refine At.cutA_exit ?_ | refine At.cut_exit ?_ | (refine At.cut_same ?_; repeat' (first | exact FLe.nil _ | refine FLe.cons rfl rfl ?_)) | refine KW.cond_t rfl (by first | with_reducible rfl | decide) ?_ | refine KW.cond_f rfl (by first | with_reducible rfl | decide) ?_ | refine KW.scope ?_ | refine KW.label ?_ | refine At.scope_normal ?_ | refine At.scope_ret ?_ | refine At.scope_exit ?_ | refine KW.drawM (id := 7) [0, 1, 1, 3] [] (by decide +kernel) rfl rfl rfl ?_ | refine KDH.mid2 ?_ | refine KDH.mid3 ?_ | refine KDH.done ?_ | refine KDM.head0 ?_ | refine KDM.head1 ?_ | refine KDM.fin ?_ | refine KDH.skip0' rfl (by first | with_reducible rfl | decide) rfl rfl ?_ | refine KDH.skip1' rfl (by first | with_reducible rfl | decide) rfl rfl ?_ | (refine KDM.eo30 rfl rfl (eo_store (i := _) rfl rfl rfl rfl rfl rfl rfl ?sg ?sw ?so ?ss) ?_; (case sg => first | exact (rfl : getI 0 _ = _) | exact (rfl : getI 1 _ = _) | exact (rfl : getI 2 _ = _) | exact (rfl : getI 3 _ = _) | exact (rfl : getI 4 _ = _) | exact (rfl : getI 5 _ = _) | exact (rfl : getI 6 _ = _) | exact (rfl : getI 7 _ = _)); (case sw => rfl); (case so => rfl); (case ss => rfl); rintro _ _ rfl; refine ⟨?sub, ?_⟩; (case sub => (intro _ hp; first | exact hp | (cases hp; done) | (repeat (first | exact hp | apply List.mem_cons_of_mem | apply List.mem_append_right)) | (simp_all; done)))) | refine KW.draw 0 (by decide +kernel) ?_ | refine KW.drawU rfl (by decide +kernel) ?_ | refine KD.zero ?_ | ((first | apply KO.val rfl rfl rfl ?kq ?_ | apply KD.val rfl rfl rfl ?kq ?_ | apply KDH.val0 rfl rfl rfl ?kq ?_ | apply KDH.val1 rfl rfl rfl ?kq ?_ | apply KDH.valIn0 rfl rfl rfl ?kq ?_ | apply KDH.valIn1 rfl rfl rfl ?kq ?_ | apply KDM.q2f rfl rfl rfl ?kq ?ksub ?_ | apply KDM.q2t rfl rfl rfl ?kq ?ksub ?_); (try (case ksub => (intro _ hp; first | exact hp | (cases hp; done) | (repeat (first | exact hp | apply List.mem_cons_of_mem | apply List.mem_append_right)) | (simp_all; done)))); (case kq => ((first | apply qt_ev rfl ?hi | ((first | apply qt_load1 rfl rfl ?hi rfl rfl ?hm ?hc | apply qt_loadN rfl rfl ?hi rfl rfl rfl ?hm ?hc); (case hm => repeat (first | exact List.Mem.head _ | apply List.Mem.tail _ | apply List.mem_append_right _)); (case hc => rfl)) | apply qt_cap rfl rfl ?hi rfl | apply qt_build rfl rfl ?hi rfl | apply qt_eqs rfl rfl rfl ?hi rfl (Or.inl rfl) | apply qt_nes rfl rfl rfl ?hi rfl (Or.inl rfl) | apply qt_eqs rfl rfl rfl ?hi rfl (Or.inr ⟨rfl, rfl, rfl⟩) | apply qt_nes rfl rfl rfl ?hi rfl (Or.inr ⟨rfl, rfl, rfl⟩)); (case hi => (intro h; (repeat' (first | with_reducible exact alln | with_reducible refine allc ?_ ?_ | with_reducible refine andi ?_ ?_)); all_goals (first | with_reducible rfl | with_reducible exact h | with_reducible exact andl h | with_reducible exact andr h | with_reducible exact andl (andl h) | (simp only [h, Bool.and_self]; done) | (simp [h]; done) | (simp_all; done))))))) | (refine KO.alloc rfl rfl rfl rfl rfl rfl ?_; intro _ _) | (apply KO.store (i := _) rfl rfl rfl rfl rfl rfl rfl rfl ?hl ?sg ?hw ?ho ?hs; (case sg => first | exact (rfl : getI 0 _ = _) | exact (rfl : getI 1 _ = _) | exact (rfl : getI 2 _ = _) | exact (rfl : getI 3 _ = _) | exact (rfl : getI 4 _ = _) | exact (rfl : getI 5 _ = _) | exact (rfl : getI 6 _ = _) | exact (rfl : getI 7 _ = _)); (case hl => rfl); (case hw => rfl); (case ho => rfl); (case hs => rfl)) | (refine KW.cond rfl ?_ ?_ <;> (intro hc; try simp only [kBool] at hc)) | exact absurd trivial ‹¬True› | fail)
  refine KO.callF ((br, cl [.slice p' l'.length c'] 126) :: ψ) ((bf, cl [.string sRes, .slice none 0 0, .pointer (some ⟨br, 0, none⟩), .func (.func (Md.take l').fn) #[.pointer (some ⟨bf, 0, none⟩)] #[], ev] 80) :: ((b4, cl [.int .i64 r.st, .int .i64 r.op, .int .u64 (r.tok : Int), .int .i64 r.unit, .int .i64 r.ax, .int .i64 r.ay, .int .i64 r.new, .int .i64 r.expl, .int .i64 r.ver, .bool r.hit, .int .u64 (r.cost : Int), .int .i64 r.settled, .int .i64 r.left, (.slice pm nm cm), .int .i64 r.units, .int .i64 r.cache, .int .i64 r.sess] 44) :: ((b2, cl [.int .i64 0, .int .i64 0, .int .u64 0, .int .i64 0, .int .i64 0, .int .i64 0, .int .i64 0, .int .i64 0, .int .i64 0, .bool false, .int .u64 0, .int .i64 0, .int .i64 0, .slice none 0 0, .int .i64 0, .int .i64 0, .int .i64 0] 44) :: (ε ++ μ)))) (by classical exact List.perm_iff_count.2 (fun _ => by first | (simp only [List.count_append, List.count_cons, List.count_nil, List.append_assoc, List.cons_append, List.nil_append]; done) | (simp only [List.count_append, List.count_cons, List.count_nil, List.append_assoc, List.cons_append, List.nil_append]; omega))) rfl rfl rfl rfl rfl rfl rfl (Rest_p _ ψ br l'.length c' (by8 l') p' (hs'.mono (fun q hq => List.mem_cons_of_mem _ hq)) hpc' (by8_one _) (by omega)) ?_
  rintro _ _ ⟨b, rfl, rfl⟩
  refine KO.permS (σ' := (bf, cl [.string sRes, .slice none 0 0, .pointer (some ⟨br, 0, none⟩), .func (.func (Md.take l').fn) #[.pointer (some ⟨bf, 0, none⟩)] #[], ev] 80) :: ((b4, cl [.int .i64 r.st, .int .i64 r.op, .int .u64 (r.tok : Int), .int .i64 r.unit, .int .i64 r.ax, .int .i64 r.ay, .int .i64 r.new, .int .i64 r.expl, .int .i64 r.ver, .bool r.hit, .int .u64 (r.cost : Int), .int .i64 r.settled, .int .i64 r.left, (.slice pm nm cm), .int .i64 r.units, .int .i64 r.cache, .int .i64 r.sess] 44) :: ((b2, cl [.int .i64 0, .int .i64 0, .int .u64 0, .int .i64 0, .int .i64 0, .int .i64 0, .int .i64 0, .int .i64 0, .int .i64 0, .bool false, .int .u64 0, .int .i64 0, .int .i64 0, .slice none 0 0, .int .i64 0, .int .i64 0, .int .i64 0] 44) :: ((br, cl [.slice p' l'.length c'] 126) :: (ε ++ (ψ ++ μ)))))) (φ := [(b, cl (by8 l') 5)]) (by classical exact List.perm_iff_count.2 (fun _ => by first | (simp only [List.count_append, List.count_cons, List.count_nil, List.append_assoc, List.cons_append, List.nil_append]; done) | (simp only [List.count_append, List.count_cons, List.count_nil, List.append_assoc, List.cons_append, List.nil_append]; omega))) ?_
  repeat' (first | refine KW.seq ?_ | refine KW.region ?_ | refine KO.nil ?_ | refine At.then_normal ?_ | refine KW.skip ?_ | refine KW.ret ?_ | refine At.then_ret ?_ | refine KW.block ?_ | refine KW.exit ?_ | refine At.block_normal ?_ | refine At.block_ret ?_ | refine At.loop_ret ?_ | refine At.then_exit ?_ | refine At.block_here rfl ?_ | refine At.block_there rfl ?_ | refine At.loop_exit ?_ | refine At.cut_ret ?_ | refine At.cutA_ret ?_ | refine At.cutA_exit ?_ | refine At.cut_exit ?_ | (refine At.cut_same ?_; repeat' (first | exact FLe.nil _ | refine FLe.cons rfl rfl ?_)) | refine KW.cond_t rfl (by first | with_reducible rfl | decide) ?_ | refine KW.cond_f rfl (by first | with_reducible rfl | decide) ?_ | refine KW.scope ?_ | refine KW.label ?_ | refine At.scope_normal ?_ | refine At.scope_ret ?_ | refine At.scope_exit ?_ | refine KW.drawM (id := 7) [0, 1, 1, 3] [] (by decide +kernel) rfl rfl rfl ?_ | refine KDH.mid2 ?_ | refine KDH.mid3 ?_ | refine KDH.done ?_ | refine KDM.head0 ?_ | refine KDM.head1 ?_ | refine KDM.fin ?_ | refine KDH.skip0' rfl (by first | with_reducible rfl | decide) rfl rfl ?_ | refine KDH.skip1' rfl (by first | with_reducible rfl | decide) rfl rfl ?_ | (refine KDM.eo30 rfl rfl (eo_store (i := _) rfl rfl rfl rfl rfl rfl rfl ?sg ?sw ?so ?ss) ?_; (case sg => first | exact (rfl : getI 0 _ = _) | exact (rfl : getI 1 _ = _) | exact (rfl : getI 2 _ = _) | exact (rfl : getI 3 _ = _) | exact (rfl : getI 4 _ = _) | exact (rfl : getI 5 _ = _) | exact (rfl : getI 6 _ = _) | exact (rfl : getI 7 _ = _)); (case sw => rfl); (case so => rfl); (case ss => rfl); rintro _ _ rfl; refine ⟨?sub, ?_⟩; (case sub => (intro _ hp; first | exact hp | (cases hp; done) | (repeat (first | exact hp | apply List.mem_cons_of_mem | apply List.mem_append_right)) | (simp_all; done)))) | refine KW.draw 0 (by decide +kernel) ?_ | refine KW.drawU rfl (by decide +kernel) ?_ | refine KD.zero ?_ | ((first | apply KO.val rfl rfl rfl ?kq ?_ | apply KD.val rfl rfl rfl ?kq ?_ | apply KDH.val0 rfl rfl rfl ?kq ?_ | apply KDH.val1 rfl rfl rfl ?kq ?_ | apply KDH.valIn0 rfl rfl rfl ?kq ?_ | apply KDH.valIn1 rfl rfl rfl ?kq ?_ | apply KDM.q2f rfl rfl rfl ?kq ?ksub ?_ | apply KDM.q2t rfl rfl rfl ?kq ?ksub ?_); (try (case ksub => (intro _ hp; first | exact hp | (cases hp; done) | (repeat (first | exact hp | apply List.mem_cons_of_mem | apply List.mem_append_right)) | (simp_all; done)))); (case kq => ((first | apply qt_ev rfl ?hi | ((first | apply qt_load1 rfl rfl ?hi rfl rfl ?hm ?hc | apply qt_loadN rfl rfl ?hi rfl rfl rfl ?hm ?hc); (case hm => repeat (first | exact List.Mem.head _ | apply List.Mem.tail _ | apply List.mem_append_right _)); (case hc => rfl)) | apply qt_cap rfl rfl ?hi rfl | apply qt_build rfl rfl ?hi rfl | apply qt_eqs rfl rfl rfl ?hi rfl (Or.inl rfl) | apply qt_nes rfl rfl rfl ?hi rfl (Or.inl rfl) | apply qt_eqs rfl rfl rfl ?hi rfl (Or.inr ⟨rfl, rfl, rfl⟩) | apply qt_nes rfl rfl rfl ?hi rfl (Or.inr ⟨rfl, rfl, rfl⟩)); (case hi => (intro h; (repeat' (first | with_reducible exact alln | with_reducible refine allc ?_ ?_ | with_reducible refine andi ?_ ?_)); all_goals (first | with_reducible rfl | with_reducible exact h | with_reducible exact andl h | with_reducible exact andr h | with_reducible exact andl (andl h) | (simp only [h, Bool.and_self]; done) | (simp [h]; done) | (simp_all; done))))))) | (refine KO.alloc rfl rfl rfl rfl rfl rfl ?_; intro _ _) | (apply KO.store (i := _) rfl rfl rfl rfl rfl rfl rfl rfl ?hl ?sg ?hw ?ho ?hs; (case sg => first | exact (rfl : getI 0 _ = _) | exact (rfl : getI 1 _ = _) | exact (rfl : getI 2 _ = _) | exact (rfl : getI 3 _ = _) | exact (rfl : getI 4 _ = _) | exact (rfl : getI 5 _ = _) | exact (rfl : getI 6 _ = _) | exact (rfl : getI 7 _ = _)); (case hl => rfl); (case hw => rfl); (case ho => rfl); (case hs => rfl)) | (refine KW.cond rfl ?_ ?_ <;> (intro hc; try simp only [kBool] at hc)) | exact absurd trivial ‹¬True› | fail)
  refine KO.callF ((bf, cl [.string sRes, .slice none 0 0, .pointer (some ⟨br, 0, none⟩), .func (.func (Md.take l').fn) #[.pointer (some ⟨bf, 0, none⟩)] #[], ev] 80) :: (ε ++ ((br, cl [.slice p' l'.length c'] 126) :: ψ))) ((b4, cl [.int .i64 r.st, .int .i64 r.op, .int .u64 (r.tok : Int), .int .i64 r.unit, .int .i64 r.ax, .int .i64 r.ay, .int .i64 r.new, .int .i64 r.expl, .int .i64 r.ver, .bool r.hit, .int .u64 (r.cost : Int), .int .i64 r.settled, .int .i64 r.left, (.slice pm nm cm), .int .i64 r.units, .int .i64 r.cache, .int .i64 r.sess] 44) :: ((b2, cl [.int .i64 0, .int .i64 0, .int .u64 0, .int .i64 0, .int .i64 0, .int .i64 0, .int .i64 0, .int .i64 0, .int .i64 0, .bool false, .int .u64 0, .int .i64 0, .int .i64 0, .slice none 0 0, .int .i64 0, .int .i64 0, .int .i64 0] 44) :: μ)) (by classical exact List.perm_iff_count.2 (fun _ => by first | (simp only [List.count_append, List.count_cons, List.count_nil, List.append_assoc, List.cons_append, List.nil_append]; done) | (simp only [List.count_append, List.count_cons, List.count_nil, List.append_assoc, List.cons_append, List.nil_append]; omega))) rfl rfl rfl rfl rfl rfl rfl (endP_p _ bf l'.length (.take l') y _ ⟨_, _, _, ev, _, ε, hF2, hE, rfl⟩ ?hb) ?_
  case hb => simp
  rintro _ _ ⟨wv, rv, dv, ev', φ', ε', hF3, hE3, rfl, rfl⟩
  rw [← hpf] at hE3
  rcases hX : parF l with _ | z
  · rw [hX] at hE3
    obtain ⟨rfl, rfl⟩ := hE3
    refine KO.permS (σ' := (b4, cl [.int .i64 r.st, .int .i64 r.op, .int .u64 (r.tok : Int), .int .i64 r.unit, .int .i64 r.ax, .int .i64 r.ay, .int .i64 r.new, .int .i64 r.expl, .int .i64 r.ver, .bool r.hit, .int .u64 (r.cost : Int), .int .i64 r.settled, .int .i64 r.left, (.slice pm nm cm), .int .i64 r.units, .int .i64 r.cache, .int .i64 r.sess] 44) :: ((b2, cl [.int .i64 0, .int .i64 0, .int .u64 0, .int .i64 0, .int .i64 0, .int .i64 0, .int .i64 0, .int .i64 0, .int .i64 0, .bool false, .int .u64 0, .int .i64 0, .int .i64 0, .slice none 0 0, .int .i64 0, .int .i64 0, .int .i64 0] 44) :: μ)) (φ := (bf, cl [.string sRes, wv, rv, dv, .nilIface] 80) :: φ') (by classical exact List.perm_iff_count.2 (fun _ => by first | (simp only [List.count_append, List.count_cons, List.count_nil, List.append_assoc, List.cons_append, List.nil_append]; done) | (simp only [List.count_append, List.count_cons, List.count_nil, List.append_assoc, List.cons_append, List.nil_append]; omega))) ?_
    repeat' (first | refine KW.seq ?_ | refine KW.region ?_ | refine KO.nil ?_ | refine At.then_normal ?_ | refine KW.skip ?_ | refine KW.ret ?_ | refine At.then_ret ?_ | refine KW.block ?_ | refine KW.exit ?_ | refine At.block_normal ?_ | refine At.block_ret ?_ | refine At.loop_ret ?_ | refine At.then_exit ?_ | refine At.block_here rfl ?_ | refine At.block_there rfl ?_ | refine At.loop_exit ?_ | refine At.cut_ret ?_ | refine At.cutA_ret ?_ | refine At.cutA_exit ?_ | refine At.cut_exit ?_ | (refine At.cut_same ?_; repeat' (first | exact FLe.nil _ | refine FLe.cons rfl rfl ?_)) | refine KW.cond_t rfl (by first | with_reducible rfl | decide) ?_ | refine KW.cond_f rfl (by first | with_reducible rfl | decide) ?_ | refine KW.scope ?_ | refine KW.label ?_ | refine At.scope_normal ?_ | refine At.scope_ret ?_ | refine At.scope_exit ?_ | refine KW.drawM (id := 7) [0, 1, 1, 3] [] (by decide +kernel) rfl rfl rfl ?_ | refine KDH.mid2 ?_ | refine KDH.mid3 ?_ | refine KDH.done ?_ | refine KDM.head0 ?_ | refine KDM.head1 ?_ | refine KDM.fin ?_ | refine KDH.skip0' rfl (by first | with_reducible rfl | decide) rfl rfl ?_ | refine KDH.skip1' rfl (by first | with_reducible rfl | decide) rfl rfl ?_ | (refine KDM.eo30 rfl rfl (eo_store (i := _) rfl rfl rfl rfl rfl rfl rfl ?sg ?sw ?so ?ss) ?_; (case sg => first | exact (rfl : getI 0 _ = _) | exact (rfl : getI 1 _ = _) | exact (rfl : getI 2 _ = _) | exact (rfl : getI 3 _ = _) | exact (rfl : getI 4 _ = _) | exact (rfl : getI 5 _ = _) | exact (rfl : getI 6 _ = _) | exact (rfl : getI 7 _ = _)); (case sw => rfl); (case so => rfl); (case ss => rfl); rintro _ _ rfl; refine ⟨?sub, ?_⟩; (case sub => (intro _ hp; first | exact hp | (cases hp; done) | (repeat (first | exact hp | apply List.mem_cons_of_mem | apply List.mem_append_right)) | (simp_all; done)))) | refine KW.draw 0 (by decide +kernel) ?_ | refine KW.drawU rfl (by decide +kernel) ?_ | refine KD.zero ?_ | ((first | apply KO.val rfl rfl rfl ?kq ?_ | apply KD.val rfl rfl rfl ?kq ?_ | apply KDH.val0 rfl rfl rfl ?kq ?_ | apply KDH.val1 rfl rfl rfl ?kq ?_ | apply KDH.valIn0 rfl rfl rfl ?kq ?_ | apply KDH.valIn1 rfl rfl rfl ?kq ?_ | apply KDM.q2f rfl rfl rfl ?kq ?ksub ?_ | apply KDM.q2t rfl rfl rfl ?kq ?ksub ?_); (try (case ksub => (intro _ hp; first | exact hp | (cases hp; done) | (repeat (first | exact hp | apply List.mem_cons_of_mem | apply List.mem_append_right)) | (simp_all; done)))); (case kq => ((first | apply qt_ev rfl ?hi | ((first | apply qt_load1 rfl rfl ?hi rfl rfl ?hm ?hc | apply qt_loadN rfl rfl ?hi rfl rfl rfl ?hm ?hc); (case hm => repeat (first | exact List.Mem.head _ | apply List.Mem.tail _ | apply List.mem_append_right _)); (case hc => rfl)) | refine qt_callQ rfl rfl ?hi (fun hg => AsNil_p _ _ _) | apply qt_cap rfl rfl ?hi rfl | apply qt_build rfl rfl ?hi rfl | apply qt_eqs rfl rfl rfl ?hi rfl (Or.inl rfl) | apply qt_nes rfl rfl rfl ?hi rfl (Or.inl rfl) | apply qt_eqs rfl rfl rfl ?hi rfl (Or.inr ⟨rfl, rfl, rfl⟩) | apply qt_nes rfl rfl rfl ?hi rfl (Or.inr ⟨rfl, rfl, rfl⟩)); (case hi => (intro h; (repeat' (first | with_reducible exact alln | with_reducible refine allc ?_ ?_ | with_reducible refine andi ?_ ?_)); all_goals (first | with_reducible rfl | with_reducible exact h | with_reducible exact andl h | with_reducible exact andr h | with_reducible exact andl (andl h) | (simp only [h, Bool.and_self]; done) | (simp [h]; done) | (simp_all; done))))))) | (refine KO.alloc rfl rfl rfl rfl rfl rfl ?_; intro _ _) | (apply KO.store (i := _) rfl rfl rfl rfl rfl rfl rfl rfl ?hl ?sg ?hw ?ho ?hs; (case sg => first | exact (rfl : getI 0 _ = _) | exact (rfl : getI 1 _ = _) | exact (rfl : getI 2 _ = _) | exact (rfl : getI 3 _ = _) | exact (rfl : getI 4 _ = _) | exact (rfl : getI 5 _ = _) | exact (rfl : getI 6 _ = _) | exact (rfl : getI 7 _ = _)); (case hl => rfl); (case hw => rfl); (case ho => rfl); (case hs => rfl)) | (refine KW.cond rfl ?_ ?_ <;> (intro hc; try simp only [kBool] at hc)) | exact absurd trivial ‹¬True› | fail)
    ((first | apply At.done_ret | apply At.done_normal); (focus (repeat' (first | exact ResVs.nil' | apply ResVs.cons' | exact ResV.tmp' rfl | (apply ResV.cell1 rfl ?hm rfl rfl ?hc; (case hm => repeat (first | exact List.Mem.head _ | apply List.Mem.tail _ | apply List.mem_append_right _)); (case hc => rfl)) | (apply ResV.cellN rfl ?hm rfl rfl rfl ?hc; (case hm => repeat (first | exact List.Mem.head _ | apply List.Mem.tail _ | apply List.mem_append_right _)); (case hc => rfl))))); dsimp only [resVal])
    refine ⟨μ, List.Sublist.cons _ (List.Sublist.cons _ (List.Sublist.cons _ (List.Sublist.refl _))), ?_⟩
    rw [hPR, hX]
    exact ⟨_, hmv, rfl⟩
  · rw [hX] at hE3
    obtain ⟨e1, e2, rfl, rfl⟩ := hE3
    refine KO.permS (σ' := (b4, cl [.int .i64 r.st, .int .i64 r.op, .int .u64 (r.tok : Int), .int .i64 r.unit, .int .i64 r.ax, .int .i64 r.ay, .int .i64 r.new, .int .i64 r.expl, .int .i64 r.ver, .bool r.hit, .int .u64 (r.cost : Int), .int .i64 r.settled, .int .i64 r.left, (.slice pm nm cm), .int .i64 r.units, .int .i64 r.cache, .int .i64 r.sess] 44) :: ((b2, cl [.int .i64 0, .int .i64 0, .int .u64 0, .int .i64 0, .int .i64 0, .int .i64 0, .int .i64 0, .int .i64 0, .int .i64 0, .bool false, .int .u64 0, .int .i64 0, .int .i64 0, .slice none 0 0, .int .i64 0, .int .i64 0, .int .i64 0] 44) :: [(e1, cl [.string sRes, .iface 100 (.pointer (some ⟨e2, 0, none⟩))] 108), (e2, cl [.string z.1, .iface 32 (.int .i64 z.2)] 108)])) (φ := (bf, cl [.string sRes, wv, rv, dv, .iface 100 (.pointer (some ⟨e1, 0, none⟩))] 80) :: (φ' ++ μ)) (by classical exact List.perm_iff_count.2 (fun _ => by first | (simp only [List.count_append, List.count_cons, List.count_nil, List.append_assoc, List.cons_append, List.nil_append]; done) | (simp only [List.count_append, List.count_cons, List.count_nil, List.append_assoc, List.cons_append, List.nil_append]; omega))) ?_
    repeat' (first | refine KW.seq ?_ | refine KW.region ?_ | refine KO.nil ?_ | refine At.then_normal ?_ | refine KW.skip ?_ | refine KW.ret ?_ | refine At.then_ret ?_ | refine KW.block ?_ | refine KW.exit ?_ | refine At.block_normal ?_ | refine At.block_ret ?_ | refine At.loop_ret ?_ | refine At.then_exit ?_ | refine At.block_here rfl ?_ | refine At.block_there rfl ?_ | refine At.loop_exit ?_ | refine At.cut_ret ?_ | refine At.cutA_ret ?_ | refine At.cutA_exit ?_ | refine At.cut_exit ?_ | (refine At.cut_same ?_; repeat' (first | exact FLe.nil _ | refine FLe.cons rfl rfl ?_)) | refine KW.cond_t rfl (by first | with_reducible rfl | decide) ?_ | refine KW.cond_f rfl (by first | with_reducible rfl | decide) ?_ | refine KW.scope ?_ | refine KW.label ?_ | refine At.scope_normal ?_ | refine At.scope_ret ?_ | refine At.scope_exit ?_ | refine KW.drawM (id := 7) [0, 1, 1, 3] [] (by decide +kernel) rfl rfl rfl ?_ | refine KDH.mid2 ?_ | refine KDH.mid3 ?_ | refine KDH.done ?_ | refine KDM.head0 ?_ | refine KDM.head1 ?_ | refine KDM.fin ?_ | refine KDH.skip0' rfl (by first | with_reducible rfl | decide) rfl rfl ?_ | refine KDH.skip1' rfl (by first | with_reducible rfl | decide) rfl rfl ?_ | (refine KDM.eo30 rfl rfl (eo_store (i := _) rfl rfl rfl rfl rfl rfl rfl ?sg ?sw ?so ?ss) ?_; (case sg => first | exact (rfl : getI 0 _ = _) | exact (rfl : getI 1 _ = _) | exact (rfl : getI 2 _ = _) | exact (rfl : getI 3 _ = _) | exact (rfl : getI 4 _ = _) | exact (rfl : getI 5 _ = _) | exact (rfl : getI 6 _ = _) | exact (rfl : getI 7 _ = _)); (case sw => rfl); (case so => rfl); (case ss => rfl); rintro _ _ rfl; refine ⟨?sub, ?_⟩; (case sub => (intro _ hp; first | exact hp | (cases hp; done) | (repeat (first | exact hp | apply List.mem_cons_of_mem | apply List.mem_append_right)) | (simp_all; done)))) | refine KW.draw 0 (by decide +kernel) ?_ | refine KW.drawU rfl (by decide +kernel) ?_ | refine KD.zero ?_ | ((first | apply KO.val rfl rfl rfl ?kq ?_ | apply KD.val rfl rfl rfl ?kq ?_ | apply KDH.val0 rfl rfl rfl ?kq ?_ | apply KDH.val1 rfl rfl rfl ?kq ?_ | apply KDH.valIn0 rfl rfl rfl ?kq ?_ | apply KDH.valIn1 rfl rfl rfl ?kq ?_ | apply KDM.q2f rfl rfl rfl ?kq ?ksub ?_ | apply KDM.q2t rfl rfl rfl ?kq ?ksub ?_); (try (case ksub => (intro _ hp; first | exact hp | (cases hp; done) | (repeat (first | exact hp | apply List.mem_cons_of_mem | apply List.mem_append_right)) | (simp_all; done)))); (case kq => ((first | apply qt_ev rfl ?hi | ((first | apply qt_load1 rfl rfl ?hi rfl rfl ?hm ?hc | apply qt_loadN rfl rfl ?hi rfl rfl rfl ?hm ?hc); (case hm => repeat (first | exact List.Mem.head _ | apply List.Mem.tail _ | apply List.mem_append_right _)); (case hc => rfl)) | apply qt_cap rfl rfl ?hi rfl | apply qt_build rfl rfl ?hi rfl | apply qt_eqs rfl rfl rfl ?hi rfl (Or.inl rfl) | apply qt_nes rfl rfl rfl ?hi rfl (Or.inl rfl) | apply qt_eqs rfl rfl rfl ?hi rfl (Or.inr ⟨rfl, rfl, rfl⟩) | apply qt_nes rfl rfl rfl ?hi rfl (Or.inr ⟨rfl, rfl, rfl⟩)); (case hi => (intro h; (repeat' (first | with_reducible exact alln | with_reducible refine allc ?_ ?_ | with_reducible refine andi ?_ ?_)); all_goals (first | with_reducible rfl | with_reducible exact h | with_reducible exact andl h | with_reducible exact andr h | with_reducible exact andl (andl h) | (simp only [h, Bool.and_self]; done) | (simp [h]; done) | (simp_all; done))))))) | (refine KO.alloc rfl rfl rfl rfl rfl rfl ?_; intro _ _) | (apply KO.store (i := _) rfl rfl rfl rfl rfl rfl rfl rfl ?hl ?sg ?hw ?ho ?hs; (case sg => first | exact (rfl : getI 0 _ = _) | exact (rfl : getI 1 _ = _) | exact (rfl : getI 2 _ = _) | exact (rfl : getI 3 _ = _) | exact (rfl : getI 4 _ = _) | exact (rfl : getI 5 _ = _) | exact (rfl : getI 6 _ = _) | exact (rfl : getI 7 _ = _)); (case hl => rfl); (case hw => rfl); (case ho => rfl); (case hs => rfl)) | (refine KW.cond rfl ?_ ?_ <;> (intro hc; try simp only [kBool] at hc)) | exact absurd trivial ‹¬True› | fail)
    rename_i b7 _
    refine KO.callB [(b7, cl [.pointer none] 100)] ((b4, cl [.int .i64 r.st, .int .i64 r.op, .int .u64 (r.tok : Int), .int .i64 r.unit, .int .i64 r.ax, .int .i64 r.ay, .int .i64 r.new, .int .i64 r.expl, .int .i64 r.ver, .bool r.hit, .int .u64 (r.cost : Int), .int .i64 r.settled, .int .i64 r.left, (.slice pm nm cm), .int .i64 r.units, .int .i64 r.cache, .int .i64 r.sess] 44) :: ((b2, cl [.int .i64 0, .int .i64 0, .int .u64 0, .int .i64 0, .int .i64 0, .int .i64 0, .int .i64 0, .int .i64 0, .int .i64 0, .bool false, .int .u64 0, .int .i64 0, .int .i64 0, .slice none 0 0, .int .i64 0, .int .i64 0, .int .i64 0] 44) :: [(e1, cl [.string sRes, .iface 100 (.pointer (some ⟨e2, 0, none⟩))] 108), (e2, cl [.string z.1, .iface 32 (.int .i64 z.2)] 108)])) (by classical exact List.perm_iff_count.2 (fun _ => by first | (simp only [List.count_append, List.count_cons, List.count_nil, List.append_assoc, List.cons_append, List.nil_append]; done) | (simp only [List.count_append, List.count_cons, List.count_nil, List.append_assoc, List.cons_append, List.nil_append]; omega))) rfl rfl rfl rfl rfl rfl rfl (fun β' g1 g2 => AsF_p β' (TBE.up g1 ht) b7 e1) ?_
    rintro _ _ ⟨rfl, rfl⟩
    repeat' (first | refine KW.seq ?_ | refine KW.region ?_ | refine KO.nil ?_ | refine At.then_normal ?_ | refine KW.skip ?_ | refine KW.ret ?_ | refine At.then_ret ?_ | refine KW.block ?_ | refine KW.exit ?_ | refine At.block_normal ?_ | refine At.block_ret ?_ | refine At.loop_ret ?_ | refine At.then_exit ?_ | refine At.block_here rfl ?_ | refine At.block_there rfl ?_ | refine At.loop_exit ?_ | refine At.cut_ret ?_ | refine At.cutA_ret ?_ | refine At.cutA_exit ?_ | refine At.cut_exit ?_ | (refine At.cut_same ?_; repeat' (first | exact FLe.nil _ | refine FLe.cons rfl rfl ?_)) | refine KW.cond_t rfl (by first | with_reducible rfl | decide) ?_ | refine KW.cond_f rfl (by first | with_reducible rfl | decide) ?_ | refine KW.scope ?_ | refine KW.label ?_ | refine At.scope_normal ?_ | refine At.scope_ret ?_ | refine At.scope_exit ?_ | refine KW.drawM (id := 7) [0, 1, 1, 3] [0] (by decide +kernel) rfl rfl rfl ?_ | refine KDH.mid2 ?_ | refine KDH.mid3 ?_ | refine KDH.done ?_ | refine KDM.head0 ?_ | refine KDM.head1 ?_ | refine KDM.fin ?_ | refine KDH.skip0' rfl (by first | with_reducible rfl | decide) rfl rfl ?_ | refine KDH.skip1' rfl (by first | with_reducible rfl | decide) rfl rfl ?_ | (refine KDM.eo30 rfl rfl (eo_store (i := _) rfl rfl rfl rfl rfl rfl rfl ?sg ?sw ?so ?ss) ?_; (case sg => first | exact (rfl : getI 0 _ = _) | exact (rfl : getI 1 _ = _) | exact (rfl : getI 2 _ = _) | exact (rfl : getI 3 _ = _) | exact (rfl : getI 4 _ = _) | exact (rfl : getI 5 _ = _) | exact (rfl : getI 6 _ = _) | exact (rfl : getI 7 _ = _)); (case sw => rfl); (case so => rfl); (case ss => rfl); rintro _ _ rfl; refine ⟨?sub, ?_⟩; (case sub => (intro _ hp; first | exact hp | (cases hp; done) | (repeat (first | exact hp | apply List.mem_cons_of_mem | apply List.mem_append_right)) | (simp_all; done)))) | refine KW.draw 0 (by decide +kernel) ?_ | refine KW.drawU rfl (by decide +kernel) ?_ | refine KD.zero ?_ | ((first | apply KO.val rfl rfl rfl ?kq ?_ | apply KD.val rfl rfl rfl ?kq ?_ | apply KDH.val0 rfl rfl rfl ?kq ?_ | apply KDH.val1 rfl rfl rfl ?kq ?_ | apply KDH.valIn0 rfl rfl rfl ?kq ?_ | apply KDH.valIn1 rfl rfl rfl ?kq ?_ | apply KDM.q2f rfl rfl rfl ?kq ?ksub ?_ | apply KDM.q2t rfl rfl rfl ?kq ?ksub ?_); (try (case ksub => (intro _ hp; first | exact hp | (cases hp; done) | (repeat (first | exact hp | apply List.mem_cons_of_mem | apply List.mem_append_right)) | (simp_all; done)))); (case kq => ((first | apply qt_ev rfl ?hi | ((first | apply qt_load1 rfl rfl ?hi rfl rfl ?hm ?hc | apply qt_loadN rfl rfl ?hi rfl rfl rfl ?hm ?hc); (case hm => repeat (first | exact List.Mem.head _ | apply List.Mem.tail _ | apply List.mem_append_right _)); (case hc => rfl)) | apply qt_cap rfl rfl ?hi rfl | apply qt_build rfl rfl ?hi rfl | apply qt_eqs rfl rfl rfl ?hi rfl (Or.inl rfl) | apply qt_nes rfl rfl rfl ?hi rfl (Or.inl rfl) | apply qt_eqs rfl rfl rfl ?hi rfl (Or.inr ⟨rfl, rfl, rfl⟩) | apply qt_nes rfl rfl rfl ?hi rfl (Or.inr ⟨rfl, rfl, rfl⟩)); (case hi => (intro h; (repeat' (first | with_reducible exact alln | with_reducible refine allc ?_ ?_ | with_reducible refine andi ?_ ?_)); all_goals (first | with_reducible rfl | with_reducible exact h | with_reducible exact andl h | with_reducible exact andr h | with_reducible exact andl (andl h) | (simp only [h, Bool.and_self]; done) | (simp [h]; done) | (simp_all; done))))))) | (refine KO.alloc rfl rfl rfl rfl rfl rfl ?_; intro _ _) | (apply KO.store (i := _) rfl rfl rfl rfl rfl rfl rfl rfl ?hl ?sg ?hw ?ho ?hs; (case sg => first | exact (rfl : getI 0 _ = _) | exact (rfl : getI 1 _ = _) | exact (rfl : getI 2 _ = _) | exact (rfl : getI 3 _ = _) | exact (rfl : getI 4 _ = _) | exact (rfl : getI 5 _ = _) | exact (rfl : getI 6 _ = _) | exact (rfl : getI 7 _ = _)); (case hl => rfl); (case hw => rfl); (case ho => rfl); (case hs => rfl)) | (refine KW.cond rfl ?_ ?_ <;> (intro hc; try simp only [kBool] at hc)) | exact absurd trivial ‹¬True› | fail)
    refine KDM.eo30 rfl rfl (eo_store (i := 2) rfl rfl rfl rfl rfl rfl rfl rfl rfl rfl rfl) ?_
    rintro _ _ rfl
    refine ⟨fun q hq => (by simp only [List.mem_singleton] at hq; rw [hq]; exact List.Mem.head _), ?_⟩
    repeat' (first | refine KW.seq ?_ | refine KW.region ?_ | refine KO.nil ?_ | refine At.then_normal ?_ | refine KW.skip ?_ | refine KW.ret ?_ | refine At.then_ret ?_ | refine KW.block ?_ | refine KW.exit ?_ | refine At.block_normal ?_ | refine At.block_ret ?_ | refine At.loop_ret ?_ | refine At.then_exit ?_ | refine At.block_here rfl ?_ | refine At.block_there rfl ?_ | refine At.loop_exit ?_ | refine At.cut_ret ?_ | refine At.cutA_ret ?_ | refine At.cutA_exit ?_ | refine At.cut_exit ?_ | (refine At.cut_same ?_; repeat' (first | exact FLe.nil _ | refine FLe.cons rfl rfl ?_)) | refine KW.cond_t rfl (by first | with_reducible rfl | decide) ?_ | refine KW.cond_f rfl (by first | with_reducible rfl | decide) ?_ | refine KW.scope ?_ | refine KW.label ?_ | refine At.scope_normal ?_ | refine At.scope_ret ?_ | refine At.scope_exit ?_ | refine KW.drawM (id := 7) [0, 1, 1, 3] [0] (by decide +kernel) rfl rfl rfl ?_ | refine KDH.mid2 ?_ | refine KDH.mid3 ?_ | refine KDH.done ?_ | refine KDM.head0 ?_ | refine KDM.head1 ?_ | refine KDM.fin ?_ | refine KDH.skip0' rfl (by first | with_reducible rfl | decide) rfl rfl ?_ | refine KDH.skip1' rfl (by first | with_reducible rfl | decide) rfl rfl ?_ | (refine KDM.eo30 rfl rfl (eo_store (i := _) rfl rfl rfl rfl rfl rfl rfl ?sg ?sw ?so ?ss) ?_; (case sg => first | exact (rfl : getI 0 _ = _) | exact (rfl : getI 1 _ = _) | exact (rfl : getI 2 _ = _) | exact (rfl : getI 3 _ = _) | exact (rfl : getI 4 _ = _) | exact (rfl : getI 5 _ = _) | exact (rfl : getI 6 _ = _) | exact (rfl : getI 7 _ = _)); (case sw => rfl); (case so => rfl); (case ss => rfl); rintro _ _ rfl; refine ⟨?sub, ?_⟩; (case sub => (intro _ hp; first | exact hp | (cases hp; done) | (repeat (first | exact hp | apply List.mem_cons_of_mem | apply List.mem_append_right)) | (simp_all; done)))) | refine KW.draw 0 (by decide +kernel) ?_ | refine KW.drawU rfl (by decide +kernel) ?_ | refine KD.zero ?_ | ((first | apply KO.val rfl rfl rfl ?kq ?_ | apply KD.val rfl rfl rfl ?kq ?_ | apply KDH.val0 rfl rfl rfl ?kq ?_ | apply KDH.val1 rfl rfl rfl ?kq ?_ | apply KDH.valIn0 rfl rfl rfl ?kq ?_ | apply KDH.valIn1 rfl rfl rfl ?kq ?_ | apply KDM.q2f rfl rfl rfl ?kq ?ksub ?_ | apply KDM.q2t rfl rfl rfl ?kq ?ksub ?_); (try (case ksub => (intro _ hp; first | exact hp | (cases hp; done) | (repeat (first | exact hp | apply List.mem_cons_of_mem | apply List.mem_append_right)) | (simp_all; done)))); (case kq => ((first | apply qt_ev rfl ?hi | ((first | apply qt_load1 rfl rfl ?hi rfl rfl ?hm ?hc | apply qt_loadN rfl rfl ?hi rfl rfl rfl ?hm ?hc); (case hm => repeat (first | exact List.Mem.head _ | apply List.Mem.tail _ | apply List.mem_append_right _)); (case hc => rfl)) | apply qt_cap rfl rfl ?hi rfl | apply qt_build rfl rfl ?hi rfl | apply qt_eqs rfl rfl rfl ?hi rfl (Or.inl rfl) | apply qt_nes rfl rfl rfl ?hi rfl (Or.inl rfl) | apply qt_eqs rfl rfl rfl ?hi rfl (Or.inr ⟨rfl, rfl, rfl⟩) | apply qt_nes rfl rfl rfl ?hi rfl (Or.inr ⟨rfl, rfl, rfl⟩)); (case hi => (intro h; (repeat' (first | with_reducible exact alln | with_reducible refine allc ?_ ?_ | with_reducible refine andi ?_ ?_)); all_goals (first | with_reducible rfl | with_reducible exact h | with_reducible exact andl h | with_reducible exact andr h | with_reducible exact andl (andl h) | (simp only [h, Bool.and_self]; done) | (simp [h]; done) | (simp_all; done))))))) | (refine KO.alloc rfl rfl rfl rfl rfl rfl ?_; intro _ _) | (apply KO.store (i := _) rfl rfl rfl rfl rfl rfl rfl rfl ?hl ?sg ?hw ?ho ?hs; (case sg => first | exact (rfl : getI 0 _ = _) | exact (rfl : getI 1 _ = _) | exact (rfl : getI 2 _ = _) | exact (rfl : getI 3 _ = _) | exact (rfl : getI 4 _ = _) | exact (rfl : getI 5 _ = _) | exact (rfl : getI 6 _ = _) | exact (rfl : getI 7 _ = _)); (case hl => rfl); (case hw => rfl); (case ho => rfl); (case hs => rfl)) | (refine KW.cond rfl ?_ ?_ <;> (intro hc; try simp only [kBool] at hc)) | exact absurd trivial ‹¬True› | fail)
    ((first | apply At.done_ret | apply At.done_normal); (focus (repeat' (first | exact ResVs.nil' | apply ResVs.cons' | exact ResV.tmp' rfl | (apply ResV.cell1 rfl ?hm rfl rfl ?hc; (case hm => repeat (first | exact List.Mem.head _ | apply List.Mem.tail _ | apply List.mem_append_right _)); (case hc => rfl)) | (apply ResV.cellN rfl ?hm rfl rfl rfl ?hc; (case hm => repeat (first | exact List.Mem.head _ | apply List.Mem.tail _ | apply List.mem_append_right _)); (case hc => rfl))))); dsimp only [resVal])
    refine ⟨[(e1, cl [.string sRes, .iface 100 (.pointer (some ⟨e2, 0, none⟩))] 108), (e2, cl [.string z.1, .iface 32 (.int .i64 z.2)] 108)], List.Sublist.cons _ (List.Sublist.cons _ (List.Sublist.cons _ (List.Sublist.refl _))), ?_⟩
    rw [hPR, hX]
    exact ⟨e1, e2, rfl, rfl⟩
end Go.Proofs.YtnaclkdjchnbpaaDoor
end
section
namespace Go.Proofs.YtnaclkdjchnbpaaDoor
open Go Go.K

def finP (x : (List Nat × Flt) × Rs × List Nat) : Flt × Rs × List Nat := match (if 0 < x.1.1.length then note x.1.2 sEnd 12 else x.1.2) with
  | some y => (some y, zR, [])
  | none => (none, x.2.1, x.2.2)
def par (l : List Nat) : Flt × Rs × List Nat := finP (toldT (l, none))
theorem par_F (l : List Nat) : par l = (match parF l with
    | some y => (some y, zR, [])
    | none => (none, (toldT (l, none)).2.1, (toldT (l, none)).2.2)) := rfl
theorem finP_some (l : List Nat) (y : ByteArray × Int) (r : Rs) (ms : List Nat) : finP ((l, some y), r, ms) = (some y, zR, []) := by
  unfold finP note
  dsimp only
  split <;> simp_all
theorem finP_none (has : RowT → Bool) (l : List Nat) (r : Rs) (ms : List Nat) : refPG has [] l r ms = finP ((l, none), r, ms) := by
  unfold finP
  rw [refPG]
  dsimp only
  by_cases h : 0 < l.length
  · rw [if_pos h, if_pos h]; rfl
  · rw [if_neg h, if_neg h]
theorem refPG_filter (has : RowT → Bool) : ∀ (ws : List RowT) (l : List Nat) (r : Rs) (ms : List Nat), refPG has ws l r ms = refPG (fun _ => true) (ws.filter has) l r ms
  | [], _, _, _ => rfl
  | w :: ws, l, r, ms => by
    by_cases h : has w = true
    · rw [List.filter_cons, if_pos h, refPG, refPG, if_pos h, if_pos rfl]
      simp only [refPG_filter has ws]
    · rw [List.filter_cons, if_neg h, refPG, if_neg h]
      exact refPG_filter has ws l r ms
theorem rdN_1 (s : Nat) (l : List Nat) : rdN s 1 l = [num (l.take s)] := by
  unfold rdN
  simp
theorem rdN_2 (s : Nat) (l : List Nat) : rdN s 2 l = [num (l.take s), num ((l.drop s).take s)] := by
  unfold rdN
  simp [List.range_succ]
theorem setS_sToken (r : Rs) (n : Nat) : setS r sToken [n] = { r with tok := n } := by
  unfold setS
  rw [if_pos rfl]
  rfl
theorem setS_sUnit (r : Rs) (n : Nat) : setS r sUnit [n] = { r with unit := iI n } := by
  unfold setS
  rw [if_neg (by decide), if_pos rfl]
  rfl
theorem setS_sAt (r : Rs) (n m : Nat) : setS r sAt [n, m] = { r with ax := iI n, ay := iI m } := by
  unfold setS
  rw [if_neg (by decide), if_neg (by decide), if_pos rfl]
  rfl
theorem setS_sNew (r : Rs) (n : Nat) : setS r sNew [n] = { r with new := iI n } := by
  unfold setS
  rw [if_neg (by decide), if_neg (by decide), if_neg (by decide), if_pos rfl]
  rfl
theorem setS_sExpl (r : Rs) (n : Nat) : setS r sExpl [n] = { r with expl := iI n } := by
  unfold setS
  rw [if_neg (by decide), if_neg (by decide), if_neg (by decide), if_neg (by decide), if_pos rfl]
  rfl
theorem setS_sVer (r : Rs) (n : Nat) : setS r sVer [n] = { r with ver := iI n } := by
  unfold setS
  rw [if_neg (by decide), if_neg (by decide), if_neg (by decide), if_neg (by decide), if_neg (by decide), if_pos rfl]
  rfl
theorem setS_sHit (r : Rs) (n : Nat) : setS r sHit [n] = { r with hit := decide (n = 1) } := by
  unfold setS
  rw [if_neg (by decide), if_neg (by decide), if_neg (by decide), if_neg (by decide), if_neg (by decide), if_neg (by decide), if_pos rfl]
  rfl
theorem setS_sCost (r : Rs) (n : Nat) : setS r sCost [n] = { r with cost := n } := by
  unfold setS
  rw [if_neg (by decide), if_neg (by decide), if_neg (by decide), if_neg (by decide), if_neg (by decide), if_neg (by decide), if_neg (by decide), if_pos rfl]
  rfl
theorem setS_sSettled (r : Rs) (n : Nat) : setS r sSettled [n] = { r with settled := iI n } := by
  unfold setS
  rw [if_neg (by decide), if_neg (by decide), if_neg (by decide), if_neg (by decide), if_neg (by decide), if_neg (by decide), if_neg (by decide), if_neg (by decide), if_pos rfl]
  rfl
theorem setS_sLeft (r : Rs) (n : Nat) : setS r sLeft [n] = { r with left := iI n } := by
  unfold setS
  rw [if_neg (by decide), if_neg (by decide), if_neg (by decide), if_neg (by decide), if_neg (by decide), if_neg (by decide), if_neg (by decide), if_neg (by decide), if_neg (by decide), if_pos rfl]
  rfl
theorem setS_sUnits (r : Rs) (n : Nat) : setS r sUnits [n] = { r with units := iI n } := by
  unfold setS
  rw [if_neg (by decide), if_neg (by decide), if_neg (by decide), if_neg (by decide), if_neg (by decide), if_neg (by decide), if_neg (by decide), if_neg (by decide), if_neg (by decide), if_neg (by decide), if_pos rfl]
  rfl
theorem setS_sCache (r : Rs) (n : Nat) : setS r sCache [n] = { r with cache := iI n } := by
  unfold setS
  rw [if_neg (by decide), if_neg (by decide), if_neg (by decide), if_neg (by decide), if_neg (by decide), if_neg (by decide), if_neg (by decide), if_neg (by decide), if_neg (by decide), if_neg (by decide), if_neg (by decide), if_pos rfl]
  rfl
theorem setS_sSess (r : Rs) (n : Nat) : setS r sSess [n] = { r with sess := iI n } := by
  unfold setS
  rw [if_neg (by decide), if_neg (by decide), if_neg (by decide), if_neg (by decide), if_neg (by decide), if_neg (by decide), if_neg (by decide), if_neg (by decide), if_neg (by decide), if_neg (by decide), if_neg (by decide), if_neg (by decide), if_pos rfl]
  rfl
theorem setS_sMoves (r : Rs) (x : List Nat) : setS r sMoves x = r := by
  unfold setS
  rw [if_neg (by decide), if_neg (by decide), if_neg (by decide), if_neg (by decide), if_neg (by decide), if_neg (by decide), if_neg (by decide), if_neg (by decide), if_neg (by decide), if_neg (by decide), if_neg (by decide), if_neg (by decide), if_neg (by decide)]
theorem one_step (w : RowT) (ws : List RowT) (l : List Nat) (r : Rs) (ms : List Nat) (T : List Nat × Flt → Nat → (List Nat × Flt) × Rs × List Nat) (hm : w.many = 1) (hh : w.name ≠ sHit) (hv : w.name ≠ sMoves)
    (hT : ∀ l' y n, finP (T (l', some y) n) = (some y, zR, []))
    (h : ∀ l' n, refPG (fun _ => true) ws l' (setS r w.name [n]) ms = finP (T (l', none) n)) :
    refPG (fun _ => true) (w :: ws) l r ms = finP (T (tkF1 (l, none) (w.name, w.size)).1 (tkF1 (l, none) (w.name, w.size)).2) := by
  rw [refPG, if_pos rfl, hm, Nat.mul_one]
  have e : tkF1 (l, none) (w.name, w.size) = (((tk1 (w.name, w.size) l).2.1, (tk1 (w.name, w.size) l).1), (tk1 (w.name, w.size) l).2.2) := rfl
  rw [e]
  unfold tk1
  dsimp only
  by_cases hl : l.length < w.size
  · rw [if_pos hl, if_neg (show ¬ w.size ≤ l.length by omega)]
    exact (hT _ _ _).symm
  · rw [if_neg hl, if_pos (show w.size ≤ l.length from Nat.le_of_not_lt hl), if_neg (fun x => hh x.1), if_neg hv, rdN_1]
    exact h _ _
theorem two_step (w : RowT) (ws : List RowT) (l : List Nat) (r : Rs) (ms : List Nat) (T : List Nat × Flt → Nat → Nat → (List Nat × Flt) × Rs × List Nat) (hm : w.many = 2) (hh : w.name ≠ sHit) (hv : w.name ≠ sMoves)
    (hT : ∀ l' y n m, finP (T (l', some y) n m) = (some y, zR, []))
    (h : ∀ l' n m, refPG (fun _ => true) ws l' (setS r w.name [n, m]) ms = finP (T (l', none) n m)) :
    refPG (fun _ => true) (w :: ws) l r ms = finP (T (tkF1 (tkF1 (l, none) (w.name, w.size)).1 (w.name, w.size)).1 (tkF1 (l, none) (w.name, w.size)).2 (tkF1 (tkF1 (l, none) (w.name, w.size)).1 (w.name, w.size)).2) := by
  rw [refPG, if_pos rfl, hm]
  have e : tkF1 (l, none) (w.name, w.size) = (((tk1 (w.name, w.size) l).2.1, (tk1 (w.name, w.size) l).1), (tk1 (w.name, w.size) l).2.2) := rfl
  rw [e]
  have e1 : tk1 (w.name, w.size) l = if w.size ≤ l.length then (none, l.drop w.size, num (l.take w.size)) else (some (w.name, 17), l, 0) := rfl
  rw [e1]
  by_cases h1 : w.size ≤ l.length
  · rw [if_pos h1]
    dsimp only
    have e2 : tkF1 (l.drop w.size, none) (w.name, w.size) = (((tk1 (w.name, w.size) (l.drop w.size)).2.1, (tk1 (w.name, w.size) (l.drop w.size)).1), (tk1 (w.name, w.size) (l.drop w.size)).2.2) := rfl
    have e3 : tk1 (w.name, w.size) (l.drop w.size) = if w.size ≤ (l.drop w.size).length then (none, (l.drop w.size).drop w.size, num ((l.drop w.size).take w.size)) else (some (w.name, 17), l.drop w.size, 0) := rfl
    rw [e2, e3]
    have hld : (l.drop w.size).length = l.length - w.size := List.length_drop
    by_cases hl : l.length < w.size * 2
    · rw [if_pos hl, if_neg (show ¬ w.size ≤ (l.drop w.size).length by omega)]
      exact (hT _ _ _ _).symm
    · rw [if_neg hl, if_pos (show w.size ≤ (l.drop w.size).length by omega), if_neg (fun x => hh x.1), if_neg hv, rdN_2]
      dsimp only
      rw [List.drop_drop, show w.size + w.size = w.size * 2 from by omega]
      exact h _ _ _
  · rw [if_neg h1, if_pos (by omega)]
    exact (hT _ _ _ _).symm
theorem hit_step (ops : List Nat) (ws : List RowT) (l : List Nat) (hB : Byt l) (r : Rs) (ms : List Nat) (T : List Nat × Flt → Bool → (List Nat × Flt) × Rs × List Nat)
    (hT : ∀ l' y n, finP (T (l', some y) n) = (some y, zR, []))
    (h : ∀ l' n, refPG (fun _ => true) ws l' (setS r sHit [n]) ms = finP (T (l', none) (decide (n = 1)))) :
    refPG (fun _ => true) (⟨sHit, 1, 1, ops⟩ :: ws) l r ms = finP (T (flgF (l, none) sHit).1 (flgF (l, none) sHit).2) := by
  rw [refPG, if_pos rfl]
  dsimp only
  have e : tkF1 (l, none) (sHit, 1) = (((tk1 (sHit, 1) l).2.1, (tk1 (sHit, 1) l).1), (tk1 (sHit, 1) l).2.2) := rfl
  have e1 : tk1 (sHit, 1) l = if 1 ≤ l.length then (none, l.drop 1, num (l.take 1)) else (some (sHit, 17), l, 0) := rfl
  unfold flgF
  rw [e, e1]
  by_cases h1 : 1 ≤ l.length
  · rw [if_pos h1, if_neg (by omega)]
    dsimp only
    have hlt : num (l.take 1) < 256 := by
      have := num_lt 1 (l.take 1) (by rw [List.length_take]; exact Nat.min_eq_left h1) (hB.take 1)
      simpa using this
    have hi : iI (num (l.take 1)) = (num (l.take 1) : Int) := by unfold iI; rw [IntKind.wrap_i64]; omega
    rw [hi, rdN_1]
    have hg : ([num (l.take 1)] : List Nat).getD 0 0 = num (l.take 1) := rfl
    rw [hg]
    obtain ⟨n, hn⟩ : ∃ n, n = num (l.take 1) := ⟨_, rfl⟩
    rw [← hn]
    by_cases h2 : 1 < n
    · rw [if_pos ⟨rfl, h2⟩, if_pos (by omega)]
      exact (hT _ _ _).symm
    · rw [if_neg (fun x => h2 x.2), if_neg (show ¬ sHit = sMoves by decide), Nat.mul_one, if_neg (show ¬ (1 : Int) < (n : Int) by omega)]
      have hd : decide ((n : Int) = 1) = decide (n = 1) := by rw [decide_eq_decide]; omega
      rw [hd]
      exact h _ _
  · rw [if_neg h1, if_pos (by omega)]
    dsimp only
    rw [if_neg (by decide)]
    exact (hT _ _ _).symm
theorem moves_step (ops : List Nat) (l : List Nat) (r : Rs) : refPG (fun _ => true) [⟨sMoves, 4, 1, ops⟩] l r [] = finP ((movT (l, none) sMoves).1, r, (movT (l, none) sMoves).2) := by
  rw [refPG, if_pos rfl]
  dsimp only
  have e : tkF1 (l, none) (sMoves, 4) = (((tk1 (sMoves, 4) l).2.1, (tk1 (sMoves, 4) l).1), (tk1 (sMoves, 4) l).2.2) := rfl
  have e1 : tk1 (sMoves, 4) l = if 4 ≤ l.length then (none, l.drop 4, num (l.take 4)) else (some (sMoves, 17), l, 0) := rfl
  unfold movT
  dsimp only
  rw [e, e1, Nat.mul_one]
  by_cases h1 : 4 ≤ l.length
  · rw [if_pos h1, if_neg (by omega), if_neg (fun x => absurd x.1 (by decide)), if_pos rfl, rdN_1]
    have hg : ([num (l.take 4)] : List Nat).getD 0 0 = num (l.take 4) := rfl
    rw [hg, setS_sMoves]
    obtain ⟨n, hn⟩ : ∃ n, n = num (l.take 4) := ⟨_, rfl⟩
    rw [← hn]
    dsimp only
    by_cases h2 : 65535 < n
    · rw [if_pos h2, if_pos h2]
      exact (finP_some _ _ _ _).symm
    rw [if_neg h2, if_neg h2]
    by_cases h3 : (l.drop 4).length < n
    · rw [if_pos h3, if_pos h3]
      exact (finP_some _ _ _ _).symm
    rw [if_neg h3, if_neg h3, List.nil_append]
    dsimp only
    by_cases h4 : ((l.drop 4).take n).all (fun m => decide (m ≤ 3)) = true
    · rw [if_pos h4, if_pos h4]
      exact finP_none _ _ _ _
    · rw [if_neg h4, if_neg h4]
      exact (finP_some _ _ _ _).symm
  · rw [if_neg h1, if_pos (by omega)]
    exact (finP_some _ _ _ _).symm
theorem filt (st op : Int) (hb : bodyR st op = true) : tolds.filter (hasP st op) = tolds.filter (hasO op) := by
  apply List.filter_congr
  intro w _
  show (bodyR st op && hasR w.ops op) = hasR w.ops op
  rw [hb]; try rfl
theorem body0 (st : Int) (l : List Nat) : refPG (fun _ => true) (tolds.filter (hasO 0)) l (Rs.head st 0) [] = finP (tellT (Rs.head st 0) (l, none)) := by
  have e : tellT (Rs.head st 0) (l, none) = ((tkF1 (l, none) (sToken, 8)).1, { Rs.head st 0 with tok := (tkF1 (l, none) (sToken, 8)).2 }, []) := rfl
  rw [e, show tolds.filter (hasO 0) = [⟨sToken, 8, 1, [48]⟩] from rfl]
  refine one_step ⟨sToken, 8, 1, [48]⟩ _ _ _ _ (fun z n => (z, { Rs.head st 0 with tok := n }, [])) rfl (by decide) (by decide) (fun _ _ _ => finP_some _ _ _ _) ?_
  intro l n0
  rw [setS_sToken]
  dsimp only
  exact finP_none _ _ _ _
theorem body1 (st : Int) (l : List Nat) : refPG (fun _ => true) (tolds.filter (hasO 1)) l (Rs.head st 1) [] = finP (tellT (Rs.head st 1) (l, none)) := by
  have e : tellT (Rs.head st 1) (l, none) = ((l, none), Rs.head st 1, []) := rfl
  rw [e, show tolds.filter (hasO 1) = [] from rfl]
  exact finP_none _ _ _ _
theorem body2 (st : Int) (l : List Nat) : refPG (fun _ => true) (tolds.filter (hasO 2)) l (Rs.head st 2) [] = finP (tellT (Rs.head st 2) (l, none)) := by
  have e : tellT (Rs.head st 2) (l, none) = ((tkF1 (tkF1 (tkF1 (tkF1 (tkF1 (l, none) (sUnit, 1)).1 (sAt, 2)).1 (sAt, 2)).1 (sNew, 4)).1 (sVer, 4)).1, { Rs.head st 2 with unit := iI (tkF1 (l, none) (sUnit, 1)).2, ax := iI (tkF1 (tkF1 (l, none) (sUnit, 1)).1 (sAt, 2)).2, ay := iI (tkF1 (tkF1 (tkF1 (l, none) (sUnit, 1)).1 (sAt, 2)).1 (sAt, 2)).2, new := iI (tkF1 (tkF1 (tkF1 (tkF1 (l, none) (sUnit, 1)).1 (sAt, 2)).1 (sAt, 2)).1 (sNew, 4)).2, ver := iI (tkF1 (tkF1 (tkF1 (tkF1 (tkF1 (l, none) (sUnit, 1)).1 (sAt, 2)).1 (sAt, 2)).1 (sNew, 4)).1 (sVer, 4)).2 }, []) := rfl
  rw [e, show tolds.filter (hasO 2) = [⟨sUnit, 1, 1, [50]⟩, ⟨sAt, 2, 2, [50]⟩, ⟨sNew, 4, 1, [50, 51]⟩, ⟨sVer, 4, 1, [50, 51, 54]⟩] from rfl]
  refine one_step ⟨sUnit, 1, 1, [50]⟩ _ _ _ _ (fun z n => ((tkF1 (tkF1 (tkF1 (tkF1 z (sAt, 2)).1 (sAt, 2)).1 (sNew, 4)).1 (sVer, 4)).1, { Rs.head st 2 with unit := iI n, ax := iI (tkF1 z (sAt, 2)).2, ay := iI (tkF1 (tkF1 z (sAt, 2)).1 (sAt, 2)).2, new := iI (tkF1 (tkF1 (tkF1 z (sAt, 2)).1 (sAt, 2)).1 (sNew, 4)).2, ver := iI (tkF1 (tkF1 (tkF1 (tkF1 z (sAt, 2)).1 (sAt, 2)).1 (sNew, 4)).1 (sVer, 4)).2 }, [])) rfl (by decide) (by decide) (fun _ _ _ => finP_some _ _ _ _) ?_
  intro l n0
  rw [setS_sUnit]
  dsimp only
  refine two_step ⟨sAt, 2, 2, [50]⟩ _ _ _ _ (fun z n m => ((tkF1 (tkF1 z (sNew, 4)).1 (sVer, 4)).1, { Rs.head st 2 with unit := iI n0, ax := iI n, ay := iI m, new := iI (tkF1 z (sNew, 4)).2, ver := iI (tkF1 (tkF1 z (sNew, 4)).1 (sVer, 4)).2 }, [])) rfl (by decide) (by decide) (fun _ _ _ _ => finP_some _ _ _ _) ?_
  intro l n1 m1
  rw [setS_sAt]
  dsimp only
  refine one_step ⟨sNew, 4, 1, [50, 51]⟩ _ _ _ _ (fun z n => ((tkF1 z (sVer, 4)).1, { Rs.head st 2 with unit := iI n0, ax := iI n1, ay := iI m1, new := iI n, ver := iI (tkF1 z (sVer, 4)).2 }, [])) rfl (by decide) (by decide) (fun _ _ _ => finP_some _ _ _ _) ?_
  intro l n2
  rw [setS_sNew]
  dsimp only
  refine one_step ⟨sVer, 4, 1, [50, 51, 54]⟩ _ _ _ _ (fun z n => (z, { Rs.head st 2 with unit := iI n0, ax := iI n1, ay := iI m1, new := iI n2, ver := iI n }, [])) rfl (by decide) (by decide) (fun _ _ _ => finP_some _ _ _ _) ?_
  intro l n3
  rw [setS_sVer]
  dsimp only
  exact finP_none _ _ _ _
theorem body3 (st : Int) (l : List Nat) : refPG (fun _ => true) (tolds.filter (hasO 3)) l (Rs.head st 3) [] = finP (tellT (Rs.head st 3) (l, none)) := by
  have e : tellT (Rs.head st 3) (l, none) = ((tkF1 (tkF1 (tkF1 (l, none) (sNew, 4)).1 (sExpl, 4)).1 (sVer, 4)).1, { Rs.head st 3 with new := iI (tkF1 (l, none) (sNew, 4)).2, expl := iI (tkF1 (tkF1 (l, none) (sNew, 4)).1 (sExpl, 4)).2, ver := iI (tkF1 (tkF1 (tkF1 (l, none) (sNew, 4)).1 (sExpl, 4)).1 (sVer, 4)).2 }, []) := rfl
  rw [e, show tolds.filter (hasO 3) = [⟨sNew, 4, 1, [50, 51]⟩, ⟨sExpl, 4, 1, [51, 54]⟩, ⟨sVer, 4, 1, [50, 51, 54]⟩] from rfl]
  refine one_step ⟨sNew, 4, 1, [50, 51]⟩ _ _ _ _ (fun z n => ((tkF1 (tkF1 z (sExpl, 4)).1 (sVer, 4)).1, { Rs.head st 3 with new := iI n, expl := iI (tkF1 z (sExpl, 4)).2, ver := iI (tkF1 (tkF1 z (sExpl, 4)).1 (sVer, 4)).2 }, [])) rfl (by decide) (by decide) (fun _ _ _ => finP_some _ _ _ _) ?_
  intro l n0
  rw [setS_sNew]
  dsimp only
  refine one_step ⟨sExpl, 4, 1, [51, 54]⟩ _ _ _ _ (fun z n => ((tkF1 z (sVer, 4)).1, { Rs.head st 3 with new := iI n0, expl := iI n, ver := iI (tkF1 z (sVer, 4)).2 }, [])) rfl (by decide) (by decide) (fun _ _ _ => finP_some _ _ _ _) ?_
  intro l n1
  rw [setS_sExpl]
  dsimp only
  refine one_step ⟨sVer, 4, 1, [50, 51, 54]⟩ _ _ _ _ (fun z n => (z, { Rs.head st 3 with new := iI n0, expl := iI n1, ver := iI n }, [])) rfl (by decide) (by decide) (fun _ _ _ => finP_some _ _ _ _) ?_
  intro l n2
  rw [setS_sVer]
  dsimp only
  exact finP_none _ _ _ _
theorem body4 (st : Int) (l : List Nat) (hB : Byt l) : refPG (fun _ => true) (tolds.filter (hasO 4)) l (Rs.head st 4) [] = finP (tellT (Rs.head st 4) (l, none)) := by
  have e : tellT (Rs.head st 4) (l, none) = ((movT (tkF1 (tkF1 (tkF1 (flgF (l, none) sHit).1 (sCost, 8)).1 (sSettled, 4)).1 (sLeft, 4)).1 sMoves).1, { Rs.head st 4 with hit := (flgF (l, none) sHit).2, cost := (tkF1 (flgF (l, none) sHit).1 (sCost, 8)).2, settled := iI (tkF1 (tkF1 (flgF (l, none) sHit).1 (sCost, 8)).1 (sSettled, 4)).2, left := iI (tkF1 (tkF1 (tkF1 (flgF (l, none) sHit).1 (sCost, 8)).1 (sSettled, 4)).1 (sLeft, 4)).2 }, (movT (tkF1 (tkF1 (tkF1 (flgF (l, none) sHit).1 (sCost, 8)).1 (sSettled, 4)).1 (sLeft, 4)).1 sMoves).2) := rfl
  rw [e, show tolds.filter (hasO 4) = [⟨sHit, 1, 1, [52, 53]⟩, ⟨sCost, 8, 1, [52, 53]⟩, ⟨sSettled, 4, 1, [52, 53]⟩, ⟨sLeft, 4, 1, [52, 53, 54]⟩, ⟨sMoves, 4, 1, [52, 53]⟩] from rfl]
  refine hit_step [52, 53] _ _ hB _ _ (fun z n => ((movT (tkF1 (tkF1 (tkF1 z (sCost, 8)).1 (sSettled, 4)).1 (sLeft, 4)).1 sMoves).1, { Rs.head st 4 with hit := n, cost := (tkF1 z (sCost, 8)).2, settled := iI (tkF1 (tkF1 z (sCost, 8)).1 (sSettled, 4)).2, left := iI (tkF1 (tkF1 (tkF1 z (sCost, 8)).1 (sSettled, 4)).1 (sLeft, 4)).2 }, (movT (tkF1 (tkF1 (tkF1 z (sCost, 8)).1 (sSettled, 4)).1 (sLeft, 4)).1 sMoves).2)) (fun _ _ _ => finP_some _ _ _ _) ?_
  intro l n0
  rw [setS_sHit]
  dsimp only
  refine one_step ⟨sCost, 8, 1, [52, 53]⟩ _ _ _ _ (fun z n => ((movT (tkF1 (tkF1 z (sSettled, 4)).1 (sLeft, 4)).1 sMoves).1, { Rs.head st 4 with hit := decide (n0 = 1), cost := n, settled := iI (tkF1 z (sSettled, 4)).2, left := iI (tkF1 (tkF1 z (sSettled, 4)).1 (sLeft, 4)).2 }, (movT (tkF1 (tkF1 z (sSettled, 4)).1 (sLeft, 4)).1 sMoves).2)) rfl (by decide) (by decide) (fun _ _ _ => finP_some _ _ _ _) ?_
  intro l n1
  rw [setS_sCost]
  dsimp only
  refine one_step ⟨sSettled, 4, 1, [52, 53]⟩ _ _ _ _ (fun z n => ((movT (tkF1 z (sLeft, 4)).1 sMoves).1, { Rs.head st 4 with hit := decide (n0 = 1), cost := n1, settled := iI n, left := iI (tkF1 z (sLeft, 4)).2 }, (movT (tkF1 z (sLeft, 4)).1 sMoves).2)) rfl (by decide) (by decide) (fun _ _ _ => finP_some _ _ _ _) ?_
  intro l n2
  rw [setS_sSettled]
  dsimp only
  refine one_step ⟨sLeft, 4, 1, [52, 53, 54]⟩ _ _ _ _ (fun z n => ((movT z sMoves).1, { Rs.head st 4 with hit := decide (n0 = 1), cost := n1, settled := iI n2, left := iI n }, (movT z sMoves).2)) rfl (by decide) (by decide) (fun _ _ _ => finP_some _ _ _ _) ?_
  intro l n3
  rw [setS_sLeft]
  dsimp only
  exact moves_step _ _ _
theorem body5 (st : Int) (l : List Nat) (hB : Byt l) : refPG (fun _ => true) (tolds.filter (hasO 5)) l (Rs.head st 5) [] = finP (tellT (Rs.head st 5) (l, none)) := by
  have e : tellT (Rs.head st 5) (l, none) = ((movT (tkF1 (tkF1 (tkF1 (flgF (l, none) sHit).1 (sCost, 8)).1 (sSettled, 4)).1 (sLeft, 4)).1 sMoves).1, { Rs.head st 5 with hit := (flgF (l, none) sHit).2, cost := (tkF1 (flgF (l, none) sHit).1 (sCost, 8)).2, settled := iI (tkF1 (tkF1 (flgF (l, none) sHit).1 (sCost, 8)).1 (sSettled, 4)).2, left := iI (tkF1 (tkF1 (tkF1 (flgF (l, none) sHit).1 (sCost, 8)).1 (sSettled, 4)).1 (sLeft, 4)).2 }, (movT (tkF1 (tkF1 (tkF1 (flgF (l, none) sHit).1 (sCost, 8)).1 (sSettled, 4)).1 (sLeft, 4)).1 sMoves).2) := rfl
  rw [e, show tolds.filter (hasO 5) = [⟨sHit, 1, 1, [52, 53]⟩, ⟨sCost, 8, 1, [52, 53]⟩, ⟨sSettled, 4, 1, [52, 53]⟩, ⟨sLeft, 4, 1, [52, 53, 54]⟩, ⟨sMoves, 4, 1, [52, 53]⟩] from rfl]
  refine hit_step [52, 53] _ _ hB _ _ (fun z n => ((movT (tkF1 (tkF1 (tkF1 z (sCost, 8)).1 (sSettled, 4)).1 (sLeft, 4)).1 sMoves).1, { Rs.head st 5 with hit := n, cost := (tkF1 z (sCost, 8)).2, settled := iI (tkF1 (tkF1 z (sCost, 8)).1 (sSettled, 4)).2, left := iI (tkF1 (tkF1 (tkF1 z (sCost, 8)).1 (sSettled, 4)).1 (sLeft, 4)).2 }, (movT (tkF1 (tkF1 (tkF1 z (sCost, 8)).1 (sSettled, 4)).1 (sLeft, 4)).1 sMoves).2)) (fun _ _ _ => finP_some _ _ _ _) ?_
  intro l n0
  rw [setS_sHit]
  dsimp only
  refine one_step ⟨sCost, 8, 1, [52, 53]⟩ _ _ _ _ (fun z n => ((movT (tkF1 (tkF1 z (sSettled, 4)).1 (sLeft, 4)).1 sMoves).1, { Rs.head st 5 with hit := decide (n0 = 1), cost := n, settled := iI (tkF1 z (sSettled, 4)).2, left := iI (tkF1 (tkF1 z (sSettled, 4)).1 (sLeft, 4)).2 }, (movT (tkF1 (tkF1 z (sSettled, 4)).1 (sLeft, 4)).1 sMoves).2)) rfl (by decide) (by decide) (fun _ _ _ => finP_some _ _ _ _) ?_
  intro l n1
  rw [setS_sCost]
  dsimp only
  refine one_step ⟨sSettled, 4, 1, [52, 53]⟩ _ _ _ _ (fun z n => ((movT (tkF1 z (sLeft, 4)).1 sMoves).1, { Rs.head st 5 with hit := decide (n0 = 1), cost := n1, settled := iI n, left := iI (tkF1 z (sLeft, 4)).2 }, (movT (tkF1 z (sLeft, 4)).1 sMoves).2)) rfl (by decide) (by decide) (fun _ _ _ => finP_some _ _ _ _) ?_
  intro l n2
  rw [setS_sSettled]
  dsimp only
  refine one_step ⟨sLeft, 4, 1, [52, 53, 54]⟩ _ _ _ _ (fun z n => ((movT z sMoves).1, { Rs.head st 5 with hit := decide (n0 = 1), cost := n1, settled := iI n2, left := iI n }, (movT z sMoves).2)) rfl (by decide) (by decide) (fun _ _ _ => finP_some _ _ _ _) ?_
  intro l n3
  rw [setS_sLeft]
  dsimp only
  exact moves_step _ _ _
theorem body6 (st : Int) (l : List Nat) : refPG (fun _ => true) (tolds.filter (hasO 6)) l (Rs.head st 6) [] = finP (tellT (Rs.head st 6) (l, none)) := by
  have e : tellT (Rs.head st 6) (l, none) = ((tkF1 (tkF1 (tkF1 (tkF1 (tkF1 (tkF1 (l, none) (sExpl, 4)).1 (sVer, 4)).1 (sLeft, 4)).1 (sUnits, 1)).1 (sCache, 1)).1 (sSess, 1)).1, { Rs.head st 6 with expl := iI (tkF1 (l, none) (sExpl, 4)).2, ver := iI (tkF1 (tkF1 (l, none) (sExpl, 4)).1 (sVer, 4)).2, left := iI (tkF1 (tkF1 (tkF1 (l, none) (sExpl, 4)).1 (sVer, 4)).1 (sLeft, 4)).2, units := iI (tkF1 (tkF1 (tkF1 (tkF1 (l, none) (sExpl, 4)).1 (sVer, 4)).1 (sLeft, 4)).1 (sUnits, 1)).2, cache := iI (tkF1 (tkF1 (tkF1 (tkF1 (tkF1 (l, none) (sExpl, 4)).1 (sVer, 4)).1 (sLeft, 4)).1 (sUnits, 1)).1 (sCache, 1)).2, sess := iI (tkF1 (tkF1 (tkF1 (tkF1 (tkF1 (tkF1 (l, none) (sExpl, 4)).1 (sVer, 4)).1 (sLeft, 4)).1 (sUnits, 1)).1 (sCache, 1)).1 (sSess, 1)).2 }, []) := rfl
  rw [e, show tolds.filter (hasO 6) = [⟨sExpl, 4, 1, [51, 54]⟩, ⟨sVer, 4, 1, [50, 51, 54]⟩, ⟨sLeft, 4, 1, [52, 53, 54]⟩, ⟨sUnits, 1, 1, [54]⟩, ⟨sCache, 1, 1, [54]⟩, ⟨sSess, 1, 1, [54]⟩] from rfl]
  refine one_step ⟨sExpl, 4, 1, [51, 54]⟩ _ _ _ _ (fun z n => ((tkF1 (tkF1 (tkF1 (tkF1 (tkF1 z (sVer, 4)).1 (sLeft, 4)).1 (sUnits, 1)).1 (sCache, 1)).1 (sSess, 1)).1, { Rs.head st 6 with expl := iI n, ver := iI (tkF1 z (sVer, 4)).2, left := iI (tkF1 (tkF1 z (sVer, 4)).1 (sLeft, 4)).2, units := iI (tkF1 (tkF1 (tkF1 z (sVer, 4)).1 (sLeft, 4)).1 (sUnits, 1)).2, cache := iI (tkF1 (tkF1 (tkF1 (tkF1 z (sVer, 4)).1 (sLeft, 4)).1 (sUnits, 1)).1 (sCache, 1)).2, sess := iI (tkF1 (tkF1 (tkF1 (tkF1 (tkF1 z (sVer, 4)).1 (sLeft, 4)).1 (sUnits, 1)).1 (sCache, 1)).1 (sSess, 1)).2 }, [])) rfl (by decide) (by decide) (fun _ _ _ => finP_some _ _ _ _) ?_
  intro l n0
  rw [setS_sExpl]
  dsimp only
  refine one_step ⟨sVer, 4, 1, [50, 51, 54]⟩ _ _ _ _ (fun z n => ((tkF1 (tkF1 (tkF1 (tkF1 z (sLeft, 4)).1 (sUnits, 1)).1 (sCache, 1)).1 (sSess, 1)).1, { Rs.head st 6 with expl := iI n0, ver := iI n, left := iI (tkF1 z (sLeft, 4)).2, units := iI (tkF1 (tkF1 z (sLeft, 4)).1 (sUnits, 1)).2, cache := iI (tkF1 (tkF1 (tkF1 z (sLeft, 4)).1 (sUnits, 1)).1 (sCache, 1)).2, sess := iI (tkF1 (tkF1 (tkF1 (tkF1 z (sLeft, 4)).1 (sUnits, 1)).1 (sCache, 1)).1 (sSess, 1)).2 }, [])) rfl (by decide) (by decide) (fun _ _ _ => finP_some _ _ _ _) ?_
  intro l n1
  rw [setS_sVer]
  dsimp only
  refine one_step ⟨sLeft, 4, 1, [52, 53, 54]⟩ _ _ _ _ (fun z n => ((tkF1 (tkF1 (tkF1 z (sUnits, 1)).1 (sCache, 1)).1 (sSess, 1)).1, { Rs.head st 6 with expl := iI n0, ver := iI n1, left := iI n, units := iI (tkF1 z (sUnits, 1)).2, cache := iI (tkF1 (tkF1 z (sUnits, 1)).1 (sCache, 1)).2, sess := iI (tkF1 (tkF1 (tkF1 z (sUnits, 1)).1 (sCache, 1)).1 (sSess, 1)).2 }, [])) rfl (by decide) (by decide) (fun _ _ _ => finP_some _ _ _ _) ?_
  intro l n2
  rw [setS_sLeft]
  dsimp only
  refine one_step ⟨sUnits, 1, 1, [54]⟩ _ _ _ _ (fun z n => ((tkF1 (tkF1 z (sCache, 1)).1 (sSess, 1)).1, { Rs.head st 6 with expl := iI n0, ver := iI n1, left := iI n2, units := iI n, cache := iI (tkF1 z (sCache, 1)).2, sess := iI (tkF1 (tkF1 z (sCache, 1)).1 (sSess, 1)).2 }, [])) rfl (by decide) (by decide) (fun _ _ _ => finP_some _ _ _ _) ?_
  intro l n3
  rw [setS_sUnits]
  dsimp only
  refine one_step ⟨sCache, 1, 1, [54]⟩ _ _ _ _ (fun z n => ((tkF1 z (sSess, 1)).1, { Rs.head st 6 with expl := iI n0, ver := iI n1, left := iI n2, units := iI n3, cache := iI n, sess := iI (tkF1 z (sSess, 1)).2 }, [])) rfl (by decide) (by decide) (fun _ _ _ => finP_some _ _ _ _) ?_
  intro l n4
  rw [setS_sCache]
  dsimp only
  refine one_step ⟨sSess, 1, 1, [54]⟩ _ _ _ _ (fun z n => (z, { Rs.head st 6 with expl := iI n0, ver := iI n1, left := iI n2, units := iI n3, cache := iI n4, sess := iI n }, [])) rfl (by decide) (by decide) (fun _ _ _ => finP_some _ _ _ _) ?_
  intro l n5
  rw [setS_sSess]
  dsimp only
  exact finP_none _ _ _ _
theorem par_same (l : List Nat) (hB : Byt l) : par l = rPar l := by
  match l, hB with
  | [], _ => rfl
  | [s], hB => exact finP_some _ _ _ _
  | s :: o :: l, hB =>
    have hs : s < 256 := hB s List.mem_cons_self
    have ho : o < 256 := hB o (List.mem_cons_of_mem _ List.mem_cons_self)
    have hBl : Byt l := fun x hx => hB x (List.mem_cons_of_mem _ (List.mem_cons_of_mem _ hx))
    have h1 : tkF1 (s :: o :: l, none) (sStat, 1) = ((o :: l, none), s) := by
      show (((tk1 (sStat, 1) (s :: o :: l)).2.1, (tk1 (sStat, 1) (s :: o :: l)).1), (tk1 (sStat, 1) (s :: o :: l)).2.2) = _
      unfold tk1
      rw [if_pos (by simp)]
      simp [num]
    have h2 : tkF1 (o :: l, none) (sOp, 1) = ((l, none), o) := by
      show (((tk1 (sOp, 1) (o :: l)).2.1, (tk1 (sOp, 1) (o :: l)).1), (tk1 (sOp, 1) (o :: l)).2.2) = _
      unfold tk1
      rw [if_pos (by simp)]
      simp [num]
    have is : iI s = (s : Int) := by unfold iI; rw [IntKind.wrap_i64]; omega
    have io : iI o = (o : Int) := by unfold iI; rw [IntKind.wrap_i64]; omega
    have et : toldT (s :: o :: l, none) = toldT2 s o (l, none) := by
      unfold toldT
      simp only [h1, h2, is, io]
    have er : rPar (s :: o :: l) = if opensE (s : Int) (o : Int) ≠ 0 then (some (sOp, opensE (s : Int) (o : Int)), zR, []) else refPG (hasP (s : Int) (o : Int)) tolds l (Rs.head s o) [] := by
      unfold rPar
      rw [if_neg (by simp), if_neg (by simp)]
      rfl
    unfold par
    rw [et, er]
    unfold toldT2
    dsimp only
    by_cases ha : 7 ≤ (o : Int) ∧ (o : Int) ≠ 255
    · have : opensE (s : Int) (o : Int) = 18 := by unfold opensE; rw [if_pos (by omega)]
      rw [this, if_pos ha, if_pos (by decide)]
      exact finP_some _ _ _ _
    rw [if_neg ha]
    by_cases hb : (o : Int) = 255 ∧ (s : Int) = 0
    · have : opensE (s : Int) (o : Int) = 1 := by unfold opensE; rw [if_neg (by omega), if_pos hb]
      rw [this, if_pos hb, if_pos (by decide)]
      exact finP_some _ _ _ _
    rw [if_neg hb]
    have h0 : opensE (s : Int) (o : Int) = 0 := by unfold opensE; rw [if_neg (by omega), if_neg (by omega)]
    rw [if_neg (show ¬ opensE (s : Int) (o : Int) ≠ 0 from fun h => h h0), refPG_filter, ← bodyB_R h0]
    by_cases hc : bodyR (s : Int) (o : Int) = true
    · rw [if_pos hc, filt _ _ hc]
      have h6 : (o : Int) ≤ 6 := by unfold bodyR at hc; simp at hc; omega
      have hk : o = 0 ∨ o = 1 ∨ o = 2 ∨ o = 3 ∨ o = 4 ∨ o = 5 ∨ o = 6 := by omega
      rcases hk with rfl | rfl | rfl | rfl | rfl | rfl | rfl
      · exact (body0 _ _).symm
      · exact (body1 _ _).symm
      · exact (body2 _ _).symm
      · exact (body3 _ _).symm
      · exact (body4 _ _ hBl).symm
      · exact (body5 _ _ hBl).symm
      · exact (body6 _ _).symm
    · rw [if_neg hc]
      have hf : tolds.filter (hasP (s : Int) (o : Int)) = [] := by
        rw [List.filter_eq_nil_iff]
        intro w _ h
        unfold hasP at h
        rw [Bool.and_eq_true] at h
        exact hc h.1
      rw [hf]
      exact (finP_none _ _ _ _).symm
end Go.Proofs.YtnaclkdjchnbpaaDoor
end
section
namespace Go.Proofs.YtnaclkdjchnbpaaDoor
open Go Go.K

def i64 (n : Nat) : Int := IntKind.i64.wrap (n : Int)
def setR (r : Rq) (w : RowT) (x : List Nat) : Rq :=
  if w.name = sOp then { r with op := i64 (x.getD 0 0) } else if w.name = sToken then { r with tok := x.getD 0 0 } else if w.name = sUnit then { r with unit := i64 (x.getD 0 0) } else if w.name = sDir then { r with dir := i64 (x.getD 0 0) }
  else if w.name = sFrom then { r with fx := i64 (x.getD 0 0), fy := i64 (x.getD 1 0) } else if w.name = sTo then { r with tx := i64 (x.getD 0 0), ty := i64 (x.getD 1 0) } else r
def refG : List RowT → Nat → List Nat → Rq → Flt × Rq
  | [], _, l, r => if 0 < l.length then (some (sEnd, 12), Rq.zero) else (none, r)
  | w :: ws, k, l, r => if 0 < k ∧ hasR w.ops r.op = false then refG ws (k + 1) l r else if l.length < w.size * w.many then (some (w.name, 17), Rq.zero)
    else if w.name = sOp ∧ 6 < (setR r w (rdN w.size w.many l)).op then (some (sOp, 18), Rq.zero) else refG ws (k + 1) (l.drop (w.size * w.many)) (setR r w (rdN w.size w.many l))
def rDec (l : List Nat) : Flt × Rq := refG asked 0 l Rq.zero
theorem rdN_snoc (s m : Nat) (l : List Nat) : rdN s (m + 1) l = rdN s m l ++ [num ((l.drop (m * s)).take s)] := by
  unfold rdN
  rw [List.range_succ, List.map_append]
  rfl
end Go.Proofs.YtnaclkdjchnbpaaDoor
end
section
namespace Go.Proofs.YtnaclkdjchnbpaaDoor
open Go Go.K

theorem ite_mv {q : Prop} [Decidable q] {a b c d : Rs} {v : Value} (h1 : a = { c with mv := v }) (h2 : b = { d with mv := v }) : (if q then a else b) = { (if q then c else d) with mv := v } := by
  by_cases h : q
  · rw [if_pos h, if_pos h]; exact h1
  · rw [if_neg h, if_neg h]; exact h2
theorem ite_st {q : Prop} [Decidable q] {a b r : Rs} (h1 : a.st = r.st ∧ a.op = r.op) (h2 : b.st = r.st ∧ b.op = r.op) : (if q then a else b).st = r.st ∧ (if q then a else b).op = r.op := by
  by_cases h : q
  · rw [if_pos h]; exact h1
  · rw [if_neg h]; exact h2
theorem setS_mv (r : Rs) (v : Value) (n : ByteArray) (x : List Nat) : setS { r with mv := v } n x = { setS r n x with mv := v } := by
  unfold setS
  repeat' (first | rfl | refine ite_mv rfl ?_)
theorem setS_st (r : Rs) (n : ByteArray) (x : List Nat) : (setS r n x).st = r.st ∧ (setS r n x).op = r.op := by
  unfold setS
  repeat' (first | exact ⟨rfl, rfl⟩ | refine ite_st ⟨rfl, rfl⟩ ?_)
structure S25 where
  k : Nat
  l : List Nat
  r : Rs
  ms : List Nat
  p : Option Addr
  c : Nat
  v : Value
  φ : Heap
structure S26 where
  j : Nat
  v : Value
  φ : Heap
set_option maxHeartbeats 16000000 in
theorem rParse_p (β : Nat → Option Obj) (m c : Nat) (l : List Nat) (p : Option Addr) (hl : l.length = m) (hB : Byt l) (hmc : m ≤ c) (hv : SL β [] 1 m (by8 l) p) (hm : m ≤ 800000) :
    Go.K.Tr Tryd.prog 25 [.slice p m c] β [] (fun v σ' => RParR l v σ') := by
  refine Tr.sub ?_
  subst hl
  refine Tr.of_body Tryd.tt (args := [.slice p l.length c]) (fr := [(0, true, .slice p l.length c)]) Tryd.func25 rfl (by decide) rfl Tryd.ntmps25 rfl rfl ?_
  intro E hE
  subst hE
  by_cases hl1 : l.length < 1
  · have htr := trivial
    repeat' (first | refine KW.seq ?_ | refine KW.region ?_ | refine KO.nil ?_ | refine At.then_normal ?_ | refine KW.skip ?_ | refine KW.ret ?_ | refine At.then_ret ?_ | refine KW.drawM (id := 5) [0, 0, 0, 0, 0, 0, 0, 0, 0, 2] [] (by decide +kernel) rfl rfl rfl ?_ | ((first | apply KO.val rfl rfl rfl ?kq ?_ | apply KDH.val0 rfl rfl rfl ?kq ?_ ); (try (case ksub => (intro _ hp; first | exact hp | (cases hp; done) | (repeat (first | exact hp | apply List.mem_cons_of_mem | apply List.mem_append_right)) | (simp_all; done)))); (case kq => ((first | apply qt_ev rfl ?hi | apply qt_build rfl rfl ?hi rfl ); (case hi => (intro h; (repeat' (first | with_reducible exact alln | with_reducible refine allc ?_ ?_ )); all_goals (first | with_reducible rfl )))))) | (refine KO.alloc rfl rfl rfl rfl rfl rfl ?_; intro _ _) | (apply KO.store (i := _) rfl rfl rfl rfl rfl rfl rfl rfl ?hl ?sg ?hw ?ho ?hs; (case sg => first | exact (rfl : getI 0 _ = _) | exact (rfl : getI 1 _ = _) ); (case hl => rfl); (case hw => rfl); (case ho => rfl); (case hs => rfl)) | (refine KW.cond rfl ?_ ?_ <;> (intro hc; try simp only [kBool] at hc)) | (exfalso; omega) | fail)
    ((first | apply At.done_ret ); (focus (repeat' (first | exact ResVs.nil' | apply ResVs.cons' | (apply ResV.cellN rfl ?hm rfl rfl rfl ?hc; (case hm => repeat (first | exact List.Mem.head _ | apply List.Mem.tail _ )); (case hc => rfl))))); dsimp only [resVal])
    refine ⟨[], List.nil_sublist _, ?_⟩
    unfold RParR
    rw [show rPar l = (some (sStat, 17), zR, []) from by unfold rPar; rw [if_pos hl1]]
    exact ⟨rfl, rfl⟩
  by_cases hl2 : l.length < 2
  · have htr := trivial
    repeat' (first | refine KW.seq ?_ | refine KW.region ?_ | refine KO.nil ?_ | refine At.then_normal ?_ | refine KW.skip ?_ | refine KW.ret ?_ | refine At.then_ret ?_ | refine KW.drawM (id := 5) [0, 0, 0, 0, 0, 0, 0, 0, 0, 2] [] (by decide +kernel) rfl rfl rfl ?_ | ((first | apply KO.val rfl rfl rfl ?kq ?_ | apply KDH.val0 rfl rfl rfl ?kq ?_ ); (try (case ksub => (intro _ hp; first | exact hp | (cases hp; done) | (repeat (first | exact hp | apply List.mem_cons_of_mem | apply List.mem_append_right)) | (simp_all; done)))); (case kq => ((first | apply qt_ev rfl ?hi | apply qt_build rfl rfl ?hi rfl ); (case hi => (intro h; (repeat' (first | with_reducible exact alln | with_reducible refine allc ?_ ?_ )); all_goals (first | with_reducible rfl )))))) | (refine KO.alloc rfl rfl rfl rfl rfl rfl ?_; intro _ _) | (apply KO.store (i := _) rfl rfl rfl rfl rfl rfl rfl rfl ?hl ?sg ?hw ?ho ?hs; (case sg => first | exact (rfl : getI 0 _ = _) | exact (rfl : getI 1 _ = _) ); (case hl => rfl); (case hw => rfl); (case ho => rfl); (case hs => rfl)) | (refine KW.cond rfl ?_ ?_ <;> (intro hc; try simp only [kBool] at hc)) | (exfalso; omega) | fail)
    ((first | apply At.done_ret ); (focus (repeat' (first | exact ResVs.nil' | apply ResVs.cons' | (apply ResV.cellN rfl ?hm rfl rfl rfl ?hc; (case hm => repeat (first | exact List.Mem.head _ | apply List.Mem.tail _ )); (case hc => rfl))))); dsimp only [resVal])
    refine ⟨[], List.nil_sublist _, ?_⟩
    unfold RParR
    rw [show rPar l = (some (sOp, 17), zR, []) from by unfold rPar; rw [if_neg hl1, if_pos hl2]]
    exact ⟨rfl, rfl⟩
  obtain ⟨st, hst⟩ : ∃ z, l[0]? = some z := ⟨_, List.getElem?_eq_getElem (by omega)⟩
  obtain ⟨op, hop⟩ : ∃ z, l[1]? = some z := ⟨_, List.getElem?_eq_getElem (by omega)⟩
  have est : l.getD 0 0 = st := by rw [List.getD_eq_getElem?_getD, hst]; rfl
  have eop : l.getD 1 0 = op := by rw [List.getD_eq_getElem?_getD, hop]; rfl
  have hst2 : st < 256 := hB st (List.mem_of_getElem? hst)
  have hop2 : op < 256 := hB op (List.mem_of_getElem? hop)
  obtain ⟨b1, o1, rfl, hc1⟩ := hv.2 (by omega)
  have hopn := opens_p E.β (st : Int) (op : Int)
  have k0 : ∀ σ : Heap, Cel E.β σ b1 (o1 + (0 : Int).toNat * 1) (.int .u8 (st : Int)) := fun σ => (cel8 hc1 hst).mono (fun _ h => by cases h)
  have k1 : ∀ σ : Heap, Cel E.β σ b1 (o1 + (1 : Int).toNat * 1) (.int .u8 (op : Int)) := fun σ => (cel8 hc1 hop).mono (fun _ h => by cases h)
  repeat' (first | refine KW.seq ?_ | refine KW.region ?_ | refine KO.nil ?_ | refine At.then_normal ?_ | refine KW.skip ?_ | refine KW.ret ?_ | refine At.then_ret ?_ | refine KW.drawM (id := 5) [0, 0, 0, 0, 0, 0, 0, 0, 0, 2] [] (by decide +kernel) rfl rfl rfl ?_ | refine KDH.mid2 ?_ | refine KDH.done ?_ | refine KDM.head0 ?_ | refine KDM.fin ?_ | ((first | refine KDM.eo2f rfl rfl rfl (eo_alloc rfl rfl rfl) ?_ ); rintro _ _ ⟨_, _, rfl, rfl⟩; refine ⟨?sub, ?_⟩; (case sub => (intro _ hp; first | (repeat (first | exact hp | apply List.mem_cons_of_mem )) ))) | ((first | apply KO.val rfl rfl rfl ?kq ?_ | apply KDH.val0 rfl rfl rfl ?kq ?_ ); (try (case ksub => (intro _ hp; first | exact hp | (cases hp; done) | (repeat (first | exact hp | apply List.mem_cons_of_mem | apply List.mem_append_right)) | (simp_all; done)))); (case kq => ((first | ((first | apply qt_convI rfl rfl rfl rfl ?hi ?om | apply qt_indexAddr_slice rfl rfl rfl ?hi rfl rfl ?om | apply qt_sliceL rfl rfl rfl ?hi rfl rfl ?om ); (case om => (intro hg; first | omega ))) | apply qt_ev rfl ?hi | ((first | apply qt_load1 rfl rfl ?hi rfl rfl ?hm ?hc ); (case hm => repeat (first | exact List.Mem.head _ )); (case hc => rfl)) | refine qt_callQ rfl rfl ?hi (fun hg => Tr.quiet hopn) | apply qt_build rfl rfl ?hi rfl ); (case hi => (intro h; (repeat' (first | with_reducible exact alln | with_reducible refine allc ?_ ?_ | with_reducible refine andi ?_ ?_)); all_goals (first | with_reducible rfl )))))) | (refine KO.alloc rfl rfl rfl rfl rfl rfl ?_; intro _ _) | (apply KO.store (i := _) rfl rfl rfl rfl rfl rfl rfl rfl ?hl ?sg ?hw ?ho ?hs; (case sg => first | exact (rfl : getI 0 _ = _) | exact (rfl : getI 1 _ = _) | exact (rfl : getI 2 _ = _) ); (case hl => rfl); (case hw => rfl); (case ho => rfl); (case hs => rfl)) | (refine KW.cond rfl ?_ ?_ <;> (intro hc; try simp only [kBool] at hc)) | (exfalso; omega) | ((first | apply KDH.val0 (g := true) rfl rfl rfl ); (first | (apply qt_load1_cel rfl rfl ?hi rfl rfl ?hc; (case hc => first | exact fun _ => (k0 _) | exact fun _ => (k1 _)))); (case hi => (first | exact fun _ => rfl ))) | fail)
  · have htr := trivial
    ((first | apply At.done_ret ); (focus (repeat' (first | exact ResVs.nil' | apply ResVs.cons' | (apply ResV.cellN rfl ?hm rfl rfl rfl ?hc; (case hm => repeat (first | exact List.Mem.head _ | apply List.Mem.tail _ )); (case hc => rfl))))); dsimp only [resVal])
    refine ⟨[], List.nil_sublist _, ?_⟩
    unfold RParR
    rw [show rPar l = (some (sOp, opensE st op), zR, []) from by unfold rPar; rw [if_neg hl1, if_neg hl2, est, eop, if_pos ‹¬opensE st op = 0›]]
    exact ⟨rfl, rfl⟩
  · rename_i b2 _ b3 _ _ _ b4 _
    have eop0 : opensE (st : Int) (op : Int) = 0 := ‹opensE (st : Int) (op : Int) = 0›
    have hl4 : (l.drop 2).length = l.length - 2 := List.length_drop
    have hdr0 : SL E.β [] 1 (l.drop 2).length (by8 (l.drop 2)) (adv 1 (some ⟨b1, o1, none⟩) c 2) := SL.drop8 hv (by omega) hmc
    have he0 : rPar l = refPG (hasP st op) tolds (l.drop 2) { zR with st := st, op := op } [] := by
      unfold rPar; rw [if_neg hl1, if_neg hl2, est, eop, if_neg (fun h => h eop0)]
    refine KO.callF [] ((b4, cl [.int .i64 (st : Int), .int .i64 (op : Int), .int .u64 ((0 : Nat) : Int), .int .i64 0, .int .i64 0, .int .i64 0, .int .i64 0, .int .i64 0, .int .i64 0, .bool false, .int .u64 ((0 : Nat) : Int), .int .i64 0, .int .i64 0, .slice none 0 0, .int .i64 0, .int .i64 0, .int .i64 0] 48) :: (b3, cl [.int .i64 0, .string ByteArray.empty] 34) :: [(b2, cl [.int .i64 0, .int .i64 0, .int .u64 ((0 : Nat) : Int), .int .i64 0, .int .i64 0, .int .i64 0, .int .i64 0, .int .i64 0, .int .i64 0, .bool false, .int .u64 ((0 : Nat) : Int), .int .i64 0, .int .i64 0, .slice none 0 0, .int .i64 0, .int .i64 0, .int .i64 0] 48)]) (by first | exact List.Perm.refl _ ) rfl rfl rfl rfl rfl rfl rfl (Told_p _) ?_
    rintro _ _ ⟨bl, rfl, rfl⟩
    repeat' (first | refine KW.seq ?_ | refine KW.region ?_ | refine KO.nil ?_ | refine At.then_normal ?_ | refine KW.block ?_ | ((first | apply KO.val rfl rfl rfl ?kq ?_ ); (try (case ksub => (intro _ hp; first | exact hp | (cases hp; done) | (repeat (first | exact hp | apply List.mem_cons_of_mem | apply List.mem_append_right)) | (simp_all; done)))); (case kq => ((first | apply qt_ev rfl ?hi ); (case hi => (intro h; (repeat' (first | with_reducible exact alln | with_reducible refine allc ?_ ?_ )); all_goals (first | with_reducible rfl )))))) | fail)
    obtain ⟨RV, hRV⟩ : ∃ RV, RV = rowsV tolds := ⟨_, rfl⟩
    rw [← hRV, show Int.toNat 2 = 2 from rfl, ← hl4]
    refine KW.loop (fun s : S25 => s.k ≤ 14 ∧ rPar l = refPG (hasP st op) (tolds.drop s.k) s.l s.r s.ms ∧ Byt s.l ∧ s.l.length + s.ms.length ≤ l.length ∧ s.l.length ≤ s.c ∧ SL E.β [] 1 s.l.length (by8 s.l) s.p ∧ Vec 5 1 s.ms.length (by8 s.ms) s.v s.φ ∧ s.r.st = st ∧ s.r.op = op) (fun s => ([(7, true, .int .i64 (s.k : Int)), (0, true, .slice s.p s.l.length s.c), (6, true, .slice (some ⟨bl, 0, none⟩) 14 14), (4, true, .pointer (some ⟨b4, 0, none⟩)), (3, true, .pointer (some ⟨b3, 0, none⟩)), (2, true, .pointer (some ⟨b2, 0, none⟩))], (bl, cl RV 86) :: (b4, cl [.int .i64 s.r.st, .int .i64 s.r.op, .int .u64 (s.r.tok : Int), .int .i64 s.r.unit, .int .i64 s.r.ax, .int .i64 s.r.ay, .int .i64 s.r.new, .int .i64 s.r.expl, .int .i64 s.r.ver, .bool s.r.hit, .int .u64 (s.r.cost : Int), .int .i64 s.r.settled, .int .i64 s.r.left, s.v, .int .i64 s.r.units, .int .i64 s.r.cache, .int .i64 s.r.sess] 48) :: (b3, cl [.int .i64 0, .string ByteArray.empty] 34) :: (b2, cl [.int .i64 0, .int .i64 0, .int .u64 ((0 : Nat) : Int), .int .i64 0, .int .i64 0, .int .i64 0, .int .i64 0, .int .i64 0, .int .i64 0, .bool false, .int .u64 ((0 : Nat) : Int), .int .i64 0, .int .i64 0, .slice none 0 0, .int .i64 0, .int .i64 0, .int .i64 0] 48) :: s.φ)) (fun s => 14 - s.k) ⟨0, l.drop 2, { zR with st := st, op := op }, [], adv 1 (some ⟨b1, o1, none⟩) c 2, c - 2, .slice none 0 0, []⟩
      ⟨Nat.zero_le _, he0, hB.drop _, (by dsimp only [List.length_nil]; omega), (by dsimp only; omega), hdr0, Vec.nil _ 1, rfl, rfl⟩ (Le.perm (by repeat' (first | exact FLe.nil _ | refine FLe.cons rfl rfl ?_)) (List.Perm.refl _)) ?_
    rintro ⟨k, l', r, ms, p', c', v, φ⟩ ⟨hk, he, hB', hll, hlc, hv', hu, hrs, hro⟩
    dsimp only at hk he hB' hll hlc hv' hu hrs hro ⊢
    obtain ⟨pv, cv, rfl⟩ := hu.len
    by_cases hkn : k < 14
    · obtain ⟨w, hw⟩ : ∃ w, tolds[k]? = some w := ⟨_, List.getElem?_eq_getElem hkn⟩
      obtain ⟨hw1, hw2, hw3, hw4⟩ := tolds_ops' w (List.mem_of_getElem? hw)
      obtain ⟨hw5, hw6, hw7, hw8⟩ := tolds_two w (List.mem_of_getElem? hw)
      rw [drop_of hw] at he
      have kr : ∀ σ', (bl, cl RV 86) ∈ σ' → ∀ j' v, (rowV w)[j']? = some v → Cel E.β σ' bl (0 + ((k : Nat) : Int).toNat * 4 + j') v := fun σ' h => celR (by rw [← hRV]; exact h) hw
      have hHas := fun σ => Has_p E.β σ w hw1 hw2 r.op
      have hbd := rBody_p E.β r.st r.op
      have hq1 : (0 : Int) ≤ (w.size : Int) * (w.many : Int) ∧ (w.size : Int) * (w.many : Int) ≤ 16 := by
        have : w.size * w.many ≤ 8 * 2 := Nat.mul_le_mul hw3 hw4
        rw [← Int.natCast_mul]; omega
      obtain ⟨b, hb⟩ : ∃ b, b = bodyR r.st r.op := ⟨_, rfl⟩
      rw [← hb] at hbd
      obtain ⟨h, hh⟩ : ∃ h, h = hasR w.ops r.op := ⟨_, rfl⟩
      rw [← hh] at hHas
      have hhas : hasP st op w = (b && h) := by unfold hasP; rw [hb, hh, hrs, hro]
      repeat' (first | refine KW.seq ?_ | refine KW.region ?_ | refine KO.nil ?_ | refine At.then_normal ?_ | refine KW.skip ?_ | refine KW.ret ?_ | refine At.then_ret ?_ | refine KW.block ?_ | refine KW.exit ?_ | refine KW.drawM (id := 17) [0, 1, 1, 1, 1, 1, 1, 3] [0] (by decide +kernel) rfl rfl rfl ?_ | refine KDH.mid3 ?_ | refine KDH.done ?_ | refine KDM.head0 ?_ | refine KDM.head1 ?_ | refine KW.drawU rfl (by decide +kernel) ?_ | refine KD.zero ?_ | ((first | apply KO.val rfl rfl rfl ?kq ?_ | apply KD.val rfl rfl rfl ?kq ?_ | apply KDH.val0 rfl rfl rfl ?kq ?_ | apply KDH.val1 rfl rfl rfl ?kq ?_ ); (try (case ksub => (intro _ hp; first | exact hp | (cases hp; done) | (repeat (first | exact hp | apply List.mem_cons_of_mem | apply List.mem_append_right)) | (simp_all; done)))); (case kq => ((first | ((first | apply qt_add rfl rfl rfl ?hi ?om | apply qt_mul rfl rfl rfl ?hi ?om | apply qt_indexAddr_slice rfl rfl rfl ?hi rfl rfl ?om ); (case om => (intro hg; first | omega ))) | apply qt_ev rfl ?hi | ((first | apply qt_load1 rfl rfl ?hi rfl rfl ?hm ?hc | apply qt_loadN rfl rfl ?hi rfl rfl rfl ?hm ?hc); (case hm => repeat (first | exact List.Mem.head _ | apply List.Mem.tail _ )); (case hc => rfl)) | refine qt_callQ rfl rfl ?hi (fun hg => Tr.quiet hbd) | refine qt_callQ rfl rfl ?hi (fun hg => hHas _) | ((first | apply qt_pick_or rfl rfl rfl ?hi ?pj); (case pj => (intro h h2; first | (rw [h2]; rfl) ))) | apply qt_build rfl rfl ?hi rfl ); (case hi => (intro h; (repeat' (first | with_reducible exact alln | with_reducible refine allc ?_ ?_ | with_reducible refine andi ?_ ?_)); all_goals (first | with_reducible rfl | with_reducible exact h )))))) | (apply KO.store (i := _) rfl rfl rfl rfl rfl rfl rfl rfl ?hl ?sg ?hw ?ho ?hs; (case sg => first | exact (rfl : getI 2 _ = _) | exact (rfl : getI 3 _ = _) ); (case hl => rfl); (case hw => rfl); (case ho => rfl); (case hs => rfl)) | (refine KW.cond rfl ?_ ?_ <;> (intro hc; try simp only [kBool] at hc)) | (exfalso; omega) | ((first | apply KD.val (g := true) rfl rfl rfl | apply KDH.val1 (g := true) rfl rfl rfl | apply KD.val rfl rfl rfl ); (first | (apply qt_loadN_cel rfl rfl ?hi rfl rfl rfl ?hl ?hc; (case hc => exact fun _ => (kr _ (List.Mem.head _))); (case hl => rfl)) | (apply qt_load1_cel rfl rfl ?hi rfl rfl ?hc; (case hc => first | exact fun _ => (kr _ (List.Mem.head _) 0 _ rfl) | exact fun _ => (kr _ (List.Mem.head _) 1 _ rfl) | exact fun _ => (kr _ (List.Mem.head _) 2 _ rfl)))); (case hi => (first | exact fun _ => rfl | (intro h; first | exact h )))) | fail)
      · refine At.loop_on ⟨k + 1, l', r, ms, p', c', _, φ⟩ ⟨by dsimp only; omega, ?_, hB', hll, hlc, hv', hu, hrs, hro⟩ (by dsimp only; omega) (Le.perm (by repeat' (first | exact FLe.nil _ | refine FLe.cons rfl rfl ?_)) (List.Perm.refl _))
        refine he.trans ?_
        rw [refPG, if_neg (by rw [hhas]; rcases hc with h1 | h1 <;> simp [h1])]
      · have hbh : b = true ∧ h = true := ‹b = true ∧ h = true›
        have hT : hasP st op w = true := by rw [hhas, hbh.1, hbh.2]; rfl
        refine KDM.eo30 rfl rfl (eo_store (i := 3) rfl rfl rfl rfl rfl rfl rfl rfl rfl rfl rfl) ?_
        rintro _ _ rfl
        refine ⟨fun q hq => (by simp only [List.mem_singleton] at hq; rw [hq]; exact List.Mem.head _), ?_⟩
        repeat' (first | refine KO.nil ?_ | refine At.then_normal ?_ | refine KW.ret ?_ | refine At.then_ret ?_ | refine At.block_ret ?_ | refine At.loop_ret ?_ | refine KDM.fin ?_ | (apply KO.store (i := _) rfl rfl rfl rfl rfl rfl rfl rfl ?hl ?sg ?hw ?ho ?hs; (case sg => first | exact (rfl : getI 2 _ = _) ); (case hl => rfl); (case hw => rfl); (case ho => rfl); (case hs => rfl)) | fail)
        ((first | apply At.done_ret ); (focus (repeat' (first | exact ResVs.nil' | apply ResVs.cons' | (apply ResV.cellN rfl ?hm rfl rfl rfl ?hc; (case hm => repeat (first | exact List.Mem.head _ | apply List.Mem.tail _ )); (case hc => rfl))))); dsimp only [resVal])
        refine ⟨[], List.nil_sublist _, ?_⟩
        have e : rPar l = (some (w.name, 17), zR, []) := by
          rw [he, refPG, if_pos hT, if_pos (by
            have : ((w.size * w.many : Nat) : Int) = (w.size : Int) * (w.many : Int) := Int.natCast_mul _ _
            omega)]
        unfold RParR
        rw [e]
        exact ⟨rfl, rfl⟩
      · have hbh : b = true ∧ h = true := ‹b = true ∧ h = true›
        have hT : hasP st op w = true := by rw [hhas, hbh.1, hbh.2]; rfl
        have hS : ((w.size : Int) * (w.many : Int)).toNat = w.size * w.many := by rw [← Int.natCast_mul, Int.toNat_natCast]
        have hfit : w.size * w.many ≤ l'.length := by
          have : ((w.size * w.many : Nat) : Int) ≤ (l'.length : Int) := by rw [Int.natCast_mul]; omega
          omega
        refine KW.loop (fun s : S26 => s.j ≤ w.many ∧ Vec 22 1 s.j (uv (rdN w.size s.j l')) s.v s.φ) (fun s => ([(10, true, .int .i64 (s.j : Int)), (9, true, s.v), (8, true, .int .i64 ((w.size : Int) * (w.many : Int))), (7, true, .int .i64 (k : Int)), (0, true, .slice p' l'.length c'), (6, true, .slice (some ⟨bl, 0, none⟩) 14 14), (4, true, .pointer (some ⟨b4, 0, none⟩)), (3, true, .pointer (some ⟨b3, 0, none⟩)), (2, true, .pointer (some ⟨b2, 0, none⟩))], (bl, cl RV 86) :: (b4, cl [.int .i64 r.st, .int .i64 r.op, .int .u64 (r.tok : Int), .int .i64 r.unit, .int .i64 r.ax, .int .i64 r.ay, .int .i64 r.new, .int .i64 r.expl, .int .i64 r.ver, .bool r.hit, .int .u64 (r.cost : Int), .int .i64 r.settled, .int .i64 r.left, .slice pv ms.length cv, .int .i64 r.units, .int .i64 r.cache, .int .i64 r.sess] 48) :: (b3, cl [.int .i64 0, .string ByteArray.empty] 34) :: (b2, cl [.int .i64 0, .int .i64 0, .int .u64 ((0 : Nat) : Int), .int .i64 0, .int .i64 0, .int .i64 0, .int .i64 0, .int .i64 0, .int .i64 0, .bool false, .int .u64 ((0 : Nat) : Int), .int .i64 0, .int .i64 0, .slice none 0 0, .int .i64 0, .int .i64 0, .int .i64 0] 48) :: (s.φ ++ φ))) (fun s => w.many - s.j) ⟨0, _, []⟩
          ⟨Nat.zero_le _, Vec.nil _ 1⟩ (Le.perm (by repeat' (first | exact FLe.nil _ | refine FLe.cons rfl rfl ?_)) (List.Perm.refl _)) ?_
        rintro ⟨j, u, ψ⟩ ⟨hj, hu2⟩
        dsimp only at hj hu2 ⊢
        obtain ⟨pu, cu, rfl⟩ := hu2.len
        by_cases hjn : j < w.many
        · have hjs : (j + 1) * w.size ≤ w.size * w.many := by
            rw [Nat.mul_comm w.size]; exact Nat.mul_le_mul_right _ (by omega)
          have hq2 : (0 : Int) ≤ (j : Int) * (w.size : Int) ∧ ((j : Int) + 1) * (w.size : Int) = (j : Int) * (w.size : Int) + (w.size : Int) ∧ (j : Int) * (w.size : Int) + (w.size : Int) ≤ (l'.length : Int) ∧ (j : Int) * (w.size : Int) + (w.size : Int) ≤ 16 := by
            rw [Nat.succ_mul] at hjs
            have e : ((j : Int) * (w.size : Int)) = ((j * w.size : Nat) : Int) := (Int.natCast_mul _ _).symm
            have hq3 : w.size * w.many ≤ 8 * 2 := Nat.mul_le_mul hw3 hw4
            refine ⟨by rw [e]; omega, by rw [Int.add_mul, Int.one_mul], by rw [e]; omega, by rw [e]; omega⟩
          have htr := trivial
          repeat' (first | refine KW.seq ?_ | refine KW.region ?_ | refine KO.nil ?_ | refine At.then_normal ?_ | refine KW.skip ?_ | refine KW.block ?_ | refine KW.exit ?_ | refine KW.drawM (id := 22) [0, 0, 0, 0, 0, 0, 0, 0, 0, 0, 0, 0, 0, 0, 0, 0, 0, 0, 0, 2] [] (by decide +kernel) rfl rfl rfl ?_ | ((first | apply KO.val rfl rfl rfl ?kq ?_ | apply KDH.val0 rfl rfl rfl ?kq ?_ ); (try (case ksub => (intro _ hp; first | exact hp | (cases hp; done) | (repeat (first | exact hp | apply List.mem_cons_of_mem | apply List.mem_append_right)) | (simp_all; done)))); (case kq => ((first | ((first | apply qt_add rfl rfl rfl ?hi ?om | apply qt_mul rfl rfl rfl ?hi ?om | apply qt_indexAddr_slice rfl rfl rfl ?hi rfl rfl ?om | apply qt_sliceL rfl rfl rfl ?hi rfl rfl ?om | apply qt_sliceLH rfl rfl rfl rfl ?hi rfl rfl ?om ); (case om => (intro hg; first | omega ))) | apply qt_ev rfl ?hi ); (case hi => (intro h; (repeat' (first | with_reducible exact alln | with_reducible refine allc ?_ ?_ | with_reducible refine andi ?_ ?_)); all_goals (first | with_reducible rfl )))))) | (refine KW.cond rfl ?_ ?_ <;> (intro hc; try simp only [kBool] at hc)) | (exfalso; omega) | ((first | apply KO.val (g := true) rfl rfl rfl | apply KDH.val0 (g := true) rfl rfl rfl ); (first | (apply qt_load1_cel rfl rfl ?hi rfl rfl ?hc; (case hc => first | exact fun _ => (kr _ (List.Mem.head _) 1 _ rfl) | exact fun _ => (kr _ (List.Mem.head _) 2 _ rfl)))); (case hi => (first | exact fun _ => rfl ))) | fail)
          · have e1 : ((j : Int) * (w.size : Int)).toNat = j * w.size := by rw [← Int.natCast_mul, Int.toNat_natCast]
            have e2 : (((j : Int) + 1) * (w.size : Int)).toNat = j * w.size + w.size := by rw [hq2.2.1, ← Int.natCast_mul]; omega
            have hNum : ∀ σ, Go.K.Tr Tryd.prog 48 [.slice (adv 1 p' c' ((j : Int) * (w.size : Int)).toNat) ((((j : Int) + 1) * (w.size : Int)).toNat - ((j : Int) * (w.size : Int)).toNat) (c' - ((j : Int) * (w.size : Int)).toNat)] E.β σ (fun v s => v = .int .u64 ((num ((l'.drop (j * w.size)).take w.size) : Nat) : Int) ∧ s = σ) := by
              intro σ
              rw [e1, e2]
              have hsl := SL.adv (c := c') hv' (l := j * w.size) (h := j * w.size + w.size) (by omega) (by rw [e2] at *; have := hq2.2.2.1; rw [← Int.natCast_mul] at this; omega) (by have := hq2.2.2.1; rw [← Int.natCast_mul] at this; omega)
              have e3 : ((by8 l').drop (j * w.size * 1)).take ((j * w.size + w.size - j * w.size) * 1) = by8 ((l'.drop (j * w.size)).take w.size) := by
                rw [Nat.mul_one, Nat.mul_one, Nat.add_sub_cancel_left]
                simp only [by8, List.map_drop, List.map_take]
              rw [e3] at hsl
              refine rNumber_p E.β σ ((l'.drop (j * w.size)).take w.size) _ _ (j * w.size + w.size - j * w.size) ?_ ((hB'.drop _).take _) (hsl.mono (fun _ h => by cases h)) (by omega)
              rw [List.length_take, List.length_drop]
              have := hq2.2.2.1
              rw [← Int.natCast_mul] at this
              omega
            repeat' (first | refine KDH.mid2 ?_ | refine KDH.done ?_ | refine KDM.head0 ?_ | refine KDM.fin ?_ | ((first | refine KDM.eo2f rfl rfl rfl (eo_buildSlice rfl rfl rfl rfl rfl rfl rfl rfl rfl rfl rfl) ?_ ); rintro _ _ ⟨_, _, rfl, rfl⟩; refine ⟨?sub, ?_⟩; (case sub => (intro _ hp; first | (repeat (first | exact hp | apply List.mem_cons_of_mem )) ))) | ((first | apply KDH.val0 rfl rfl rfl ?kq ?_ ); (try (case ksub => (intro _ hp; first | exact hp | (cases hp; done) | (repeat (first | exact hp | apply List.mem_cons_of_mem | apply List.mem_append_right)) | (simp_all; done)))); (case kq => ((first | refine qt_callQ rfl rfl ?hi (fun hg => hNum _) ); (case hi => (intro h; (repeat' (first | with_reducible exact alln | with_reducible refine allc ?_ ?_ )); all_goals (first | with_reducible rfl )))))) | fail)
            rename_i bw _
            refine KO.appendF (k := 1) (news := uv [num ((l'.drop (j * w.size)).take w.size)]) ((bw, cl [.int .u64 ((num ((l'.drop (j * w.size)).take w.size) : Nat) : Int)] 22) :: (bl, cl RV 86) :: (b4, cl [.int .i64 r.st, .int .i64 r.op, .int .u64 (r.tok : Int), .int .i64 r.unit, .int .i64 r.ax, .int .i64 r.ay, .int .i64 r.new, .int .i64 r.expl, .int .i64 r.ver, .bool r.hit, .int .u64 (r.cost : Int), .int .i64 r.settled, .int .i64 r.left, .slice pv ms.length cv, .int .i64 r.units, .int .i64 r.cache, .int .i64 r.sess] 48) :: (b3, cl [.int .i64 0, .string ByteArray.empty] 34) :: (b2, cl [.int .i64 0, .int .i64 0, .int .u64 ((0 : Nat) : Int), .int .i64 0, .int .i64 0, .int .i64 0, .int .i64 0, .int .i64 0, .int .i64 0, .bool false, .int .u64 ((0 : Nat) : Int), .int .i64 0, .int .i64 0, .slice none 0 0, .int .i64 0, .int .i64 0, .int .i64 0] 48) :: φ) ψ (by classical exact List.perm_iff_count.2 (fun _ => by first | (simp only [List.count_append, List.count_cons, List.count_nil, List.append_assoc, List.cons_append, List.nil_append]; omega))) rfl rfl rfl rfl rfl rfl rfl rfl rfl rfl (by decide) hu2 rfl ?_ rfl ?_ ?_ ?_
            · intro i v hi
              exact .inl ⟨_, _, List.Mem.head _, by rw [Nat.zero_add]; exact hi⟩
            · simp only [maxLen]; omega
            · omega
            rintro v' φ' hv2
            obtain ⟨p2, c2, rfl⟩ := hv2.len
            repeat' (first | refine KW.region ?_ | refine KO.nil ?_ | ((first | apply KO.val rfl rfl rfl ?kq ?_ ); (try (case ksub => (intro _ hp; first | exact hp | (cases hp; done) | (repeat (first | exact hp | apply List.mem_cons_of_mem | apply List.mem_append_right)) | (simp_all; done)))); (case kq => ((first | ((first | apply qt_add rfl rfl rfl ?hi ?om ); (case om => (intro hg; first | omega ))) | apply qt_ev rfl ?hi ); (case hi => (intro h; (repeat' (first | with_reducible exact alln | with_reducible refine allc ?_ ?_ | with_reducible refine andi ?_ ?_)); all_goals (first | with_reducible rfl )))))) | fail)
            refine At.loop_on ⟨j + 1, _, φ'⟩ ⟨by dsimp only; omega, ?_⟩ (by dsimp only; omega) (Le.permS (φ := [(bw, cl [.int .u64 ((num ((l'.drop (j * w.size)).take w.size) : Nat) : Int)] 22)]) (by repeat' (first | exact FLe.nil _ | refine FLe.cons rfl rfl ?_)) (by classical exact List.perm_iff_count.2 (fun _ => by first | (simp only [List.count_append, List.count_cons, List.count_nil, List.append_assoc, List.cons_append, List.nil_append]; omega))))
            dsimp only
            rw [rdN_snoc]
            have e4 : uv (rdN w.size j l' ++ [num ((l'.drop (j * w.size)).take w.size)]) = uv (rdN w.size j l') ++ uv [num ((l'.drop (j * w.size)).take w.size)] := List.map_append
            rw [e4]
            exact hv2
        · have hj2 : j = w.many := by omega
          repeat' (first | refine KW.seq ?_ | refine KW.region ?_ | refine KO.nil ?_ | refine At.then_normal ?_ | refine KW.skip ?_ | refine KW.block ?_ | refine KW.exit ?_ | refine KW.drawM (id := 22) [0, 0, 0, 0, 0, 0, 0, 0, 0, 0, 0, 0, 0, 0, 0, 0, 0, 0, 0, 2] [] (by decide +kernel) rfl rfl rfl ?_ | ((first | apply KO.val rfl rfl rfl ?kq ?_ | apply KDH.val0 rfl rfl rfl ?kq ?_ ); (try (case ksub => (intro _ hp; first | exact hp | (cases hp; done) | (repeat (first | exact hp | apply List.mem_cons_of_mem | apply List.mem_append_right)) | (simp_all; done)))); (case kq => ((first | ((first | apply qt_indexAddr_slice rfl rfl rfl ?hi rfl rfl ?om | apply qt_sliceL rfl rfl rfl ?hi rfl rfl ?om ); (case om => (intro hg; first | omega ))) | apply qt_ev rfl ?hi ); (case hi => (intro h; (repeat' (first | with_reducible exact alln | with_reducible refine allc ?_ ?_ | with_reducible refine andi ?_ ?_)); all_goals (first | with_reducible rfl )))))) | (refine KW.cond rfl ?_ ?_ <;> (intro hc; try simp only [kBool] at hc)) | (exfalso; omega) | ((first | apply KO.val (g := true) rfl rfl rfl ); (first | (apply qt_load1_cel rfl rfl ?hi rfl rfl ?hc; (case hc => first | exact fun _ => (kr _ (List.Mem.head _) 0 _ rfl) | exact fun _ => (kr _ (List.Mem.head _) 2 _ rfl)))); (case hi => (first | exact fun _ => rfl ))) | fail)
          obtain rfl : j = w.many := hj2
          have hdl : (l'.drop (w.size * w.many)).length = l'.length - w.size * w.many := List.length_drop
          have hdr : SL E.β [] 1 (l'.drop (w.size * w.many)).length (by8 (l'.drop (w.size * w.many))) (adv 1 p' c' (w.size * w.many)) := SL.drop8 hv' hfit hlc
          have hul : (rdN w.size w.many l').length = w.many := rdN_len _ _ _
          have hle2 : ¬ l'.length < w.size * w.many := by omega
          rw [hS, ← hdl]
          have hsv := fun (σ : Heap) (hm : ∀ q ∈ ψ, q ∈ σ) => SL.ofVec (β := E.β) hu2 hm
          obtain ⟨b5, o5, rfl, hc5⟩ := (hsv ψ (fun q h => h)).2 (by omega)
          obtain ⟨a, ha⟩ : ∃ a, (rdN w.size w.many l')[0]? = some a := ⟨_, List.getElem?_eq_getElem (by omega)⟩
          have ea : (rdN w.size w.many l').getD 0 0 = a := by rw [List.getD_eq_getElem?_getD, ha]; rfl
          have k5 : ∀ (σ : Heap), (∀ q ∈ ψ, q ∈ σ) → Cel E.β σ b5 (o5 + (0 : Int).toNat * 1) (.int .u64 (a : Int)) := fun σ hm => (hc5 0 _ (uv_get ha)).mono hm
          have hset := setS_p E.β ψ b4 { r with mv := .slice pv ms.length cv } w.name (rdN w.size w.many l') (some ⟨b5, o5, none⟩) w.many cu hul hw5 hw7 (hsv ψ (fun q h => h))
          rw [setS_mv] at hset
          obtain ⟨hss, hso⟩ := setS_st r w.name (rdN w.size w.many l')
          rw [hrs] at hss
          rw [hro] at hso
          obtain ⟨r', hr'⟩ : ∃ r', r' = setS r w.name (rdN w.size w.many l') := ⟨_, rfl⟩
          rw [← hr'] at hset hss hso
          dsimp only [Rs.cells] at hset
          refine KO.callF ((b4, cl [.int .i64 r.st, .int .i64 r.op, .int .u64 (r.tok : Int), .int .i64 r.unit, .int .i64 r.ax, .int .i64 r.ay, .int .i64 r.new, .int .i64 r.expl, .int .i64 r.ver, .bool r.hit, .int .u64 (r.cost : Int), .int .i64 r.settled, .int .i64 r.left, .slice pv ms.length cv, .int .i64 r.units, .int .i64 r.cache, .int .i64 r.sess] 48) :: ψ) ((bl, cl RV 86) :: (b3, cl [.int .i64 0, .string ByteArray.empty] 34) :: (b2, cl [.int .i64 0, .int .i64 0, .int .u64 ((0 : Nat) : Int), .int .i64 0, .int .i64 0, .int .i64 0, .int .i64 0, .int .i64 0, .int .i64 0, .bool false, .int .u64 ((0 : Nat) : Int), .int .i64 0, .int .i64 0, .slice none 0 0, .int .i64 0, .int .i64 0, .int .i64 0] 48) :: φ) (by classical exact List.perm_iff_count.2 (fun _ => by first | (simp only [List.count_append, List.count_cons, List.count_nil, List.append_assoc, List.cons_append, List.nil_append]; omega))) rfl rfl rfl rfl rfl rfl rfl hset ?_
          rintro _ _ rfl
          refine KO.perm (σ' := (bl, cl RV 86) :: (b4, cl [.int .i64 r'.st, .int .i64 r'.op, .int .u64 (r'.tok : Int), .int .i64 r'.unit, .int .i64 r'.ax, .int .i64 r'.ay, .int .i64 r'.new, .int .i64 r'.expl, .int .i64 r'.ver, .bool r'.hit, .int .u64 (r'.cost : Int), .int .i64 r'.settled, .int .i64 r'.left, .slice pv ms.length cv, .int .i64 r'.units, .int .i64 r'.cache, .int .i64 r'.sess] 48) :: (b3, cl [.int .i64 0, .string ByteArray.empty] 34) :: (b2, cl [.int .i64 0, .int .i64 0, .int .u64 ((0 : Nat) : Int), .int .i64 0, .int .i64 0, .int .i64 0, .int .i64 0, .int .i64 0, .int .i64 0, .bool false, .int .u64 ((0 : Nat) : Int), .int .i64 0, .int .i64 0, .slice none 0 0, .int .i64 0, .int .i64 0, .int .i64 0] 48) :: (ψ ++ φ)) (by classical exact List.perm_iff_count.2 (fun _ => by first | (simp only [List.count_append, List.count_cons, List.count_nil, List.append_assoc, List.cons_append, List.nil_append]; omega))) ?_
          have hl2l : (l'.drop (w.size * w.many)).length + ms.length ≤ l.length := by omega
          have hl2c : (l'.drop (w.size * w.many)).length ≤ c' - w.size * w.many := by omega
          have hB2 : Byt (l'.drop (w.size * w.many)) := hB'.drop _
          obtain ⟨l2, hl2e⟩ : ∃ z, z = l'.drop (w.size * w.many) := ⟨_, rfl⟩
          obtain ⟨p2, hp2⟩ : ∃ z, z = adv 1 p' c' (w.size * w.many) := ⟨_, rfl⟩
          obtain ⟨c2, hc2⟩ : ∃ z, z = c' - w.size * w.many := ⟨_, rfl⟩
          rw [← hl2e] at hdr hl2l hl2c hB2
          rw [← hp2] at hdr
          rw [← hc2] at hl2c
          rw [← hl2e, ← hp2, ← hc2]
          repeat' (first | refine KW.seq ?_ | refine KW.region ?_ | refine KO.nil ?_ | refine At.then_normal ?_ | refine KW.skip ?_ | refine KW.ret ?_ | refine At.then_ret ?_ | refine KW.block ?_ | refine At.block_ret ?_ | refine At.loop_ret ?_ | ((first | apply KO.val rfl rfl rfl ?kq ?_ ); (try (case ksub => (intro _ hp; first | exact hp | (cases hp; done) | (repeat (first | exact hp | apply List.mem_cons_of_mem | apply List.mem_append_right)) | (simp_all; done)))); (case kq => ((first | ((first | apply qt_add rfl rfl rfl ?hi ?om | apply qt_convI rfl rfl rfl rfl ?hi ?om | apply qt_indexAddr_slice rfl rfl rfl ?hi rfl rfl ?om ); (case om => (intro hg; first | omega ))) | apply qt_ev rfl ?hi | apply qt_streq rfl rfl rfl ?hi | ((first | apply qt_pick_and rfl rfl rfl ?hi ?pj ); (case pj => (intro h h2; first | with_reducible exact h2 ))) | apply qt_build rfl rfl ?hi rfl ); (case hi => (intro h; (repeat' (first | with_reducible exact alln | with_reducible refine allc ?_ ?_ | with_reducible refine andi ?_ ?_)); all_goals (first | with_reducible rfl | with_reducible exact h )))))) | (apply KO.store (i := _) rfl rfl rfl rfl rfl rfl rfl rfl ?hl ?sg ?hw ?ho ?hs; (case sg => first | exact (rfl : getI 2 _ = _) | exact (rfl : getI 3 _ = _) ); (case hl => rfl); (case hw => rfl); (case ho => rfl); (case hs => rfl)) | (refine KW.cond rfl ?_ ?_ <;> (intro hc; try simp only [kBool] at hc)) | ((first | apply KO.val (g := true) rfl rfl rfl | apply KO.val rfl rfl rfl ); (first | (apply qt_load1_cel rfl rfl ?hi rfl rfl ?hc; (case hc => first | exact fun _ => (kr _ (List.Mem.head _) 0 _ rfl) | exact fun _ => (k5 _ (fun q hq => List.mem_cons_of_mem _ (List.mem_cons_of_mem _ (List.mem_cons_of_mem _ (List.mem_cons_of_mem _ (List.mem_append_left _ hq))))))))); (case hi => (first | exact fun _ => rfl | (intro h; first | exact h )))) | fail)
          · have htr := trivial
            ((first | apply At.done_ret ); (focus (repeat' (first | exact ResVs.nil' | apply ResVs.cons' | (apply ResV.cellN rfl ?hm rfl rfl rfl ?hc; (case hm => repeat (first | exact List.Mem.head _ | apply List.Mem.tail _ )); (case hc => rfl))))); dsimp only [resVal])
            have hh1 : w.name = sHit ∧ (1 : Int) < (a : Int) := by assumption
            refine ⟨[], List.nil_sublist _, ?_⟩
            unfold RParR
            rw [show rPar l = (some (sHit, 11), zR, []) from by rw [he, refPG, if_pos hT, if_neg hle2, if_pos ⟨hh1.1, by rw [ea]; omega⟩]]
            exact ⟨rfl, rfl⟩
          · have htr := trivial
            ((first | apply At.done_ret ); (focus (repeat' (first | exact ResVs.nil' | apply ResVs.cons' | (apply ResV.cellN rfl ?hm rfl rfl rfl ?hc; (case hm => repeat (first | exact List.Mem.head _ | apply List.Mem.tail _ )); (case hc => rfl))))); dsimp only [resVal])
            have hnh : ¬ (w.name = sHit ∧ 1 < (rdN w.size w.many l').getD 0 0) := by
              rintro ⟨h1, h2⟩
              rw [ea] at h2
              rcases ‹¬ w.name = sHit ∨ ¬ (1 : Int) < (a : Int)› with h | h
              · exact h h1
              · omega
            have hm1 : w.name = sMoves := by assumption
            refine ⟨[], List.nil_sublist _, ?_⟩
            unfold RParR
            rw [show rPar l = (some (sMoves, 12), zR, []) from by rw [he, refPG, if_pos hT, if_neg hle2, if_neg hnh, if_pos hm1, ea, if_pos (by omega)]]
            exact ⟨rfl, rfl⟩
          · have htr := trivial
            ((first | apply At.done_ret ); (focus (repeat' (first | exact ResVs.nil' | apply ResVs.cons' | (apply ResV.cellN rfl ?hm rfl rfl rfl ?hc; (case hm => repeat (first | exact List.Mem.head _ | apply List.Mem.tail _ )); (case hc => rfl))))); dsimp only [resVal])
            have hnh : ¬ (w.name = sHit ∧ 1 < (rdN w.size w.many l').getD 0 0) := by
              rintro ⟨h1, h2⟩
              rw [ea] at h2
              rcases ‹¬ w.name = sHit ∨ ¬ (1 : Int) < (a : Int)› with h | h
              · exact h h1
              · omega
            have hm1 : w.name = sMoves := by assumption
            refine ⟨[], List.nil_sublist _, ?_⟩
            unfold RParR
            rw [show rPar l = (some (sMoves, 17), zR, []) from by rw [he, refPG, if_pos hT, if_neg hle2, if_neg hnh, if_pos hm1, ea, ← hl2e, if_neg (by omega), if_pos (by omega)]]
            exact ⟨rfl, rfl⟩
          · have hm1 : w.name = sMoves := by assumption
            have hnh : ¬ (w.name = sHit ∧ 1 < (rdN w.size w.many l').getD 0 0) := by
              rintro ⟨h1, h2⟩
              rw [ea] at h2
              rcases ‹¬ w.name = sHit ∨ ¬ (1 : Int) < (a : Int)› with h | h
              · exact h h1
              · omega
            have ha6 : a ≤ 65535 ∧ a ≤ l2.length := by omega
            have hstep : rPar l = (if (l2.take a).all (fun m => decide (m ≤ 3)) then refPG (hasP st op) (tolds.drop (k + 1)) (l2.drop a) r' (ms ++ l2.take a) else (some (sMoves, 10), zR, [])) := by
              rw [he, refPG, if_pos hT, if_neg hle2, if_neg hnh, if_pos hm1, ea, ← hl2e, if_neg (by omega), if_neg (by omega), ← hr']
            have hms5 : ms.length + a ≤ 800000 := by omega
            clear he hset hq1 kr hopn k0 k1 hdr0 he0 hHas hbd hnh hT hS hfit hjn hj hhas hbh hu2 hsv hdl hul hle2 hw hw1 hw2 hw3 hw4 hw6 hw7 hw8 hb hh hrs hro hB' hll hlc hv' hc5 ha ea hr' hl2e hp2 hc2 hm1
            refine KW.loop (fun s : S26 => s.j ≤ a ∧ Vec 5 1 (ms ++ l2.take s.j).length (by8 (ms ++ l2.take s.j)) s.v s.φ ∧ (l2.take s.j).all (fun m => decide (m ≤ 3)) = true) (fun s => ([(11, true, .int .i64 (s.j : Int)), (9, true, .slice (some ⟨b5, o5, none⟩) w.many cu), (7, true, .int .i64 (k : Int)), (0, true, .slice p2 l2.length c2), (6, true, .slice (some ⟨bl, 0, none⟩) 14 14), (4, true, .pointer (some ⟨b4, 0, none⟩)), (3, true, .pointer (some ⟨b3, 0, none⟩)), (2, true, .pointer (some ⟨b2, 0, none⟩))], (bl, cl RV 86) :: (b4, cl [.int .i64 r'.st, .int .i64 r'.op, .int .u64 (r'.tok : Int), .int .i64 r'.unit, .int .i64 r'.ax, .int .i64 r'.ay, .int .i64 r'.new, .int .i64 r'.expl, .int .i64 r'.ver, .bool r'.hit, .int .u64 (r'.cost : Int), .int .i64 r'.settled, .int .i64 r'.left, s.v, .int .i64 r'.units, .int .i64 r'.cache, .int .i64 r'.sess] 48) :: (b3, cl [.int .i64 0, .string ByteArray.empty] 34) :: (b2, cl [.int .i64 0, .int .i64 0, .int .u64 ((0 : Nat) : Int), .int .i64 0, .int .i64 0, .int .i64 0, .int .i64 0, .int .i64 0, .int .i64 0, .bool false, .int .u64 ((0 : Nat) : Int), .int .i64 0, .int .i64 0, .slice none 0 0, .int .i64 0, .int .i64 0, .int .i64 0] 48) :: (ψ ++ s.φ))) (fun s => a - s.j) ⟨0, .slice pv ms.length cv, φ⟩
              ⟨Nat.zero_le _, (by dsimp only [List.take_zero]; rw [List.append_nil]; exact hu), rfl⟩ (Le.perm (by repeat' (first | exact FLe.nil _ | refine FLe.cons rfl rfl ?_)) (List.Perm.refl _)) ?_
            rintro ⟨j, vm, φ2⟩ ⟨hj, hu3, hall⟩
            dsimp only at hj hu3 hall ⊢
            obtain ⟨pm, cm, rfl⟩ := hu3.len
            have hlj : (ms ++ l2.take j).length = ms.length + j := by rw [List.length_append, List.length_take]; omega
            by_cases hjn : j < a
            · obtain ⟨b6, o6, rfl, hc6⟩ := hdr.2 (by omega)
              obtain ⟨x, hx⟩ : ∃ z, l2[j]? = some z := ⟨_, List.getElem?_eq_getElem (by omega)⟩
              have hx256 : x < 256 := hB2 x (List.mem_of_getElem? hx)
              have htk : l2.take (j + 1) = l2.take j ++ [x] := by rw [List.take_succ, hx]; rfl
              have k6 : ∀ σ : Heap, Cel E.β σ b6 (o6 + ((j : Nat) : Int).toNat * 1) (.int .u8 (x : Int)) := fun σ => (cel8 hc6 hx).mono (fun _ h => by cases h)
              have k5' : ∀ z3 z4, Cel E.β ((bl, cl RV 86) :: (b4, cl [.int .i64 r'.st, .int .i64 r'.op, .int .u64 (r'.tok : Int), .int .i64 r'.unit, .int .i64 r'.ax, .int .i64 r'.ay, .int .i64 r'.new, .int .i64 r'.expl, .int .i64 r'.ver, .bool r'.hit, .int .u64 (r'.cost : Int), .int .i64 r'.settled, .int .i64 r'.left, .slice pm (ms ++ l2.take j).length cm, .int .i64 r'.units, .int .i64 r'.cache, .int .i64 r'.sess] 48) :: z3 :: z4 :: (ψ ++ φ2)) b5 (o5 + (0 : Int).toNat * 1) (.int .u64 (a : Int)) := fun z3 z4 => k5 _ (fun q hq => List.mem_cons_of_mem _ (List.mem_cons_of_mem _ (List.mem_cons_of_mem _ (List.mem_cons_of_mem _ (List.mem_append_left _ hq)))))
              have hx3 : 3 < x → rPar l = (some (sMoves, 10), zR, []) := by
                intro h3
                rw [hstep, if_neg]
                intro h
                have := List.all_eq_true.1 h x (List.mem_of_getElem? (i := j) (by rw [List.getElem?_take, if_pos hjn]; exact hx))
                rw [decide_eq_true_eq] at this
                omega
              have hal2 : x ≤ 3 → (l2.take (j + 1)).all (fun m => decide (m ≤ 3)) = true := by
                intro h3
                rw [htk, List.all_append, hall]
                simp [h3]
              clear hstep hdr hB2 hc6 hss hso k5
              repeat' (first | refine KW.seq ?_ | refine KW.region ?_ | refine KO.nil ?_ | refine At.then_normal ?_ | refine KW.skip ?_ | refine KW.ret ?_ | refine At.then_ret ?_ | refine KW.block ?_ | refine KW.exit ?_ | refine At.block_ret ?_ | refine At.loop_ret ?_ | refine KW.drawM (id := 37) [0, 0, 0, 0, 0, 0, 2] [] (by decide +kernel) rfl rfl rfl ?_ | refine KDH.mid2 ?_ | refine KDH.done ?_ | refine KDM.head0 ?_ | refine KDM.fin ?_ | ((first | refine KDM.eo2f rfl rfl rfl (eo_buildSlice rfl rfl rfl rfl rfl rfl rfl rfl rfl rfl rfl) ?_ ); rintro _ _ ⟨_, _, rfl, rfl⟩; refine ⟨?sub, ?_⟩; (case sub => (intro _ hp; first | (repeat (first | exact hp | apply List.mem_cons_of_mem )) ))) | ((first | apply KO.val rfl rfl rfl ?kq ?_ | apply KDH.val0 rfl rfl rfl ?kq ?_ ); (try (case ksub => (intro _ hp; first | exact hp | (cases hp; done) | (repeat (first | exact hp | apply List.mem_cons_of_mem | apply List.mem_append_right)) | (simp_all; done)))); (case kq => ((first | ((first | apply qt_convI rfl rfl rfl rfl ?hi ?om | apply qt_indexAddr_slice rfl rfl rfl ?hi rfl rfl ?om ); (case om => (intro hg; first | omega ))) | apply qt_ev rfl ?hi | ((first | apply qt_load1 rfl rfl ?hi rfl rfl ?hm ?hc ); (case hm => repeat (first | exact List.Mem.head _ | apply List.Mem.tail _ )); (case hc => rfl)) | apply qt_build rfl rfl ?hi rfl ); (case hi => (intro h; (repeat' (first | with_reducible exact alln | with_reducible refine allc ?_ ?_ | with_reducible refine andi ?_ ?_)); all_goals (first | with_reducible rfl )))))) | (apply KO.store (i := _) rfl rfl rfl rfl rfl rfl rfl rfl ?hl ?sg ?hw ?ho ?hs; (case sg => first | exact (rfl : getI 2 _ = _) | exact (rfl : getI 3 _ = _) ); (case hl => rfl); (case hw => rfl); (case ho => rfl); (case hs => rfl)) | (refine KW.cond rfl ?_ ?_ <;> (intro hc; try simp only [kBool] at hc)) | (exfalso; omega) | ((first | apply KO.val (g := true) rfl rfl rfl | apply KDH.val0 (g := true) rfl rfl rfl ); (first | (apply qt_load1_cel rfl rfl ?hi rfl rfl ?hc; (case hc => first | exact fun _ => (k5' _ _) | exact fun _ => (k6 _)))); (case hi => (first | exact fun _ => rfl ))) | fail)
              · have htr := trivial
                ((first | apply At.done_ret ); (focus (repeat' (first | exact ResVs.nil' | apply ResVs.cons' | (apply ResV.cellN rfl ?hm rfl rfl rfl ?hc; (case hm => repeat (first | exact List.Mem.head _ | apply List.Mem.tail _ )); (case hc => rfl))))); dsimp only [resVal])
                refine ⟨[], List.nil_sublist _, ?_⟩
                unfold RParR
                rw [hx3 (by omega)]
                exact ⟨rfl, rfl⟩
              · rename_i bw _
                refine KO.appendF (k := 1) (news := by8 [x]) ((bw, cl [.int .u8 (x : Int)] 5) :: (bl, cl RV 86) :: (b4, cl [.int .i64 r'.st, .int .i64 r'.op, .int .u64 (r'.tok : Int), .int .i64 r'.unit, .int .i64 r'.ax, .int .i64 r'.ay, .int .i64 r'.new, .int .i64 r'.expl, .int .i64 r'.ver, .bool r'.hit, .int .u64 (r'.cost : Int), .int .i64 r'.settled, .int .i64 r'.left, .slice pm (ms ++ l2.take j).length cm, .int .i64 r'.units, .int .i64 r'.cache, .int .i64 r'.sess] 48) :: (b3, cl [.int .i64 0, .string ByteArray.empty] 34) :: (b2, cl [.int .i64 0, .int .i64 0, .int .u64 ((0 : Nat) : Int), .int .i64 0, .int .i64 0, .int .i64 0, .int .i64 0, .int .i64 0, .int .i64 0, .bool false, .int .u64 ((0 : Nat) : Int), .int .i64 0, .int .i64 0, .slice none 0 0, .int .i64 0, .int .i64 0, .int .i64 0] 48) :: ψ) φ2 (by classical exact List.perm_iff_count.2 (fun _ => by first | (simp only [List.count_append, List.count_cons, List.count_nil, List.append_assoc, List.cons_append, List.nil_append]; done) )) rfl rfl rfl rfl rfl rfl rfl rfl rfl rfl (by decide) hu3 rfl ?_ rfl ?_ ?_ ?_
                · intro i v hi
                  exact .inl ⟨_, _, List.Mem.head _, by rw [Nat.zero_add]; exact hi⟩
                · rw [hlj]; simp only [maxLen]; omega
                · rw [hlj]; omega
                rintro v' φ' hv2
                obtain ⟨p7, c7, rfl⟩ := hv2.len
                repeat' (first | refine KW.region ?_ | refine KO.nil ?_ | ((first | apply KO.val rfl rfl rfl ?kq ?_ ); (try (case ksub => (intro _ hp; first | exact hp | (cases hp; done) | (repeat (first | exact hp | apply List.mem_cons_of_mem | apply List.mem_append_right)) | (simp_all; done)))); (case kq => ((first | ((first | apply qt_add rfl rfl rfl ?hi ?om ); (case om => (intro hg; first | omega ))) | apply qt_ev rfl ?hi ); (case hi => (intro h; (repeat' (first | with_reducible exact alln | with_reducible refine allc ?_ ?_ | with_reducible refine andi ?_ ?_)); all_goals (first | with_reducible rfl )))))) | (apply KO.store (i := _) rfl rfl rfl rfl rfl rfl rfl rfl ?hl ?sg ?hw ?ho ?hs; (case sg => first | exact (rfl : getI 2 _ = _) ); (case hl => rfl); (case hw => rfl); (case ho => rfl); (case hs => rfl)) | fail)
                refine At.loop_on ⟨j + 1, .slice p7 ((ms ++ l2.take j).length + 1) c7, φ'⟩ ⟨by dsimp only; omega, ?_, hal2 (by omega)⟩ (by dsimp only; omega) (Le.permS (φ := [(bw, cl [.int .u8 (x : Int)] 5)]) (by repeat' (first | exact FLe.nil _ | refine FLe.cons rfl rfl ?_)) (by dsimp only; simp only [List.append_eq]; exact (by classical exact List.perm_iff_count.2 (fun _ => by first | (simp only [List.count_append, List.count_cons, List.count_nil, List.append_assoc, List.cons_append, List.nil_append]; done) | (simp only [List.count_append, List.count_cons, List.count_nil, List.append_assoc, List.cons_append, List.nil_append]; omega)))))
                dsimp only
                rw [htk, ← List.append_assoc]
                have e4 : by8 (ms ++ l2.take j ++ [x]) = by8 (ms ++ l2.take j) ++ by8 [x] := List.map_append
                rw [e4, List.length_append]
                exact hv2
            · obtain rfl : j = a := by omega
              rw [if_pos hall] at hstep
              have hdl2 : (l2.drop j).length = l2.length - j := List.length_drop
              have hdr2 : SL E.β [] 1 (l2.drop j).length (by8 (l2.drop j)) (adv 1 p2 c2 j) := SL.drop8 hdr ha6.2 hl2c
              have hB3 : Byt (l2.drop j) := hB2.drop _
              repeat' (first | refine KW.seq ?_ | refine KW.region ?_ | refine KO.nil ?_ | refine At.then_normal ?_ | refine KW.skip ?_ | refine KW.block ?_ | refine KW.exit ?_ | ((first | apply KO.val rfl rfl rfl ?kq ?_ ); (try (case ksub => (intro _ hp; first | exact hp | (cases hp; done) | (repeat (first | exact hp | apply List.mem_cons_of_mem | apply List.mem_append_right)) | (simp_all; done)))); (case kq => ((first | ((first | apply qt_add rfl rfl rfl ?hi ?om | apply qt_convI rfl rfl rfl rfl ?hi ?om | apply qt_indexAddr_slice rfl rfl rfl ?hi rfl rfl ?om | apply qt_sliceL rfl rfl rfl ?hi rfl rfl ?om ); (case om => (intro hg; first | omega ))) | apply qt_ev rfl ?hi ); (case hi => (intro h; (repeat' (first | with_reducible exact alln | with_reducible refine allc ?_ ?_ | with_reducible refine andi ?_ ?_)); all_goals (first | with_reducible rfl )))))) | (refine KW.cond rfl ?_ ?_ <;> (intro hc; try simp only [kBool] at hc)) | (exfalso; omega) | ((first | apply KO.val (g := true) rfl rfl rfl ); (first | (apply qt_load1_cel rfl rfl ?hi rfl rfl ?hc; (case hc => first | exact fun _ => (k5 _ (fun q hq => List.mem_cons_of_mem _ (List.mem_cons_of_mem _ (List.mem_cons_of_mem _ (List.mem_cons_of_mem _ (List.mem_append_left _ hq)))))) ))); (case hi => (first | exact fun _ => rfl ))) | fail)
              refine At.loop_on ⟨k + 1, l2.drop j, r', ms ++ l2.take j, adv 1 p2 c2 j, c2 - j, _, φ2⟩ ⟨by dsimp only; omega, hstep, hB3, by dsimp only; omega, by dsimp only; omega, hdr2, hu3, hss, hso⟩ (by dsimp only; omega) (Le.permS (φ := ψ) (by rw [hdl2]; exact (by repeat' (first | exact FLe.nil _ | refine FLe.cons rfl rfl ?_))) (by classical exact List.perm_iff_count.2 (fun _ => by first | (simp only [List.count_append, List.count_cons, List.count_nil, List.append_assoc, List.cons_append, List.nil_append]; omega))))
          · have hm1 : ¬ w.name = sMoves := by assumption
            have hnh : ¬ (w.name = sHit ∧ 1 < (rdN w.size w.many l').getD 0 0) := by
              rintro ⟨h1, h2⟩
              rw [ea] at h2
              rcases ‹¬ w.name = sHit ∨ ¬ (1 : Int) < (a : Int)› with h | h
              · exact h h1
              · omega
            refine At.loop_on ⟨k + 1, l2, r', ms, p2, c2, _, φ⟩ ⟨by dsimp only; omega, ?_, hB2, hl2l, hl2c, hdr, hu, hss, hso⟩ (by dsimp only; omega) (Le.permS (φ := ψ) (by repeat' (first | exact FLe.nil _ | refine FLe.cons rfl rfl ?_)) (by classical exact List.perm_iff_count.2 (fun _ => by first | (simp only [List.count_append, List.count_cons, List.count_nil, List.append_assoc, List.cons_append, List.nil_append]; omega))))
            refine he.trans ?_
            rw [refPG, if_pos hT, if_neg hle2, if_neg hnh, if_neg hm1, hr', hl2e]
    · have hj2 : k = 14 := by omega
      repeat' (first | refine KW.seq ?_ | refine KW.region ?_ | refine KO.nil ?_ | refine At.then_normal ?_ | refine KW.skip ?_ | refine KW.ret ?_ | refine At.then_ret ?_ | refine KW.block ?_ | refine KW.exit ?_ | refine KW.drawU rfl (by decide +kernel) ?_ | ((first | apply KO.val rfl rfl rfl ?kq ?_ | apply KD.val rfl rfl rfl ?kq ?_ ); (try (case ksub => (intro _ hp; first | exact hp | (cases hp; done) | (repeat (first | exact hp | apply List.mem_cons_of_mem | apply List.mem_append_right)) | (simp_all; done)))); (case kq => ((first | apply qt_ev rfl ?hi | ((first | apply qt_load1 rfl rfl ?hi rfl rfl ?hm ?hc | apply qt_loadN rfl rfl ?hi rfl rfl rfl ?hm ?hc); (case hm => repeat (first | exact List.Mem.head _ | apply List.Mem.tail _ )); (case hc => rfl)) | apply qt_build rfl rfl ?hi rfl ); (case hi => (intro h; (repeat' (first | with_reducible exact alln | with_reducible refine allc ?_ ?_ )); all_goals (first | with_reducible rfl )))))) | (apply KO.store (i := _) rfl rfl rfl rfl rfl rfl rfl rfl ?hl ?sg ?hw ?ho ?hs; (case sg => first | exact (rfl : getI 2 _ = _) | exact (rfl : getI 3 _ = _) ); (case hl => rfl); (case hw => rfl); (case ho => rfl); (case hs => rfl)) | (refine KW.cond rfl ?_ ?_ <;> (intro hc; try simp only [kBool] at hc)) | (exfalso; omega) | fail)
      · have htr := trivial
        ((first | apply At.done_ret ); (focus (repeat' (first | exact ResVs.nil' | apply ResVs.cons' | (apply ResV.cellN rfl ?hm rfl rfl rfl ?hc; (case hm => repeat (first | exact List.Mem.head _ | apply List.Mem.tail _ )); (case hc => rfl))))); dsimp only [resVal])
        refine ⟨[], List.nil_sublist _, ?_⟩
        unfold RParR
        rw [show rPar l = (some (sEnd, 12), zR, []) from by rw [he, hj2, show tolds.drop 14 = [] from rfl, refPG, if_pos (by omega)]]
        exact ⟨rfl, rfl⟩
      · have htr := trivial
        ((first | apply At.done_ret ); (focus (repeat' (first | exact ResVs.nil' | apply ResVs.cons' | (apply ResV.cellN rfl ?hm rfl rfl rfl ?hc; (case hm => repeat (first | exact List.Mem.head _ | apply List.Mem.tail _ )); (case hc => rfl))))); dsimp only [resVal])
        refine ⟨φ, List.Sublist.cons _ (List.Sublist.cons _ (List.Sublist.cons _ (List.Sublist.cons _ (List.Sublist.refl _)))), ?_⟩
        unfold RParR
        rw [show rPar l = (none, r, ms) from by rw [he, hj2, show tolds.drop 14 = [] from rfl, refPG, if_neg (by omega)]]
        exact ⟨_, hu, rfl⟩
end Go.Proofs.YtnaclkdjchnbpaaDoor
end
section
namespace Go.Proofs.YtnaclkdjchnbpaaDoor
open Go Go.K

theorem movT_65 (z : List Nat × Flt) (n : ByteArray) : (movT z n).2.length ≤ 65535 := by
  unfold movT
  dsimp only
  split
  · exact Nat.zero_le _
  · split
    · exact Nat.zero_le _
    · split
      · exact Nat.zero_le _
      · dsimp only; rw [List.length_take]; omega
theorem tellT_65 (r : Rs) (z : List Nat × Flt) : (tellT r z).2.2.length ≤ 65535 := by
  unfold tellT
  split
  · exact Nat.zero_le _
  · split
    · exact Nat.zero_le _
    · split
      · exact Nat.zero_le _
      · split
        · exact movT_65 _ _
        · split
          · exact Nat.zero_le _
          · exact Nat.zero_le _
theorem toldT_65 (z : List Nat × Flt) : (toldT z).2.2.length ≤ 65535 := by
  unfold toldT toldT2
  dsimp only
  split
  · exact Nat.zero_le _
  · split
    · exact Nat.zero_le _
    · split
      · exact Nat.zero_le _
      · split
        · exact tellT_65 _ _
        · exact Nat.zero_le _
theorem refPG_ne (has : RowT → Bool) : ∀ (ws : List RowT) (l : List Nat) (r : Rs) (ms : List Nat) (y : ByteArray × Int) (q : Rs) (ns : List Nat), refPG has ws l r ms = (some y, q, ns) → y.2 ≠ 0
  | [], l, r, ms, y, q, ns, h => by
    rw [refPG] at h
    split at h
    · simp only [Prod.mk.injEq, Option.some.injEq] at h; rw [← h.1]; decide
    · simp at h
  | w :: ws, l, r, ms, y, q, ns, h => by
    rw [refPG] at h
    split at h
    · split at h
      · simp only [Prod.mk.injEq, Option.some.injEq] at h; rw [← h.1]; show (17 : Int) ≠ 0; decide
      · split at h
        · simp only [Prod.mk.injEq, Option.some.injEq] at h; rw [← h.1]; decide
        · split at h
          · split at h
            · simp only [Prod.mk.injEq, Option.some.injEq] at h; rw [← h.1]; decide
            · split at h
              · simp only [Prod.mk.injEq, Option.some.injEq] at h; rw [← h.1]; decide
              · split at h
                · exact refPG_ne has ws _ _ _ y q ns h
                · simp only [Prod.mk.injEq, Option.some.injEq] at h; rw [← h.1]; decide
          · exact refPG_ne has ws _ _ _ y q ns h
    · exact refPG_ne has ws _ _ _ y q ns h
theorem rPar_ne {l : List Nat} {y : ByteArray × Int} {q : Rs} {ns : List Nat} (h : rPar l = (some y, q, ns)) : y.2 ≠ 0 := by
  unfold rPar at h
  split at h
  · simp only [Prod.mk.injEq, Option.some.injEq] at h; rw [← h.1]; decide
  · split at h
    · simp only [Prod.mk.injEq, Option.some.injEq] at h; rw [← h.1]; decide
    · split at h
      · rename_i h2
        simp only [Prod.mk.injEq, Option.some.injEq] at h; rw [← h.1]; exact h2
      · exact refPG_ne _ _ _ _ _ _ _ _ h
set_option maxHeartbeats 8000000 in
theorem MsgParses_p (β : Nat → Option Obj) (ht : TB β) (m c : Nat) (l : List Nat) (p : Option Addr) (hl : l.length = m) (hB : Byt l) (hv : SL β [] 1 m (by8 l) p) (hpc : p = none → c = 0 ∧ m = 0) (hmc : m ≤ c) : Go.K.PureB Tryd.prog 9 #[.slice p m c] β (.bool true) := by
  refine Tr.pureB (Tr.of_body Tryd.tt (args := [.slice p m c]) (fr := [(0, true, .slice p m c)]) Tryd.func9 rfl (by decide) rfl Tryd.ntmps9 rfl rfl ?_)
  intro E hE
  subst hE
  have hsame := par_same l hB
  rw [par_F] at hsame
  by_cases hbig : 600 < m
  · have htr := trivial
    repeat' (first | refine KW.seq ?_ | refine KW.region ?_ | refine KO.nil ?_ | refine At.then_normal ?_ | refine KW.skip ?_ | refine KW.ret ?_ | refine At.then_ret ?_ | ((first | apply KO.val rfl rfl rfl ?kq ?_ ); (case kq => ((first | apply qt_ev rfl ?hi | refine qt_callQ rfl rfl ?hi (fun hg => Tr.quiet (awakeW_p _)) ); (case hi => (intro h; (repeat' (first | with_reducible exact alln | with_reducible refine allc ?_ ?_ )); all_goals (first | with_reducible rfl )))))) | (refine KW.cond rfl ?_ ?_ <;> (intro hc; try simp only [kBool] at hc)) | (exfalso; omega) | fail)
    ((first | apply At.done_ret ); (focus (repeat' (first | exact ResVs.nil' | apply ResVs.cons' | exact ResV.tmp' rfl ))); dsimp only [resVal])
  have hA := Parse_p E.β ht m c l p hl hB hv hpc (by omega)
  have hC := rParse_p E.β m c l p hl hB hmc hv (by omega)
  have h65 := toldT_65 (l, none)
  have htr := trivial
  repeat' (first | refine KW.seq ?_ | refine KW.region ?_ | refine KO.nil ?_ | refine At.then_normal ?_ | refine KW.skip ?_ | ((first | apply KO.val rfl rfl rfl ?kq ?_ ); (case kq => ((first | apply qt_ev rfl ?hi ); (case hi => (intro h; (repeat' (first | with_reducible exact alln | with_reducible refine allc ?_ ?_ )); all_goals (first | with_reducible rfl )))))) | (refine KW.cond rfl ?_ ?_ <;> (intro hc; try simp only [kBool] at hc)) | (exfalso; omega) | fail)
  refine KO.callF [] [] (by classical exact List.perm_iff_count.2 (fun _ => by first | (simp only [List.count_append, List.count_cons, List.count_nil, List.append_assoc, List.cons_append, List.nil_append]; done) )) rfl rfl rfl rfl rfl rfl rfl hA ?_
  intro v σ1 h1
  unfold ParR at h1
  unfold RParR at hC
  rcases hF : parF l with _ | y
  · rw [hF] at h1 hsame
    dsimp only at hsame
    rw [← hsame] at hC
    obtain ⟨mv, ⟨pm, cm, rfl, hsl, hpcm, hlcm⟩, rfl⟩ := h1
    dsimp only at hC
    generalize (toldT (l, none)).2.1 = r at hC ⊢
    generalize (toldT (l, none)).2.2 = ms at hC hsl hpcm hlcm h65 ⊢
    have hP := toldL_p E.β { r with mv := .slice pm ms.length cm } pm ms.length cm rfl
    dsimp only [Rs.cells] at hC hP ⊢
    repeat' (first | refine KW.seq ?_ | refine KW.region ?_ | refine KO.nil ?_ | ((first | apply KO.val rfl rfl rfl ?kq ?_ ); (case kq => ((first | apply qt_ev rfl ?hi ); (case hi => (intro h; (repeat' (first | with_reducible exact alln | with_reducible refine allc ?_ ?_ )); all_goals (first | with_reducible rfl )))))) | (refine KO.alloc rfl rfl rfl rfl rfl rfl ?_; intro _ _) | (apply KO.store (i := _) rfl rfl rfl rfl rfl rfl rfl rfl ?hl ?sg ?hw ?ho ?hs; (case sg => first | exact (rfl : getI 0 _ = _) ); (case hl => rfl); (case hw => rfl); (case ho => rfl); (case hs => rfl)) | fail)
    rename_i br _
    refine KO.callF [] ((br, cl [.int .i64 r.st, .int .i64 r.op, .int .u64 (r.tok : Int), .int .i64 r.unit, .int .i64 r.ax, .int .i64 r.ay, .int .i64 r.new, .int .i64 r.expl, .int .i64 r.ver, .bool r.hit, .int .u64 (r.cost : Int), .int .i64 r.settled, .int .i64 r.left, (.slice pm ms.length cm), .int .i64 r.units, .int .i64 r.cache, .int .i64 r.sess] 44) :: σ1) (by classical exact List.perm_iff_count.2 (fun _ => by first | (simp only [List.count_append, List.count_cons, List.count_nil, List.append_assoc, List.cons_append, List.nil_append]; omega))) rfl rfl rfl rfl rfl rfl rfl hC ?_
    rintro v2 σ2 ⟨u, hu, rfl⟩
    obtain ⟨pu, cu, rfl⟩ := hu.len
    have hO := fun (σ : Heap) (h1 : ∀ q ∈ σ1, q ∈ σ) (h2 : ∀ q ∈ σ2, q ∈ σ) => one_p E.β σ { r with mv := .slice pm ms.length cm } { r with mv := .slice pu ms.length cu } ms ms pm pu cm cu ms.length ms.length rfl rfl rfl rfl (hsl.mono h1) (SL.ofVec hu h2) (by omega)
    simp only [decide_true] at hO
    have heq : ({ r with mv := .slice pm ms.length cm } : Rs).eqC { r with mv := .slice pu ms.length cu } true = true := by
      unfold Rs.eqC
      simp
    rw [heq] at hO
    dsimp only [Rs.cells] at hO
    repeat' (first | refine KW.seq ?_ | refine KO.nil ?_ | refine At.then_normal ?_ | refine KW.ret ?_ | refine KW.drawU rfl (by decide +kernel) ?_ | refine KD.zero ?_ | ((first | apply KO.val rfl rfl rfl ?kq ?_ | apply KD.val rfl rfl rfl ?kq ?_ ); (case kq => ((first | apply qt_ev rfl ?hi | ((first | apply qt_loadN rfl rfl ?hi rfl rfl rfl ?hm ?hc); (case hm => repeat (first | exact List.Mem.head _ | apply List.Mem.tail _ | apply List.mem_append_right _)); (case hc => rfl)) | refine qt_callQ rfl rfl ?hi (fun hg => Tr.quiet (isOk_p _ _ _)) | refine qt_callQ rfl rfl ?hi (fun hg => Tr.quiet hP) | refine qt_callQ rfl rfl ?hi (fun hg => hO _ (by intro q hq; simp [hq]) (by intro q hq; simp [hq])) | refine qt_callQ rfl rfl ?hi (fun hg => Tr.quiet (awakeW_p _)) | apply qt_pick_t rfl rfl (by first | with_reducible rfl ) rfl ?hi ); (case hi => (intro h; (repeat' (first | with_reducible exact alln | with_reducible refine allc ?_ ?_ | with_reducible refine andi ?_ ?_)); all_goals (first | with_reducible rfl )))))) | (refine KO.alloc rfl rfl rfl rfl rfl rfl ?_; intro _ _) | (apply KO.store (i := _) rfl rfl rfl rfl rfl rfl rfl rfl ?hl ?sg ?hw ?ho ?hs; (case sg => first | exact (rfl : getI 0 _ = _) | exact (rfl : getI 1 _ = _) ); (case hl => rfl); (case hw => rfl); (case ho => rfl); (case hs => rfl)) | fail)
    ((first | apply At.done_ret ); (focus (repeat' (first | exact ResVs.nil' | apply ResVs.cons' | exact ResV.tmp' rfl ))); dsimp only [resVal])
  · rw [hF] at h1 hsame
    dsimp only at hsame
    rw [← hsame] at hC
    obtain ⟨e1, e2, rfl, rfl⟩ := h1
    have hy : y.2 ≠ 0 := rPar_ne hsame.symm
    have hP := toldL_p E.β zR none 0 0 rfl
    dsimp only [Rs.cells, zR] at hC hP ⊢
    repeat' (first | refine KW.seq ?_ | refine KW.region ?_ | refine KO.nil ?_ | ((first | apply KO.val rfl rfl rfl ?kq ?_ ); (case kq => ((first | apply qt_ev rfl ?hi ); (case hi => (intro h; (repeat' (first | with_reducible exact alln | with_reducible refine allc ?_ ?_ )); all_goals (first | with_reducible rfl )))))) | (refine KO.alloc rfl rfl rfl rfl rfl rfl ?_; intro _ _) | (apply KO.store (i := _) rfl rfl rfl rfl rfl rfl rfl rfl ?hl ?sg ?hw ?ho ?hs; (case sg => first | exact (rfl : getI 0 _ = _) ); (case hl => rfl); (case hw => rfl); (case ho => rfl); (case hs => rfl)) | fail)
    rename_i br _
    refine KO.callF [] ((br, cl [.int .i64 0, .int .i64 0, .int .u64 ((0 : Nat) : Int), .int .i64 0, .int .i64 0, .int .i64 0, .int .i64 0, .int .i64 0, .int .i64 0, .bool false, .int .u64 ((0 : Nat) : Int), .int .i64 0, .int .i64 0, .slice none 0 0, .int .i64 0, .int .i64 0, .int .i64 0] 44) :: [(e1, cl [.string sRes, .iface 100 (.pointer (some ⟨e2, 0, none⟩))] 108), (e2, cl [.string y.1, .iface 32 (.int .i64 y.2)] 108)]) (by classical exact List.perm_iff_count.2 (fun _ => by first | (simp only [List.count_append, List.count_cons, List.count_nil, List.append_assoc, List.cons_append, List.nil_append]; done) )) rfl rfl rfl rfl rfl rfl rfl hC ?_
    rintro _ _ ⟨rfl, rfl⟩
    have hO := fun (σ : Heap) => one_p E.β σ zR zR [] [] none none 0 0 0 0 rfl rfl rfl rfl (SL.nil8 _ _) (SL.nil8 _ _) (by omega)
    simp only [decide_true, Rs.eqC_self] at hO
    dsimp only [Rs.cells, zR] at hO
    have hIs := fun σ (m1 : (e1, cl [.string sRes, .iface 100 (.pointer (some ⟨e2, 0, none⟩))] 108) ∈ σ) (m2 : (e2, cl [.string y.1, .iface 32 (.int .i64 y.2)] 108) ∈ σ) => isBadT_p E.β σ ht e1 e2 sRes y.1 y.2 hy ⟨.inl ⟨_, _, m1, rfl⟩, .inl ⟨_, _, m1, rfl⟩, .inl ⟨_, _, m2, rfl⟩, .inl ⟨_, _, m2, rfl⟩, trivial⟩
    repeat' (first | refine KW.seq ?_ | refine KO.nil ?_ | refine At.then_normal ?_ | refine KW.ret ?_ | refine KW.drawU rfl (by decide +kernel) ?_ | refine KD.zero ?_ | ((first | apply KO.val rfl rfl rfl ?kq ?_ | apply KD.val rfl rfl rfl ?kq ?_ ); (case kq => ((first | apply qt_ev rfl ?hi | ((first | apply qt_loadN rfl rfl ?hi rfl rfl rfl ?hm ?hc); (case hm => repeat (first | exact List.Mem.head _ | apply List.Mem.tail _ )); (case hc => rfl)) | refine qt_callQ rfl rfl ?hi (fun hg => hIs _ (by simp) (by simp)) | refine qt_callQ rfl rfl ?hi (fun hg => Tr.quiet hP) | refine qt_callQ rfl rfl ?hi (fun hg => hO _) | refine qt_callQ rfl rfl ?hi (fun hg => Tr.quiet (awakeW_p _)) | apply qt_pick_t rfl rfl (by first | with_reducible rfl ) rfl ?hi ); (case hi => (intro h; (repeat' (first | with_reducible exact alln | with_reducible refine allc ?_ ?_ | with_reducible refine andi ?_ ?_)); all_goals (first | with_reducible rfl )))))) | (refine KO.alloc rfl rfl rfl rfl rfl rfl ?_; intro _ _) | (apply KO.store (i := _) rfl rfl rfl rfl rfl rfl rfl rfl ?hl ?sg ?hw ?ho ?hs; (case sg => first | exact (rfl : getI 0 _ = _) | exact (rfl : getI 1 _ = _) ); (case hl => rfl); (case hw => rfl); (case ho => rfl); (case hs => rfl)) | fail)
    ((first | apply At.done_ret ); (focus (repeat' (first | exact ResVs.nil' | apply ResVs.cons' | exact ResV.tmp' rfl ))); dsimp only [resVal])
theorem MsgParses_c (β : Nat → Option Obj) (ht : TB β) (vs : List Value) (hrd : RdVs Tryd.prog β [27] vs) : Go.K.PureB Tryd.prog 9 vs.toArray β (.bool true) := by
  obtain ⟨va0, vr0, rfl, ha0, hrd⟩ := hrd.cons
  obtain rfl := hrd.nil
  have hq0 := rdV_one ha0 (by kernel_rfl)
  obtain ⟨b_p, b_m, b_c, b, rfl, hb_b⟩ := rd_bytes Tryd.underlying27 Tryd.underlying5 (by kernel_rfl) (by kernel_rfl) (by kernel_rfl) hq0
  exact MsgParses_p β ht b_m b_c b b_p hb_b.len hb_b.byt hb_b.sl hb_b.none hb_b.cap
set_option maxRecDepth 100000 in
theorem MsgParses_lifted (os : Os) (started : os.Started) (H : Type) (enc : TypeId × Value → H) :
    ReturnsInHanded {} Tryd.checked os 9 .any (fun w args => (Rows.msgParsesSpec.pre enc Tryd.prog Tryd.f9 [] false w args ∧ laidMetH Tryd.prog laidL w) ∧ sizedMet enc Tryd.prog Tryd.f9 (OpenSpec.ofChange Rows.msgParsesSpec) false w args) (Rows.msgParsesSpec.post enc Tryd.prog Tryd.f9 false true false false) :=
  law_liftL (C := Tryd.checked) (laid := laidL) (Tb := TB) Tryd.own started (by kernel_rfl) Tryd.func9
    (ChangeSpec.witness_shaped (enc := enc) (C := Tryd.checked) (os := os) (X := fun w _ => laidMetH Tryd.prog laidL w) false (World.doorLaid Tryd.prog 400 os) #[.slice none 0 0] 8 rfl (World.shaped_of_RefB (by kernel_rfl) (by kernel_rfl)) (by kernel_rfl) (by kernel_rfl) (by kernel_rfl) (door_met os _))
    Tryd.laidOut rfl (by kernel_rfl) (by kernel_rfl) rfl Tryd.underlying4
    (fun ds h => by
      have h' : ds.length = 1 := h
      match ds, h' with
      | [_], _ => rfl)
    tb_of (fun β vs h ht => MsgParses_c β ht vs h)

theorem MsgParses_holds : Rows.MsgParsesSaid :=
  OpenClaim.holds_of_wide 9 Tryd.f9 rfl rfl rfl rfl rfl rfl rfl ⟨rfl, rfl, rfl, rfl, rfl⟩ rfl rfl rfl rfl rfl (by kernel_rfl) Tryd.func9 (by kernel_rfl)
    (of_decide_eq_true (by kernel_rfl)) (by unfold Func.isWrapper; first | (rw [if_neg (by decide +kernel)]; exact ⟨rfl, rfl⟩))
    (fun os started H enc _ => MsgParses_lifted os started H enc)
theorem MsgParses_card : Rows.MsgParsesCardSaid :=
  Claim7.holds_tied_plain_at .later [] [.handle] true (true, "9b5da6f2840a215d410c8f54959855c8ec1c8453c8fb6315fb33309d85292c9f") true
    MsgParses_holds (fun _ h => by cases h) (by kernel_rfl) (fun _ h => by cases h) msgParses_row_tie rfl ⟨rfl, rfl⟩ (by kernel_rfl) rfl
    (fun f fn hf hfn => by
      obtain rfl : f = 9 := Option.some.inj ((show Tryd.prog.funcNamed "gloaming/gloaminglaw20.MsgParses" = some 9 by kernel_rfl).symm.trans hf) |>.symm
      obtain rfl : fn = Tryd.f9 := (Option.some.inj (Tryd.func9.symm.trans hfn)).symm
      refine ⟨by kernel_rfl, fun j t ht => ?_⟩
      rw [Tryd.params9] at ht
      have hall : ([27].all fun t => !Tryd.prog.wantsStandIn t) = true := by kernel_rfl
      have hm : t ∈ [27] := by have := Array.mem_of_getElem? ht; simpa using this
      have := List.all_eq_true.1 hall t hm
      have h5 : Tryd.prog.wantsStandIn t = false := by simpa using this
      exact h5)
    (by kernel_rfl)
end Go.Proofs.YtnaclkdjchnbpaaDoor
end

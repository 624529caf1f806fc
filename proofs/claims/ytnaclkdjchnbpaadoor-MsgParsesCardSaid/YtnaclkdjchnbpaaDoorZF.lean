/- Part 6 of the texts: msg.Parse; That the program's response of a payload is the document's, ; The document's request of a payload, row by row -/
import Derived.Test.YtnaclkdjchnbpaaDoorZE
section
namespace Go.Proofs.YtnaclkdjchnbpaaDoor
open Go Go.K

def parF (l : List Nat) : Flt := if 0 < (toldT (l, none)).1.1.length then note (toldT (l, none)).1.2 sEnd 12 else (toldT (l, none)).1.2
def ParR (β : Nat → Option Obj) (l : List Nat) (v : Value) (σ : Heap) : Prop := match parF l with
  | some y => ∃ e1 e2, v = .tuple #[.agg zR.cells.toArray, .iface 100 (.pointer (some ⟨e1, 0, none⟩))] ∧ σ = [(e1, cl [.string sRes, .iface 100 (.pointer (some ⟨e2, 0, none⟩))] 108), (e2, cl [.string y.1, .iface 32 (.int .i64 y.2)] 108)]
  | none => ∃ mv, MvR β mv (toldT (l, none)).2.2 σ ∧ v = .tuple #[.agg { (toldT (l, none)).2.1 with mv := mv }.cells.toArray, .nilIface]
theorem endP_p (β : Nat → Option Obj) (bf n : Nat) (md : Md) (y : Flt) (σ : Heap) (hf : FormB β bf sRes md y σ) {rest : Bool} (hb : rest = decide (0 < n)) :
    Go.K.Tr Tryd.prog 30 [.pointer (some ⟨bf, 0, none⟩), .bool rest, .int .i64 12] β σ (fun v σ' => ∃ wv rv dv ev φ ε, FormH β bf md wv rv dv φ ∧ EV sRes (if 0 < n then note y sEnd 12 else y) ev ε ∧ v = ev ∧ σ' = (bf, cl [.string sRes, wv, rv, dv, ev] 80) :: (ε ++ φ)) := by
  subst hb
  refine (end_p β bf sRes md y σ hf _ 12).mono ?_
  simp only [decide_eq_true_eq]
  exact fun v s h => h
theorem MvR.slice {β : Nat → Option Obj} {mv : Value} {ms : List Nat} {μ : Heap} (h : MvR β mv ms μ) : ∃ p n c, mv = .slice p n c := by
  obtain ⟨p, c, e, _⟩ := h
  exact ⟨p, _, c, e⟩
set_option maxHeartbeats 16000000 in
theorem Parse_p (β : Nat → Option Obj) (ht : TBE β) (m c : Nat) (l : List Nat) (p : Option Addr) (hl : l.length = m) (hB : Byt l) (hv : SL β [] 1 m (by8 l) p) (hpc : p = none → c = 0 ∧ m = 0) (hm : m ≤ 900000) :
    Go.K.Tr Tryd.prog 21 [.slice p m c] β [] (fun v σ' => ParR β l v σ') := by
  refine Tr.sub ?_
  refine Tr.of_body Tryd.tt (args := [.slice p m c]) (fr := [(0, true, .slice p m c)]) Tryd.func21 rfl (by decide) rfl Tryd.ntmps21 rfl rfl ?_
  intro E hE
  subst hE
  repeat' (first | refine KW.seq ?_ | refine KW.region ?_ | refine KO.nil ?_ | refine At.then_normal ?_ | refine KW.skip ?_ | refine KW.ret ?_ | refine At.then_ret ?_ | refine KW.block ?_ | refine KW.exit ?_ | refine At.block_normal ?_ | refine At.block_ret ?_ | refine At.loop_ret ?_ | refine At.then_exit ?_ | refine At.block_here rfl ?_ | refine At.block_there rfl ?_ | refine At.loop_exit ?_ | refine At.cut_ret ?_ | refine At.cutA_ret ?_ | refine At.cutA_exit ?_ | refine At.cut_exit ?_ | (refine At.cut_same ?_; repeat' (first | exact FLe.nil _ | refine FLe.cons rfl rfl ?_)) | refine KW.cond_t rfl (by first | with_reducible rfl | decide) ?_ | refine KW.cond_f rfl (by first | with_reducible rfl | decide) ?_ | refine KW.scope ?_ | refine KW.label ?_ | refine At.scope_normal ?_ | refine At.scope_ret ?_ | refine At.scope_exit ?_ | refine KW.drawM (id := 7) [0, 1, 1, 3] [] (by decide +kernel) rfl rfl rfl ?_ | refine KDH.mid2 ?_ | refine KDH.mid3 ?_ | refine KDH.done ?_ | refine KDM.head0 ?_ | refine KDM.head1 ?_ | refine KDM.fin ?_ | refine KDH.skip0' rfl (by first | with_reducible rfl | decide) rfl rfl ?_ | refine KDH.skip1' rfl (by first | with_reducible rfl | decide) rfl rfl ?_ | (refine KDM.eo30 rfl rfl (eo_store (i := _) rfl rfl rfl rfl rfl rfl rfl ?sg ?sw ?so ?ss) ?_; (case sg => first | exact (rfl : getI 0 _ = _) | exact (rfl : getI 1 _ = _) | exact (rfl : getI 2 _ = _) | exact (rfl : getI 3 _ = _) | exact (rfl : getI 4 _ = _) | exact (rfl : getI 5 _ = _) | exact (rfl : getI 6 _ = _) | exact (rfl : getI 7 _ = _)); (case sw => rfl); (case so => rfl); (case ss => rfl); rintro _ _ rfl; refine ⟨?sub, ?_⟩; (case sub => (intro _ hp; first | exact hp | (cases hp; done) | (repeat (first | exact hp | apply List.mem_cons_of_mem | apply List.mem_append_right)) | (simp_all; done)))) | refine KW.draw 0 (by decide +kernel) ?_ | refine KW.drawU rfl (by decide +kernel) ?_ | refine KD.zero ?_ | ((first | apply KO.val rfl rfl rfl ?kq ?_ | apply KD.val rfl rfl rfl ?kq ?_ | apply KDH.val0 rfl rfl rfl ?kq ?_ | apply KDH.val1 rfl rfl rfl ?kq ?_ | apply KDH.valIn0 rfl rfl rfl ?kq ?_ | apply KDH.valIn1 rfl rfl rfl ?kq ?_ | apply KDM.q2f rfl rfl rfl ?kq ?ksub ?_ | apply KDM.q2t rfl rfl rfl ?kq ?ksub ?_); (try (case ksub => (intro _ hp; first | exact hp | (cases hp; done) | (repeat (first | exact hp | apply List.mem_cons_of_mem | apply List.mem_append_right)) | (simp_all; done)))); (case kq => ((first | apply qt_ev rfl ?hi | ((first | apply qt_load1 rfl rfl ?hi rfl rfl ?hm ?hc | apply qt_loadN rfl rfl ?hi rfl rfl rfl ?hm ?hc); (case hm => repeat (first | exact List.Mem.head _ | apply List.Mem.tail _ | apply List.mem_append_right _)); (case hc => rfl)) | apply qt_cap rfl rfl ?hi rfl | apply qt_build rfl rfl ?hi rfl | apply qt_eqs rfl rfl rfl ?hi rfl (Or.inl rfl) | apply qt_nes rfl rfl rfl ?hi rfl (Or.inl rfl) | apply qt_eqs rfl rfl rfl ?hi rfl (Or.inr ⟨rfl, rfl, rfl⟩) | apply qt_nes rfl rfl rfl ?hi rfl (Or.inr ⟨rfl, rfl, rfl⟩)); (case hi => (intro h; (repeat' (first | with_reducible exact alln | with_reducible refine allc ?_ ?_ | with_reducible refine andi ?_ ?_)); all_goals (first | with_reducible rfl | with_reducible exact h | with_reducible exact andl h | with_reducible exact andr h | with_reducible exact andl (andl h) | (simp only [h, Bool.and_self]; done) | (simp [h]; done) | (simp_all; done))))))) | (refine KO.alloc rfl rfl rfl rfl rfl rfl ?_; intro _ _) | (apply KO.store (i := _) rfl rfl rfl rfl rfl rfl rfl rfl ?hl ?sg ?hw ?ho ?hs; (case sg => first | exact (rfl : getI 0 _ = _) | exact (rfl : getI 1 _ = _) | exact (rfl : getI 2 _ = _) | exact (rfl : getI 3 _ = _) | exact (rfl : getI 4 _ = _) | exact (rfl : getI 5 _ = _) | exact (rfl : getI 6 _ = _) | exact (rfl : getI 7 _ = _)); (case hl => rfl); (case hw => rfl); (case ho => rfl); (case hs => rfl)) | (refine KW.cond rfl ?_ ?_ <;> (intro hc; try simp only [kBool] at hc)) | exact absurd trivial ‹¬True› | fail)
  rename_i b2 _ b4 _
  refine KO.callF [] [(b4, cl [.int .i64 0, .int .i64 0, .int .u64 0, .int .i64 0, .int .i64 0, .int .i64 0, .int .i64 0, .int .i64 0, .int .i64 0, .bool false, .int .u64 0, .int .i64 0, .int .i64 0, .slice none 0 0, .int .i64 0, .int .i64 0, .int .i64 0] 44), (b2, cl [.int .i64 0, .int .i64 0, .int .u64 0, .int .i64 0, .int .i64 0, .int .i64 0, .int .i64 0, .int .i64 0, .int .i64 0, .bool false, .int .u64 0, .int .i64 0, .int .i64 0, .slice none 0 0, .int .i64 0, .int .i64 0, .int .i64 0] 44)] (by classical exact List.perm_iff_count.2 (fun _ => by first | (simp only [List.count_append, List.count_cons, List.count_nil, List.append_assoc, List.cons_append, List.nil_append]; done) | (simp only [List.count_append, List.count_cons, List.count_nil, List.append_assoc, List.cons_append, List.nil_append]; omega))) rfl rfl rfl rfl rfl rfl rfl (reads_p _ sRes m c l p hl hB hv hpc (by omega)) ?_
  rintro _ s ⟨bf, rfl, hf⟩
  repeat' (first | refine KW.seq ?_ | refine KW.region ?_ | refine KO.nil ?_ | refine At.then_normal ?_ | refine KW.skip ?_ | refine KW.ret ?_ | refine At.then_ret ?_ | refine KW.block ?_ | refine KW.exit ?_ | refine At.block_normal ?_ | refine At.block_ret ?_ | refine At.loop_ret ?_ | refine At.then_exit ?_ | refine At.block_here rfl ?_ | refine At.block_there rfl ?_ | refine At.loop_exit ?_ | refine At.cut_ret ?_ | refine At.cutA_ret ?_ | refine At.cutA_exit ?_ | refine At.cut_exit ?_ | (refine At.cut_same ?_; repeat' (first | exact FLe.nil _ | refine FLe.cons rfl rfl ?_)) | refine KW.cond_t rfl (by first | with_reducible rfl | decide) ?_ | refine KW.cond_f rfl (by first | with_reducible rfl | decide) ?_ | refine KW.scope ?_ | refine KW.label ?_ | refine At.scope_normal ?_ | refine At.scope_ret ?_ | refine At.scope_exit ?_ | refine KW.drawM (id := 7) [0, 1, 1, 3] [] (by decide +kernel) rfl rfl rfl ?_ | refine KDH.mid2 ?_ | refine KDH.mid3 ?_ | refine KDH.done ?_ | refine KDM.head0 ?_ | refine KDM.head1 ?_ | refine KDM.fin ?_ | refine KDH.skip0' rfl (by first | with_reducible rfl | decide) rfl rfl ?_ | refine KDH.skip1' rfl (by first | with_reducible rfl | decide) rfl rfl ?_ | (refine KDM.eo30 rfl rfl (eo_store (i := _) rfl rfl rfl rfl rfl rfl rfl ?sg ?sw ?so ?ss) ?_; (case sg => first | exact (rfl : getI 0 _ = _) | exact (rfl : getI 1 _ = _) | exact (rfl : getI 2 _ = _) | exact (rfl : getI 3 _ = _) | exact (rfl : getI 4 _ = _) | exact (rfl : getI 5 _ = _) | exact (rfl : getI 6 _ = _) | exact (rfl : getI 7 _ = _)); (case sw => rfl); (case so => rfl); (case ss => rfl); rintro _ _ rfl; refine ⟨?sub, ?_⟩; (case sub => (intro _ hp; first | exact hp | (cases hp; done) | (repeat (first | exact hp | apply List.mem_cons_of_mem | apply List.mem_append_right)) | (simp_all; done)))) | refine KW.draw 0 (by decide +kernel) ?_ | refine KW.drawU rfl (by decide +kernel) ?_ | refine KD.zero ?_ | ((first | apply KO.val rfl rfl rfl ?kq ?_ | apply KD.val rfl rfl rfl ?kq ?_ | apply KDH.val0 rfl rfl rfl ?kq ?_ | apply KDH.val1 rfl rfl rfl ?kq ?_ | apply KDH.valIn0 rfl rfl rfl ?kq ?_ | apply KDH.valIn1 rfl rfl rfl ?kq ?_ | apply KDM.q2f rfl rfl rfl ?kq ?ksub ?_ | apply KDM.q2t rfl rfl rfl ?kq ?ksub ?_); (try (case ksub => (intro _ hp; first | exact hp | (cases hp; done) | (repeat (first | exact hp | apply List.mem_cons_of_mem | apply List.mem_append_right)) | (simp_all; done)))); (case kq => ((first | apply qt_ev rfl ?hi | ((first | apply qt_load1 rfl rfl ?hi rfl rfl ?hm ?hc | apply qt_loadN rfl rfl ?hi rfl rfl rfl ?hm ?hc); (case hm => repeat (first | exact List.Mem.head _ | apply List.Mem.tail _ | apply List.mem_append_right _)); (case hc => rfl)) | apply qt_cap rfl rfl ?hi rfl | apply qt_build rfl rfl ?hi rfl | apply qt_eqs rfl rfl rfl ?hi rfl (Or.inl rfl) | apply qt_nes rfl rfl rfl ?hi rfl (Or.inl rfl) | apply qt_eqs rfl rfl rfl ?hi rfl (Or.inr ⟨rfl, rfl, rfl⟩) | apply qt_nes rfl rfl rfl ?hi rfl (Or.inr ⟨rfl, rfl, rfl⟩)); (case hi => (intro h; (repeat' (first | with_reducible exact alln | with_reducible refine allc ?_ ?_ | with_reducible refine andi ?_ ?_)); all_goals (first | with_reducible rfl | with_reducible exact h | with_reducible exact andl h | with_reducible exact andr h | with_reducible exact andl (andl h) | (simp only [h, Bool.and_self]; done) | (simp [h]; done) | (simp_all; done))))))) | (refine KO.alloc rfl rfl rfl rfl rfl rfl ?_; intro _ _) | (apply KO.store (i := _) rfl rfl rfl rfl rfl rfl rfl rfl ?hl ?sg ?hw ?ho ?hs; (case sg => first | exact (rfl : getI 0 _ = _) | exact (rfl : getI 1 _ = _) | exact (rfl : getI 2 _ = _) | exact (rfl : getI 3 _ = _) | exact (rfl : getI 4 _ = _) | exact (rfl : getI 5 _ = _) | exact (rfl : getI 6 _ = _) | exact (rfl : getI 7 _ = _)); (case hl => rfl); (case hw => rfl); (case ho => rfl); (case hs => rfl)) | (refine KW.cond rfl ?_ ?_ <;> (intro hc; try simp only [kBool] at hc)) | exact absurd trivial ‹¬True› | fail)
  refine KO.callF ((b4, cl [.int .i64 0, .int .i64 0, .int .u64 0, .int .i64 0, .int .i64 0, .int .i64 0, .int .i64 0, .int .i64 0, .int .i64 0, .bool false, .int .u64 0, .int .i64 0, .int .i64 0, .slice none 0 0, .int .i64 0, .int .i64 0, .int .i64 0] 44) :: s) [(b2, cl [.int .i64 0, .int .i64 0, .int .u64 0, .int .i64 0, .int .i64 0, .int .i64 0, .int .i64 0, .int .i64 0, .int .i64 0, .bool false, .int .u64 0, .int .i64 0, .int .i64 0, .slice none 0 0, .int .i64 0, .int .i64 0, .int .i64 0] 44)] (by classical exact List.perm_iff_count.2 (fun _ => by first | (simp only [List.count_append, List.count_cons, List.count_nil, List.append_assoc, List.cons_append, List.nil_append]; done) | (simp only [List.count_append, List.count_cons, List.count_nil, List.append_assoc, List.cons_append, List.nil_append]; omega))) rfl rfl rfl rfl rfl rfl rfl (toldT_p _ bf b4 sRes (z := (l, none)) ⟨hf, by dsimp only; omega⟩ hB) ?_
  rintro _ _ ⟨s2, μ, mv, hs2, hmv, rfl⟩
  have hpf : parF l = if 0 < (toldT (l, none)).1.1.length then note (toldT (l, none)).1.2 sEnd 12 else (toldT (l, none)).1.2 := rfl
  have hPR : ∀ v σ, ParR E.β l v σ = (match parF l with
    | some y => ∃ e1 e2, v = .tuple #[.agg zR.cells.toArray, .iface 100 (.pointer (some ⟨e1, 0, none⟩))] ∧ σ = [(e1, cl [.string sRes, .iface 100 (.pointer (some ⟨e2, 0, none⟩))] 108), (e2, cl [.string y.1, .iface 32 (.int .i64 y.2)] 108)]
    | none => ∃ mv, MvR E.β mv (toldT (l, none)).2.2 σ ∧ v = .tuple #[.agg { (toldT (l, none)).2.1 with mv := mv }.cells.toArray, .nilIface]) := fun _ _ => rfl
  rcases hT : toldT (l, none) with ⟨⟨l', y⟩, r, ms⟩
  rw [hT] at hs2 hmv hpf hPR
  dsimp only at hs2 hmv hpf hPR ⊢
  obtain ⟨⟨wv, rv, dv, ev, φ, ε, hF, hE, rfl⟩, hb⟩ := hs2
  dsimp only at hb
  have hF2 := hF
  obtain ⟨rfl, rfl, br, p', c', ψ, rfl, rfl, hB', hlc, hpc', hs'⟩ := hF
  obtain ⟨pm, nm, cm, rfl⟩ := hmv.slice
  dsimp only [Rs.cells]
  refine KO.perm (σ' := (bf, cl [.string sRes, .slice none 0 0, .pointer (some ⟨br, 0, none⟩), .func (.func (Md.take l').fn) #[.pointer (some ⟨bf, 0, none⟩)] #[], ev] 80) :: ((b4, cl [.int .i64 r.st, .int .i64 r.op, .int .u64 (r.tok : Int), .int .i64 r.unit, .int .i64 r.ax, .int .i64 r.ay, .int .i64 r.new, .int .i64 r.expl, .int .i64 r.ver, .bool r.hit, .int .u64 (r.cost : Int), .int .i64 r.settled, .int .i64 r.left, (.slice pm nm cm), .int .i64 r.units, .int .i64 r.cache, .int .i64 r.sess] 44) :: ((b2, cl [.int .i64 0, .int .i64 0, .int .u64 0, .int .i64 0, .int .i64 0, .int .i64 0, .int .i64 0, .int .i64 0, .int .i64 0, .bool false, .int .u64 0, .int .i64 0, .int .i64 0, .slice none 0 0, .int .i64 0, .int .i64 0, .int .i64 0] 44) :: ((br, cl [.slice p' l'.length c'] 126) :: (ε ++ (ψ ++ μ)))))) ?_ ?_
  · show List.Perm ((b4, cl [.int .i64 r.st, .int .i64 r.op, .int .u64 (r.tok : Int), .int .i64 r.unit, .int .i64 r.ax, .int .i64 r.ay, .int .i64 r.new, .int .i64 r.expl, .int .i64 r.ver, .bool r.hit, .int .u64 (r.cost : Int), .int .i64 r.settled, .int .i64 r.left, (.slice pm nm cm), .int .i64 r.units, .int .i64 r.cache, .int .i64 r.sess] 44) :: (((bf, cl [.string sRes, .slice none 0 0, .pointer (some ⟨br, 0, none⟩), .func (.func (Md.take l').fn) #[.pointer (some ⟨bf, 0, none⟩)] #[], ev] 80) :: (ε ++ (br, cl [.slice p' l'.length c'] 126) :: ψ)) ++ μ) ++ [(b2, cl [.int .i64 0, .int .i64 0, .int .u64 0, .int .i64 0, .int .i64 0, .int .i64 0, .int .i64 0, .int .i64 0, .int .i64 0, .bool false, .int .u64 0, .int .i64 0, .int .i64 0, .slice none 0 0, .int .i64 0, .int .i64 0, .int .i64 0] 44)]) _
    exact (by classical exact List.perm_iff_count.2 (fun _ => by first | (simp only [List.count_append, List.count_cons, List.count_nil, List.append_assoc, List.cons_append, List.nil_append]; done) | (simp only [List.count_append, List.count_cons, List.count_nil, List.append_assoc, List.cons_append, List.nil_append]; omega)))
  repeat' (first | refine KW.seq ?_ | refine KW.region ?_ | refine KO.nil ?_ | refine At.then_normal ?_ | refine KW.skip ?_ | refine KW.ret ?_ | refine At.then_ret ?_ | refine KW.block ?_ | refine KW.exit ?_ | refine At.block_normal ?_ | refine At.block_ret ?_ | refine At.loop_ret ?_ | refine At.then_exit ?_ | refine At.block_here rfl ?_ | refine At.block_there rfl ?_ | refine At.loop_exit ?_ | refine At.cut_ret ?_ | refine At.cutA_ret ?_ | refine At.cutA_exit ?_ | refine At.cut_exit ?_ | (refine At.cut_same ?_; repeat' (first | exact FLe.nil _ | refine FLe.cons rfl rfl ?_)) | refine KW.cond_t rfl (by first | with_reducible rfl | decide) ?_ | refine KW.cond_f rfl (by first | with_reducible rfl | decide) ?_ | refine KW.scope ?_ | refine KW.label ?_ | refine At.scope_normal ?_ | refine At.scope_ret ?_ | refine At.scope_exit ?_ | refine KW.drawM (id := 7) [0, 1, 1, 3] [] (by decide +kernel) rfl rfl rfl ?_ | refine KDH.mid2 ?_ | refine KDH.mid3 ?_ | refine KDH.done ?_ | refine KDM.head0 ?_ | refine KDM.head1 ?_ | refine KDM.fin ?_ | refine KDH.skip0' rfl (by first | with_reducible rfl | decide) rfl rfl ?_ | refine KDH.skip1' rfl (by first | with_reducible rfl | decide) rfl rfl ?_ | (refine KDM.eo30 rfl rfl (eo_store (i := _) rfl rfl rfl rfl rfl rfl rfl ?sg ?sw ?so ?ss) ?_; (case sg => first | exact (rfl : getI 0 _ = _) | exact (rfl : getI 1 _ = _) | exact (rfl : getI 2 _ = _) | exact (rfl : getI 3 _ = _) | exact (rfl : getI 4 _ = _) | exact (rfl : getI 5 _ = _) | exact (rfl : getI 6 _ = _) | exact (rfl : getI 7 _ = _)); (case sw => rfl); (case so => rfl); (case ss => rfl); rintro _ _ rfl; refine ⟨?sub, ?_⟩; (case sub => (intro _ hp; first | exact hp | (cases hp; done) | (repeat (first | exact hp | apply List.mem_cons_of_mem | apply List.mem_append_right)) | (simp_all; done)))) | refine KW.draw 0 (by decide +kernel) ?_ | refine KW.drawU rfl (by decide +kernel) ?_ | refine KD.zero ?_ | ((first | apply KO.val rfl rfl rfl ?kq ?_ | apply KD.val rfl rfl rfl ?kq ?_ | apply KDH.val0 rfl rfl rfl ?kq ?_ | apply KDH.val1 rfl rfl rfl ?kq ?_ | apply KDH.valIn0 rfl rfl rfl ?kq ?_ | apply KDH.valIn1 rfl rfl rfl ?kq ?_ | apply KDM.q2f rfl rfl rfl ?kq ?ksub ?_ | apply KDM.q2t rfl rfl rfl ?kq ?ksub ?_); (try (case ksub => (intro _ hp; first | exact hp | (cases hp; done) | (repeat (first | exact hp | apply List.mem_cons_of_mem | apply List.mem_append_right)) | (simp_all; done)))); (case kq => ((first | apply qt_ev rfl ?hi | ((first | apply qt_load1 rfl rfl ?hi rfl rfl ?hm ?hc | apply qt_loadN rfl rfl ?hi rfl rfl rfl ?hm ?hc); (case hm => repeat (first | exact List.Mem.head _ | apply List.Mem.tail _ | apply List.mem_append_right _)); (case hc => rfl)) | apply qt_cap rfl rfl ?hi rfl | apply qt_build rfl rfl ?hi rfl | apply qt_eqs rfl rfl rfl ?hi rfl (Or.inl rfl) | apply qt_nes rfl rfl rfl ?hi rfl (Or.inl rfl) | apply qt_eqs rfl rfl rfl ?hi rfl (Or.inr ⟨rfl, rfl, rfl⟩) | apply qt_nes rfl rfl rfl ?hi rfl (Or.inr ⟨rfl, rfl, rfl⟩)); (case hi => (intro h; (repeat' (first | with_reducible exact alln | with_reducible refine allc ?_ ?_ | with_reducible refine andi ?_ ?_)); all_goals (first | with_reducible rfl | with_reducible exact h | with_reducible exact andl h | with_reducible exact andr h | with_reducible exact andl (andl h) | (simp only [h, Bool.and_self]; done) | (simp [h]; done) | (simp_all; done))))))) | (refine KO.alloc rfl rfl rfl rfl rfl rfl ?_; intro _ _) | (apply KO.store (i := _) rfl rfl rfl rfl rfl rfl rfl rfl ?hl ?sg ?hw ?ho ?hs; (case sg => first | exact (rfl : getI 0 _ = _) | exact (rfl : getI 1 _ = _) | exact (rfl : getI 2 _ = _) | exact (rfl : getI 3 _ = _) | exact (rfl : getI 4 _ = _) | exact (rfl : getI 5 _ = _) | exact (rfl : getI 6 _ = _) | exact (rfl : getI 7 _ = _)); (case hl => rfl); (case hw => rfl); (case ho => rfl); (case hs => rfl)) | (refine KW.cond rfl ?_ ?_ <;> (intro hc; try simp only [kBool] at hc)) | exact absurd trivial ‹¬True› | fail)
  refine KO.callF ((br, cl [.slice p' l'.length c'] 126) :: ψ) ((bf, cl [.string sRes, .slice none 0 0, .pointer (some ⟨br, 0, none⟩), .func (.func (Md.take l').fn) #[.pointer (some ⟨bf, 0, none⟩)] #[], ev] 80) :: ((b4, cl [.int .i64 r.st, .int .i64 r.op, .int .u64 (r.tok : Int), .int .i64 r.unit, .int .i64 r.ax, .int .i64 r.ay, .int .i64 r.new, .int .i64 r.expl, .int .i64 r.ver, .bool r.hit, .int .u64 (r.cost : Int), .int .i64 r.settled, .int .i64 r.left, (.slice pm nm cm), .int .i64 r.units, .int .i64 r.cache, .int .i64 r.sess] 44) :: ((b2, cl [.int .i64 0, .int .i64 0, .int .u64 0, .int .i64 0, .int .i64 0, .int .i64 0, .int .i64 0, .int .i64 0, .int .i64 0, .bool false, .int .u64 0, .int .i64 0, .int .i64 0, .slice none 0 0, .int .i64 0, .int .i64 0, .int .i64 0] 44) :: (ε ++ μ)))) (by classical exact List.perm_iff_count.2 (fun _ => by first | (simp only [List.count_append, List.count_cons, List.count_nil, List.append_assoc, List.cons_append, List.nil_append]; done) | (simp only [List.count_append, List.count_cons, List.count_nil, List.append_assoc, List.cons_append, List.nil_append]; omega))) rfl rfl rfl rfl rfl rfl rfl (Rest_p _ ψ br l'.length c' (by8 l') p' (hs'.mono (fun q hq => List.mem_cons_of_mem _ hq)) hpc' (by8_one _) (by omega)) ?_
  rintro _ _ ⟨b, rfl, rfl⟩
  refine KO.permS (σ' := (bf, cl [.string sRes, .slice none 0 0, .pointer (some ⟨br, 0, none⟩), .func (.func (Md.take l').fn) #[.pointer (some ⟨bf, 0, none⟩)] #[], ev] 80) :: ((b4, cl [.int .i64 r.st, .int .i64 r.op, .int .u64 (r.tok : Int), .int .i64 r.unit, .int .i64 r.ax, .int .i64 r.ay, .int .i64 r.new, .int .i64 r.expl, .int .i64 r.ver, .bool r.hit, .int .u64 (r.cost : Int), .int .i64 r.settled, .int .i64 r.left, (.slice pm nm cm), .int .i64 r.units, .int .i64 r.cache, .int .i64 r.sess] 44) :: ((b2, cl [.int .i64 0, .int .i64 0, .int .u64 0, .int .i64 0, .int .i64 0, .int .i64 0, .int .i64 0, .int .i64 0, .int .i64 0, .bool false, .int .u64 0, .int .i64 0, .int .i64 0, .slice none 0 0, .int .i64 0, .int .i64 0, .int .i64 0] 44) :: ((br, cl [.slice p' l'.length c'] 126) :: (ε ++ (ψ ++ μ)))))) (φ := [(b, cl (by8 l') 5)]) (by classical exact List.perm_iff_count.2 (fun _ => by first | (simp only [List.count_append, List.count_cons, List.count_nil, List.append_assoc, List.cons_append, List.nil_append]; done) | (simp only [List.count_append, List.count_cons, List.count_nil, List.append_assoc, List.cons_append, List.nil_append]; omega))) ?_
  repeat' (first | refine KW.seq ?_ | refine KW.region ?_ | refine KO.nil ?_ | refine At.then_normal ?_ | refine KW.skip ?_ | refine KW.ret ?_ | refine At.then_ret ?_ | refine KW.block ?_ | refine KW.exit ?_ | refine At.block_normal ?_ | refine At.block_ret ?_ | refine At.loop_ret ?_ | refine At.then_exit ?_ | refine At.block_here rfl ?_ | refine At.block_there rfl ?_ | refine At.loop_exit ?_ | refine At.cut_ret ?_ | refine At.cutA_ret ?_ | refine At.cutA_exit ?_ | refine At.cut_exit ?_ | (refine At.cut_same ?_; repeat' (first | exact FLe.nil _ | refine FLe.cons rfl rfl ?_)) | refine KW.cond_t rfl (by first | with_reducible rfl | decide) ?_ | refine KW.cond_f rfl (by first | with_reducible rfl | decide) ?_ | refine KW.scope ?_ | refine KW.label ?_ | refine At.scope_normal ?_ | refine At.scope_ret ?_ | refine At.scope_exit ?_ | refine KW.drawM (id := 7) [0, 1, 1, 3] [] (by decide +kernel) rfl rfl rfl ?_ | refine KDH.mid2 ?_ | refine KDH.mid3 ?_ | refine KDH.done ?_ | refine KDM.head0 ?_ | refine KDM.head1 ?_ | refine KDM.fin ?_ | refine KDH.skip0' rfl (by first | with_reducible rfl | decide) rfl rfl ?_ | refine KDH.skip1' rfl (by first | with_reducible rfl | decide) rfl rfl ?_ | (refine KDM.eo30 rfl rfl (eo_store (i := _) rfl rfl rfl rfl rfl rfl rfl ?sg ?sw ?so ?ss) ?_; (case sg => first | exact (rfl : getI 0 _ = _) | exact (rfl : getI 1 _ = _) | exact (rfl : getI 2 _ = _) | exact (rfl : getI 3 _ = _) | exact (rfl : getI 4 _ = _) | exact (rfl : getI 5 _ = _) | exact (rfl : getI 6 _ = _) | exact (rfl : getI 7 _ = _)); (case sw => rfl); (case so => rfl); (case ss => rfl); rintro _ _ rfl; refine ⟨?sub, ?_⟩; (case sub => (intro _ hp; first | exact hp | (cases hp; done) | (repeat (first | exact hp | apply List.mem_cons_of_mem | apply List.mem_append_right)) | (simp_all; done)))) | refine KW.draw 0 (by decide +kernel) ?_ | refine KW.drawU rfl (by decide +kernel) ?_ | refine KD.zero ?_ | ((first | apply KO.val rfl rfl rfl ?kq ?_ | apply KD.val rfl rfl rfl ?kq ?_ | apply KDH.val0 rfl rfl rfl ?kq ?_ | apply KDH.val1 rfl rfl rfl ?kq ?_ | apply KDH.valIn0 rfl rfl rfl ?kq ?_ | apply KDH.valIn1 rfl rfl rfl ?kq ?_ | apply KDM.q2f rfl rfl rfl ?kq ?ksub ?_ | apply KDM.q2t rfl rfl rfl ?kq ?ksub ?_); (try (case ksub => (intro _ hp; first | exact hp | (cases hp; done) | (repeat (first | exact hp | apply List.mem_cons_of_mem | apply List.mem_append_right)) | (simp_all; done)))); (case kq => ((first | apply qt_ev rfl ?hi | ((first | apply qt_load1 rfl rfl ?hi rfl rfl ?hm ?hc | apply qt_loadN rfl rfl ?hi rfl rfl rfl ?hm ?hc); (case hm => repeat (first | exact List.Mem.head _ | apply List.Mem.tail _ | apply List.mem_append_right _)); (case hc => rfl)) | apply qt_cap rfl rfl ?hi rfl | apply qt_build rfl rfl ?hi rfl | apply qt_eqs rfl rfl rfl ?hi rfl (Or.inl rfl) | apply qt_nes rfl rfl rfl ?hi rfl (Or.inl rfl) | apply qt_eqs rfl rfl rfl ?hi rfl (Or.inr ⟨rfl, rfl, rfl⟩) | apply qt_nes rfl rfl rfl ?hi rfl (Or.inr ⟨rfl, rfl, rfl⟩)); (case hi => (intro h; (repeat' (first | with_reducible exact alln | with_reducible refine allc ?_ ?_ | with_reducible refine andi ?_ ?_)); all_goals (first | with_reducible rfl | with_reducible exact h | with_reducible exact andl h | with_reducible exact andr h | with_reducible exact andl (andl h) | (simp only [h, Bool.and_self]; done) | (simp [h]; done) | (simp_all; done))))))) | (refine KO.alloc rfl rfl rfl rfl rfl rfl ?_; intro _ _) | (apply KO.store (i := _) rfl rfl rfl rfl rfl rfl rfl rfl ?hl ?sg ?hw ?ho ?hs; (case sg => first | exact (rfl : getI 0 _ = _) | exact (rfl : getI 1 _ = _) | exact (rfl : getI 2 _ = _) | exact (rfl : getI 3 _ = _) | exact (rfl : getI 4 _ = _) | exact (rfl : getI 5 _ = _) | exact (rfl : getI 6 _ = _) | exact (rfl : getI 7 _ = _)); (case hl => rfl); (case hw => rfl); (case ho => rfl); (case hs => rfl)) | (refine KW.cond rfl ?_ ?_ <;> (intro hc; try simp only [kBool] at hc)) | exact absurd trivial ‹¬True› | fail)
  refine KO.callF ((bf, cl [.string sRes, .slice none 0 0, .pointer (some ⟨br, 0, none⟩), .func (.func (Md.take l').fn) #[.pointer (some ⟨bf, 0, none⟩)] #[], ev] 80) :: (ε ++ ((br, cl [.slice p' l'.length c'] 126) :: ψ))) ((b4, cl [.int .i64 r.st, .int .i64 r.op, .int .u64 (r.tok : Int), .int .i64 r.unit, .int .i64 r.ax, .int .i64 r.ay, .int .i64 r.new, .int .i64 r.expl, .int .i64 r.ver, .bool r.hit, .int .u64 (r.cost : Int), .int .i64 r.settled, .int .i64 r.left, (.slice pm nm cm), .int .i64 r.units, .int .i64 r.cache, .int .i64 r.sess] 44) :: ((b2, cl [.int .i64 0, .int .i64 0, .int .u64 0, .int .i64 0, .int .i64 0, .int .i64 0, .int .i64 0, .int .i64 0, .int .i64 0, .bool false, .int .u64 0, .int .i64 0, .int .i64 0, .slice none 0 0, .int .i64 0, .int .i64 0, .int .i64 0] 44) :: μ)) (by classical exact List.perm_iff_count.2 (fun _ => by first | (simp only [List.count_append, List.count_cons, List.count_nil, List.append_assoc, List.cons_append, List.nil_append]; done) | (simp only [List.count_append, List.count_cons, List.count_nil, List.append_assoc, List.cons_append, List.nil_append]; omega))) rfl rfl rfl rfl rfl rfl rfl (endP_p _ bf l'.length (.take l') y _ ⟨_, _, _, ev, _, ε, hF2, hE, rfl⟩ ?hb) ?_
  case hb => simp
  rintro _ _ ⟨wv, rv, dv, ev', φ', ε', hF3, hE3, rfl, rfl⟩
  rw [← hpf] at hE3
  rcases hX : parF l with _ | z
  · rw [hX] at hE3
    obtain ⟨rfl, rfl⟩ := hE3
    refine KO.permS (σ' := (b4, cl [.int .i64 r.st, .int .i64 r.op, .int .u64 (r.tok : Int), .int .i64 r.unit, .int .i64 r.ax, .int .i64 r.ay, .int .i64 r.new, .int .i64 r.expl, .int .i64 r.ver, .bool r.hit, .int .u64 (r.cost : Int), .int .i64 r.settled, .int .i64 r.left, (.slice pm nm cm), .int .i64 r.units, .int .i64 r.cache, .int .i64 r.sess] 44) :: ((b2, cl [.int .i64 0, .int .i64 0, .int .u64 0, .int .i64 0, .int .i64 0, .int .i64 0, .int .i64 0, .int .i64 0, .int .i64 0, .bool false, .int .u64 0, .int .i64 0, .int .i64 0, .slice none 0 0, .int .i64 0, .int .i64 0, .int .i64 0] 44) :: μ)) (φ := (bf, cl [.string sRes, wv, rv, dv, .nilIface] 80) :: φ') (by classical exact List.perm_iff_count.2 (fun _ => by first | (simp only [List.count_append, List.count_cons, List.count_nil, List.append_assoc, List.cons_append, List.nil_append]; done) | (simp only [List.count_append, List.count_cons, List.count_nil, List.append_assoc, List.cons_append, List.nil_append]; omega))) ?_
    repeat' (first | refine KW.seq ?_ | refine KW.region ?_ | refine KO.nil ?_ | refine At.then_normal ?_ | refine KW.skip ?_ | refine KW.ret ?_ | refine At.then_ret ?_ | refine KW.block ?_ | refine KW.exit ?_ | refine At.block_normal ?_ | refine At.block_ret ?_ | refine At.loop_ret ?_ | refine At.then_exit ?_ | refine At.block_here rfl ?_ | refine At.block_there rfl ?_ | refine At.loop_exit ?_ | refine At.cut_ret ?_ | refine At.cutA_ret ?_ | refine At.cutA_exit ?_ | refine At.cut_exit ?_ | (refine At.cut_same ?_; repeat' (first | exact FLe.nil _ | refine FLe.cons rfl rfl ?_)) | refine KW.cond_t rfl (by first | with_reducible rfl | decide) ?_ | refine KW.cond_f rfl (by first | with_reducible rfl | decide) ?_ | refine KW.scope ?_ | refine KW.label ?_ | refine At.scope_normal ?_ | refine At.scope_ret ?_ | refine At.scope_exit ?_ | refine KW.drawM (id := 7) [0, 1, 1, 3] [] (by decide +kernel) rfl rfl rfl ?_ | refine KDH.mid2 ?_ | refine KDH.mid3 ?_ | refine KDH.done ?_ | refine KDM.head0 ?_ | refine KDM.head1 ?_ | refine KDM.fin ?_ | refine KDH.skip0' rfl (by first | with_reducible rfl | decide) rfl rfl ?_ | refine KDH.skip1' rfl (by first | with_reducible rfl | decide) rfl rfl ?_ | (refine KDM.eo30 rfl rfl (eo_store (i := _) rfl rfl rfl rfl rfl rfl rfl ?sg ?sw ?so ?ss) ?_; (case sg => first | exact (rfl : getI 0 _ = _) | exact (rfl : getI 1 _ = _) | exact (rfl : getI 2 _ = _) | exact (rfl : getI 3 _ = _) | exact (rfl : getI 4 _ = _) | exact (rfl : getI 5 _ = _) | exact (rfl : getI 6 _ = _) | exact (rfl : getI 7 _ = _)); (case sw => rfl); (case so => rfl); (case ss => rfl); rintro _ _ rfl; refine ⟨?sub, ?_⟩; (case sub => (intro _ hp; first | exact hp | (cases hp; done) | (repeat (first | exact hp | apply List.mem_cons_of_mem | apply List.mem_append_right)) | (simp_all; done)))) | refine KW.draw 0 (by decide +kernel) ?_ | refine KW.drawU rfl (by decide +kernel) ?_ | refine KD.zero ?_ | ((first | apply KO.val rfl rfl rfl ?kq ?_ | apply KD.val rfl rfl rfl ?kq ?_ | apply KDH.val0 rfl rfl rfl ?kq ?_ | apply KDH.val1 rfl rfl rfl ?kq ?_ | apply KDH.valIn0 rfl rfl rfl ?kq ?_ | apply KDH.valIn1 rfl rfl rfl ?kq ?_ | apply KDM.q2f rfl rfl rfl ?kq ?ksub ?_ | apply KDM.q2t rfl rfl rfl ?kq ?ksub ?_); (try (case ksub => (intro _ hp; first | exact hp | (cases hp; done) | (repeat (first | exact hp | apply List.mem_cons_of_mem | apply List.mem_append_right)) | (simp_all; done)))); (case kq => ((first | apply qt_ev rfl ?hi | ((first | apply qt_load1 rfl rfl ?hi rfl rfl ?hm ?hc | apply qt_loadN rfl rfl ?hi rfl rfl rfl ?hm ?hc); (case hm => repeat (first | exact List.Mem.head _ | apply List.Mem.tail _ | apply List.mem_append_right _)); (case hc => rfl)) | refine qt_callQ rfl rfl ?hi (fun hg => AsNil_p _ _ _) | apply qt_cap rfl rfl ?hi rfl | apply qt_build rfl rfl ?hi rfl | apply qt_eqs rfl rfl rfl ?hi rfl (Or.inl rfl) | apply qt_nes rfl rfl rfl ?hi rfl (Or.inl rfl) | apply qt_eqs rfl rfl rfl ?hi rfl (Or.inr ⟨rfl, rfl, rfl⟩) | apply qt_nes rfl rfl rfl ?hi rfl (Or.inr ⟨rfl, rfl, rfl⟩)); (case hi => (intro h; (repeat' (first | with_reducible exact alln | with_reducible refine allc ?_ ?_ | with_reducible refine andi ?_ ?_)); all_goals (first | with_reducible rfl | with_reducible exact h | with_reducible exact andl h | with_reducible exact andr h | with_reducible exact andl (andl h) | (simp only [h, Bool.and_self]; done) | (simp [h]; done) | (simp_all; done))))))) | (refine KO.alloc rfl rfl rfl rfl rfl rfl ?_; intro _ _) | (apply KO.store (i := _) rfl rfl rfl rfl rfl rfl rfl rfl ?hl ?sg ?hw ?ho ?hs; (case sg => first | exact (rfl : getI 0 _ = _) | exact (rfl : getI 1 _ = _) | exact (rfl : getI 2 _ = _) | exact (rfl : getI 3 _ = _) | exact (rfl : getI 4 _ = _) | exact (rfl : getI 5 _ = _) | exact (rfl : getI 6 _ = _) | exact (rfl : getI 7 _ = _)); (case hl => rfl); (case hw => rfl); (case ho => rfl); (case hs => rfl)) | (refine KW.cond rfl ?_ ?_ <;> (intro hc; try simp only [kBool] at hc)) | exact absurd trivial ‹¬True› | fail)
    ((first | apply At.done_ret | apply At.done_normal); (focus (repeat' (first | exact ResVs.nil' | apply ResVs.cons' | exact ResV.tmp' rfl | (apply ResV.cell1 rfl ?hm rfl rfl ?hc; (case hm => repeat (first | exact List.Mem.head _ | apply List.Mem.tail _ | apply List.mem_append_right _)); (case hc => rfl)) | (apply ResV.cellN rfl ?hm rfl rfl rfl ?hc; (case hm => repeat (first | exact List.Mem.head _ | apply List.Mem.tail _ | apply List.mem_append_right _)); (case hc => rfl))))); dsimp only [resVal])
    refine ⟨μ, List.Sublist.cons _ (List.Sublist.cons _ (List.Sublist.cons _ (List.Sublist.refl _))), ?_⟩
    rw [hPR, hX]
    exact ⟨_, hmv, rfl⟩
  · rw [hX] at hE3
    obtain ⟨e1, e2, rfl, rfl⟩ := hE3
    refine KO.permS (σ' := (b4, cl [.int .i64 r.st, .int .i64 r.op, .int .u64 (r.tok : Int), .int .i64 r.unit, .int .i64 r.ax, .int .i64 r.ay, .int .i64 r.new, .int .i64 r.expl, .int .i64 r.ver, .bool r.hit, .int .u64 (r.cost : Int), .int .i64 r.settled, .int .i64 r.left, (.slice pm nm cm), .int .i64 r.units, .int .i64 r.cache, .int .i64 r.sess] 44) :: ((b2, cl [.int .i64 0, .int .i64 0, .int .u64 0, .int .i64 0, .int .i64 0, .int .i64 0, .int .i64 0, .int .i64 0, .int .i64 0, .bool false, .int .u64 0, .int .i64 0, .int .i64 0, .slice none 0 0, .int .i64 0, .int .i64 0, .int .i64 0] 44) :: [(e1, cl [.string sRes, .iface 100 (.pointer (some ⟨e2, 0, none⟩))] 108), (e2, cl [.string z.1, .iface 32 (.int .i64 z.2)] 108)])) (φ := (bf, cl [.string sRes, wv, rv, dv, .iface 100 (.pointer (some ⟨e1, 0, none⟩))] 80) :: (φ' ++ μ)) (by classical exact List.perm_iff_count.2 (fun _ => by first | (simp only [List.count_append, List.count_cons, List.count_nil, List.append_assoc, List.cons_append, List.nil_append]; done) | (simp only [List.count_append, List.count_cons, List.count_nil, List.append_assoc, List.cons_append, List.nil_append]; omega))) ?_
    repeat' (first | refine KW.seq ?_ | refine KW.region ?_ | refine KO.nil ?_ | refine At.then_normal ?_ | refine KW.skip ?_ | refine KW.ret ?_ | refine At.then_ret ?_ | refine KW.block ?_ | refine KW.exit ?_ | refine At.block_normal ?_ | refine At.block_ret ?_ | refine At.loop_ret ?_ | refine At.then_exit ?_ | refine At.block_here rfl ?_ | refine At.block_there rfl ?_ | refine At.loop_exit ?_ | refine At.cut_ret ?_ | refine At.cutA_ret ?_ | refine At.cutA_exit ?_ | refine At.cut_exit ?_ | (refine At.cut_same ?_; repeat' (first | exact FLe.nil _ | refine FLe.cons rfl rfl ?_)) | refine KW.cond_t rfl (by first | with_reducible rfl | decide) ?_ | refine KW.cond_f rfl (by first | with_reducible rfl | decide) ?_ | refine KW.scope ?_ | refine KW.label ?_ | refine At.scope_normal ?_ | refine At.scope_ret ?_ | refine At.scope_exit ?_ | refine KW.drawM (id := 7) [0, 1, 1, 3] [] (by decide +kernel) rfl rfl rfl ?_ | refine KDH.mid2 ?_ | refine KDH.mid3 ?_ | refine KDH.done ?_ | refine KDM.head0 ?_ | refine KDM.head1 ?_ | refine KDM.fin ?_ | refine KDH.skip0' rfl (by first | with_reducible rfl | decide) rfl rfl ?_ | refine KDH.skip1' rfl (by first | with_reducible rfl | decide) rfl rfl ?_ | (refine KDM.eo30 rfl rfl (eo_store (i := _) rfl rfl rfl rfl rfl rfl rfl ?sg ?sw ?so ?ss) ?_; (case sg => first | exact (rfl : getI 0 _ = _) | exact (rfl : getI 1 _ = _) | exact (rfl : getI 2 _ = _) | exact (rfl : getI 3 _ = _) | exact (rfl : getI 4 _ = _) | exact (rfl : getI 5 _ = _) | exact (rfl : getI 6 _ = _) | exact (rfl : getI 7 _ = _)); (case sw => rfl); (case so => rfl); (case ss => rfl); rintro _ _ rfl; refine ⟨?sub, ?_⟩; (case sub => (intro _ hp; first | exact hp | (cases hp; done) | (repeat (first | exact hp | apply List.mem_cons_of_mem | apply List.mem_append_right)) | (simp_all; done)))) | refine KW.draw 0 (by decide +kernel) ?_ | refine KW.drawU rfl (by decide +kernel) ?_ | refine KD.zero ?_ | ((first | apply KO.val rfl rfl rfl ?kq ?_ | apply KD.val rfl rfl rfl ?kq ?_ | apply KDH.val0 rfl rfl rfl ?kq ?_ | apply KDH.val1 rfl rfl rfl ?kq ?_ | apply KDH.valIn0 rfl rfl rfl ?kq ?_ | apply KDH.valIn1 rfl rfl rfl ?kq ?_ | apply KDM.q2f rfl rfl rfl ?kq ?ksub ?_ | apply KDM.q2t rfl rfl rfl ?kq ?ksub ?_); (try (case ksub => (intro _ hp; first | exact hp | (cases hp; done) | (repeat (first | exact hp | apply List.mem_cons_of_mem | apply List.mem_append_right)) | (simp_all; done)))); (case kq => ((first | apply qt_ev rfl ?hi | ((first | apply qt_load1 rfl rfl ?hi rfl rfl ?hm ?hc | apply qt_loadN rfl rfl ?hi rfl rfl rfl ?hm ?hc); (case hm => repeat (first | exact List.Mem.head _ | apply List.Mem.tail _ | apply List.mem_append_right _)); (case hc => rfl)) | apply qt_cap rfl rfl ?hi rfl | apply qt_build rfl rfl ?hi rfl | apply qt_eqs rfl rfl rfl ?hi rfl (Or.inl rfl) | apply qt_nes rfl rfl rfl ?hi rfl (Or.inl rfl) | apply qt_eqs rfl rfl rfl ?hi rfl (Or.inr ⟨rfl, rfl, rfl⟩) | apply qt_nes rfl rfl rfl ?hi rfl (Or.inr ⟨rfl, rfl, rfl⟩)); (case hi => (intro h; (repeat' (first | with_reducible exact alln | with_reducible refine allc ?_ ?_ | with_reducible refine andi ?_ ?_)); all_goals (first | with_reducible rfl | with_reducible exact h | with_reducible exact andl h | with_reducible exact andr h | with_reducible exact andl (andl h) | (simp only [h, Bool.and_self]; done) | (simp [h]; done) | (simp_all; done))))))) | (refine KO.alloc rfl rfl rfl rfl rfl rfl ?_; intro _ _) | (apply KO.store (i := _) rfl rfl rfl rfl rfl rfl rfl rfl ?hl ?sg ?hw ?ho ?hs; (case sg => first | exact (rfl : getI 0 _ = _) | exact (rfl : getI 1 _ = _) | exact (rfl : getI 2 _ = _) | exact (rfl : getI 3 _ = _) | exact (rfl : getI 4 _ = _) | exact (rfl : getI 5 _ = _) | exact (rfl : getI 6 _ = _) | exact (rfl : getI 7 _ = _)); (case hl => rfl); (case hw => rfl); (case ho => rfl); (case hs => rfl)) | (refine KW.cond rfl ?_ ?_ <;> (intro hc; try simp only [kBool] at hc)) | exact absurd trivial ‹¬True› | fail)
    rename_i b7 _
    refine KO.callB [(b7, cl [.pointer none] 100)] ((b4, cl [.int .i64 r.st, .int .i64 r.op, .int .u64 (r.tok : Int), .int .i64 r.unit, .int .i64 r.ax, .int .i64 r.ay, .int .i64 r.new, .int .i64 r.expl, .int .i64 r.ver, .bool r.hit, .int .u64 (r.cost : Int), .int .i64 r.settled, .int .i64 r.left, (.slice pm nm cm), .int .i64 r.units, .int .i64 r.cache, .int .i64 r.sess] 44) :: ((b2, cl [.int .i64 0, .int .i64 0, .int .u64 0, .int .i64 0, .int .i64 0, .int .i64 0, .int .i64 0, .int .i64 0, .int .i64 0, .bool false, .int .u64 0, .int .i64 0, .int .i64 0, .slice none 0 0, .int .i64 0, .int .i64 0, .int .i64 0] 44) :: [(e1, cl [.string sRes, .iface 100 (.pointer (some ⟨e2, 0, none⟩))] 108), (e2, cl [.string z.1, .iface 32 (.int .i64 z.2)] 108)])) (by classical exact List.perm_iff_count.2 (fun _ => by first | (simp only [List.count_append, List.count_cons, List.count_nil, List.append_assoc, List.cons_append, List.nil_append]; done) | (simp only [List.count_append, List.count_cons, List.count_nil, List.append_assoc, List.cons_append, List.nil_append]; omega))) rfl rfl rfl rfl rfl rfl rfl (fun β' g1 g2 => AsF_p β' (TBE.up g1 ht) b7 e1) ?_
    rintro _ _ ⟨rfl, rfl⟩
    repeat' (first | refine KW.seq ?_ | refine KW.region ?_ | refine KO.nil ?_ | refine At.then_normal ?_ | refine KW.skip ?_ | refine KW.ret ?_ | refine At.then_ret ?_ | refine KW.block ?_ | refine KW.exit ?_ | refine At.block_normal ?_ | refine At.block_ret ?_ | refine At.loop_ret ?_ | refine At.then_exit ?_ | refine At.block_here rfl ?_ | refine At.block_there rfl ?_ | refine At.loop_exit ?_ | refine At.cut_ret ?_ | refine At.cutA_ret ?_ | refine At.cutA_exit ?_ | refine At.cut_exit ?_ | (refine At.cut_same ?_; repeat' (first | exact FLe.nil _ | refine FLe.cons rfl rfl ?_)) | refine KW.cond_t rfl (by first | with_reducible rfl | decide) ?_ | refine KW.cond_f rfl (by first | with_reducible rfl | decide) ?_ | refine KW.scope ?_ | refine KW.label ?_ | refine At.scope_normal ?_ | refine At.scope_ret ?_ | refine At.scope_exit ?_ | refine KW.drawM (id := 7) [0, 1, 1, 3] [0] (by decide +kernel) rfl rfl rfl ?_ | refine KDH.mid2 ?_ | refine KDH.mid3 ?_ | refine KDH.done ?_ | refine KDM.head0 ?_ | refine KDM.head1 ?_ | refine KDM.fin ?_ | refine KDH.skip0' rfl (by first | with_reducible rfl | decide) rfl rfl ?_ | refine KDH.skip1' rfl (by first | with_reducible rfl | decide) rfl rfl ?_ | (refine KDM.eo30 rfl rfl (eo_store (i := _) rfl rfl rfl rfl rfl rfl rfl ?sg ?sw ?so ?ss) ?_; (case sg => first | exact (rfl : getI 0 _ = _) | exact (rfl : getI 1 _ = _) | exact (rfl : getI 2 _ = _) | exact (rfl : getI 3 _ = _) | exact (rfl : getI 4 _ = _) | exact (rfl : getI 5 _ = _) | exact (rfl : getI 6 _ = _) | exact (rfl : getI 7 _ = _)); (case sw => rfl); (case so => rfl); (case ss => rfl); rintro _ _ rfl; refine ⟨?sub, ?_⟩; (case sub => (intro _ hp; first | exact hp | (cases hp; done) | (repeat (first | exact hp | apply List.mem_cons_of_mem | apply List.mem_append_right)) | (simp_all; done)))) | refine KW.draw 0 (by decide +kernel) ?_ | refine KW.drawU rfl (by decide +kernel) ?_ | refine KD.zero ?_ | ((first | apply KO.val rfl rfl rfl ?kq ?_ | apply KD.val rfl rfl rfl ?kq ?_ | apply KDH.val0 rfl rfl rfl ?kq ?_ | apply KDH.val1 rfl rfl rfl ?kq ?_ | apply KDH.valIn0 rfl rfl rfl ?kq ?_ | apply KDH.valIn1 rfl rfl rfl ?kq ?_ | apply KDM.q2f rfl rfl rfl ?kq ?ksub ?_ | apply KDM.q2t rfl rfl rfl ?kq ?ksub ?_); (try (case ksub => (intro _ hp; first | exact hp | (cases hp; done) | (repeat (first | exact hp | apply List.mem_cons_of_mem | apply List.mem_append_right)) | (simp_all; done)))); (case kq => ((first | apply qt_ev rfl ?hi | ((first | apply qt_load1 rfl rfl ?hi rfl rfl ?hm ?hc | apply qt_loadN rfl rfl ?hi rfl rfl rfl ?hm ?hc); (case hm => repeat (first | exact List.Mem.head _ | apply List.Mem.tail _ | apply List.mem_append_right _)); (case hc => rfl)) | apply qt_cap rfl rfl ?hi rfl | apply qt_build rfl rfl ?hi rfl | apply qt_eqs rfl rfl rfl ?hi rfl (Or.inl rfl) | apply qt_nes rfl rfl rfl ?hi rfl (Or.inl rfl) | apply qt_eqs rfl rfl rfl ?hi rfl (Or.inr ⟨rfl, rfl, rfl⟩) | apply qt_nes rfl rfl rfl ?hi rfl (Or.inr ⟨rfl, rfl, rfl⟩)); (case hi => (intro h; (repeat' (first | with_reducible exact alln | with_reducible refine allc ?_ ?_ | with_reducible refine andi ?_ ?_)); all_goals (first | with_reducible rfl | with_reducible exact h | with_reducible exact andl h | with_reducible exact andr h | with_reducible exact andl (andl h) | (simp only [h, Bool.and_self]; done) | (simp [h]; done) | (simp_all; done))))))) | (refine KO.alloc rfl rfl rfl rfl rfl rfl ?_; intro _ _) | (apply KO.store (i := _) rfl rfl rfl rfl rfl rfl rfl rfl ?hl ?sg ?hw ?ho ?hs; (case sg => first | exact (rfl : getI 0 _ = _) | exact (rfl : getI 1 _ = _) | exact (rfl : getI 2 _ = _) | exact (rfl : getI 3 _ = _) | exact (rfl : getI 4 _ = _) | exact (rfl : getI 5 _ = _) | exact (rfl : getI 6 _ = _) | exact (rfl : getI 7 _ = _)); (case hl => rfl); (case hw => rfl); (case ho => rfl); (case hs => rfl)) | (refine KW.cond rfl ?_ ?_ <;> (intro hc; try simp only [kBool] at hc)) | exact absurd trivial ‹¬True› | fail)
    refine KDM.eo30 rfl rfl (eo_store (i := 2) rfl rfl rfl rfl rfl rfl rfl rfl rfl rfl rfl) ?_
    rintro _ _ rfl
    refine ⟨fun q hq => (by simp only [List.mem_singleton] at hq; rw [hq]; exact List.Mem.head _), ?_⟩
    repeat' (first | refine KW.seq ?_ | refine KW.region ?_ | refine KO.nil ?_ | refine At.then_normal ?_ | refine KW.skip ?_ | refine KW.ret ?_ | refine At.then_ret ?_ | refine KW.block ?_ | refine KW.exit ?_ | refine At.block_normal ?_ | refine At.block_ret ?_ | refine At.loop_ret ?_ | refine At.then_exit ?_ | refine At.block_here rfl ?_ | refine At.block_there rfl ?_ | refine At.loop_exit ?_ | refine At.cut_ret ?_ | refine At.cutA_ret ?_ | refine At.cutA_exit ?_ | refine At.cut_exit ?_ | (refine At.cut_same ?_; repeat' (first | exact FLe.nil _ | refine FLe.cons rfl rfl ?_)) | refine KW.cond_t rfl (by first | with_reducible rfl | decide) ?_ | refine KW.cond_f rfl (by first | with_reducible rfl | decide) ?_ | refine KW.scope ?_ | refine KW.label ?_ | refine At.scope_normal ?_ | refine At.scope_ret ?_ | refine At.scope_exit ?_ | refine KW.drawM (id := 7) [0, 1, 1, 3] [0] (by decide +kernel) rfl rfl rfl ?_ | refine KDH.mid2 ?_ | refine KDH.mid3 ?_ | refine KDH.done ?_ | refine KDM.head0 ?_ | refine KDM.head1 ?_ | refine KDM.fin ?_ | refine KDH.skip0' rfl (by first | with_reducible rfl | decide) rfl rfl ?_ | refine KDH.skip1' rfl (by first | with_reducible rfl | decide) rfl rfl ?_ | (refine KDM.eo30 rfl rfl (eo_store (i := _) rfl rfl rfl rfl rfl rfl rfl ?sg ?sw ?so ?ss) ?_; (case sg => first | exact (rfl : getI 0 _ = _) | exact (rfl : getI 1 _ = _) | exact (rfl : getI 2 _ = _) | exact (rfl : getI 3 _ = _) | exact (rfl : getI 4 _ = _) | exact (rfl : getI 5 _ = _) | exact (rfl : getI 6 _ = _) | exact (rfl : getI 7 _ = _)); (case sw => rfl); (case so => rfl); (case ss => rfl); rintro _ _ rfl; refine ⟨?sub, ?_⟩; (case sub => (intro _ hp; first | exact hp | (cases hp; done) | (repeat (first | exact hp | apply List.mem_cons_of_mem | apply List.mem_append_right)) | (simp_all; done)))) | refine KW.draw 0 (by decide +kernel) ?_ | refine KW.drawU rfl (by decide +kernel) ?_ | refine KD.zero ?_ | ((first | apply KO.val rfl rfl rfl ?kq ?_ | apply KD.val rfl rfl rfl ?kq ?_ | apply KDH.val0 rfl rfl rfl ?kq ?_ | apply KDH.val1 rfl rfl rfl ?kq ?_ | apply KDH.valIn0 rfl rfl rfl ?kq ?_ | apply KDH.valIn1 rfl rfl rfl ?kq ?_ | apply KDM.q2f rfl rfl rfl ?kq ?ksub ?_ | apply KDM.q2t rfl rfl rfl ?kq ?ksub ?_); (try (case ksub => (intro _ hp; first | exact hp | (cases hp; done) | (repeat (first | exact hp | apply List.mem_cons_of_mem | apply List.mem_append_right)) | (simp_all; done)))); (case kq => ((first | apply qt_ev rfl ?hi | ((first | apply qt_load1 rfl rfl ?hi rfl rfl ?hm ?hc | apply qt_loadN rfl rfl ?hi rfl rfl rfl ?hm ?hc); (case hm => repeat (first | exact List.Mem.head _ | apply List.Mem.tail _ | apply List.mem_append_right _)); (case hc => rfl)) | apply qt_cap rfl rfl ?hi rfl | apply qt_build rfl rfl ?hi rfl | apply qt_eqs rfl rfl rfl ?hi rfl (Or.inl rfl) | apply qt_nes rfl rfl rfl ?hi rfl (Or.inl rfl) | apply qt_eqs rfl rfl rfl ?hi rfl (Or.inr ⟨rfl, rfl, rfl⟩) | apply qt_nes rfl rfl rfl ?hi rfl (Or.inr ⟨rfl, rfl, rfl⟩)); (case hi => (intro h; (repeat' (first | with_reducible exact alln | with_reducible refine allc ?_ ?_ | with_reducible refine andi ?_ ?_)); all_goals (first | with_reducible rfl | with_reducible exact h | with_reducible exact andl h | with_reducible exact andr h | with_reducible exact andl (andl h) | (simp only [h, Bool.and_self]; done) | (simp [h]; done) | (simp_all; done))))))) | (refine KO.alloc rfl rfl rfl rfl rfl rfl ?_; intro _ _) | (apply KO.store (i := _) rfl rfl rfl rfl rfl rfl rfl rfl ?hl ?sg ?hw ?ho ?hs; (case sg => first | exact (rfl : getI 0 _ = _) | exact (rfl : getI 1 _ = _) | exact (rfl : getI 2 _ = _) | exact (rfl : getI 3 _ = _) | exact (rfl : getI 4 _ = _) | exact (rfl : getI 5 _ = _) | exact (rfl : getI 6 _ = _) | exact (rfl : getI 7 _ = _)); (case hl => rfl); (case hw => rfl); (case ho => rfl); (case hs => rfl)) | (refine KW.cond rfl ?_ ?_ <;> (intro hc; try simp only [kBool] at hc)) | exact absurd trivial ‹¬True› | fail)
    ((first | apply At.done_ret | apply At.done_normal); (focus (repeat' (first | exact ResVs.nil' | apply ResVs.cons' | exact ResV.tmp' rfl | (apply ResV.cell1 rfl ?hm rfl rfl ?hc; (case hm => repeat (first | exact List.Mem.head _ | apply List.Mem.tail _ | apply List.mem_append_right _)); (case hc => rfl)) | (apply ResV.cellN rfl ?hm rfl rfl rfl ?hc; (case hm => repeat (first | exact List.Mem.head _ | apply List.Mem.tail _ | apply List.mem_append_right _)); (case hc => rfl))))); dsimp only [resVal])
    refine ⟨[(e1, cl [.string sRes, .iface 100 (.pointer (some ⟨e2, 0, none⟩))] 108), (e2, cl [.string z.1, .iface 32 (.int .i64 z.2)] 108)], List.Sublist.cons _ (List.Sublist.cons _ (List.Sublist.cons _ (List.Sublist.refl _))), ?_⟩
    rw [hPR, hX]
    exact ⟨e1, e2, rfl, rfl⟩
end Go.Proofs.YtnaclkdjchnbpaaDoor
end
section
namespace Go.Proofs.YtnaclkdjchnbpaaDoor
open Go Go.K

def finP (x : (List Nat × Flt) × Rs × List Nat) : Flt × Rs × List Nat := match (if 0 < x.1.1.length then note x.1.2 sEnd 12 else x.1.2) with
  | some y => (some y, zR, [])
  | none => (none, x.2.1, x.2.2)
def par (l : List Nat) : Flt × Rs × List Nat := finP (toldT (l, none))
theorem par_F (l : List Nat) : par l = (match parF l with
    | some y => (some y, zR, [])
    | none => (none, (toldT (l, none)).2.1, (toldT (l, none)).2.2)) := rfl
theorem finP_some (l : List Nat) (y : ByteArray × Int) (r : Rs) (ms : List Nat) : finP ((l, some y), r, ms) = (some y, zR, []) := by
  unfold finP note
  dsimp only
  split <;> simp_all
theorem finP_none (has : RowT → Bool) (l : List Nat) (r : Rs) (ms : List Nat) : refPG has [] l r ms = finP ((l, none), r, ms) := by
  unfold finP
  rw [refPG]
  dsimp only
  by_cases h : 0 < l.length
  · rw [if_pos h, if_pos h]; rfl
  · rw [if_neg h, if_neg h]
theorem refPG_filter (has : RowT → Bool) : ∀ (ws : List RowT) (l : List Nat) (r : Rs) (ms : List Nat), refPG has ws l r ms = refPG (fun _ => true) (ws.filter has) l r ms
  | [], _, _, _ => rfl
  | w :: ws, l, r, ms => by
    by_cases h : has w = true
    · rw [List.filter_cons, if_pos h, refPG, refPG, if_pos h, if_pos rfl]
      simp only [refPG_filter has ws]
    · rw [List.filter_cons, if_neg h, refPG, if_neg h]
      exact refPG_filter has ws l r ms
theorem rdN_1 (s : Nat) (l : List Nat) : rdN s 1 l = [num (l.take s)] := by
  unfold rdN
  simp
theorem rdN_2 (s : Nat) (l : List Nat) : rdN s 2 l = [num (l.take s), num ((l.drop s).take s)] := by
  unfold rdN
  simp [List.range_succ]
theorem setS_sToken (r : Rs) (n : Nat) : setS r sToken [n] = { r with tok := n } := by
  unfold setS
  rw [if_pos rfl]
  rfl
theorem setS_sUnit (r : Rs) (n : Nat) : setS r sUnit [n] = { r with unit := iI n } := by
  unfold setS
  rw [if_neg (by decide), if_pos rfl]
  rfl
theorem setS_sAt (r : Rs) (n m : Nat) : setS r sAt [n, m] = { r with ax := iI n, ay := iI m } := by
  unfold setS
  rw [if_neg (by decide), if_neg (by decide), if_pos rfl]
  rfl
theorem setS_sNew (r : Rs) (n : Nat) : setS r sNew [n] = { r with new := iI n } := by
  unfold setS
  rw [if_neg (by decide), if_neg (by decide), if_neg (by decide), if_pos rfl]
  rfl
theorem setS_sExpl (r : Rs) (n : Nat) : setS r sExpl [n] = { r with expl := iI n } := by
  unfold setS
  rw [if_neg (by decide), if_neg (by decide), if_neg (by decide), if_neg (by decide), if_pos rfl]
  rfl
theorem setS_sVer (r : Rs) (n : Nat) : setS r sVer [n] = { r with ver := iI n } := by
  unfold setS
  rw [if_neg (by decide), if_neg (by decide), if_neg (by decide), if_neg (by decide), if_neg (by decide), if_pos rfl]
  rfl
theorem setS_sHit (r : Rs) (n : Nat) : setS r sHit [n] = { r with hit := decide (n = 1) } := by
  unfold setS
  rw [if_neg (by decide), if_neg (by decide), if_neg (by decide), if_neg (by decide), if_neg (by decide), if_neg (by decide), if_pos rfl]
  rfl
theorem setS_sCost (r : Rs) (n : Nat) : setS r sCost [n] = { r with cost := n } := by
  unfold setS
  rw [if_neg (by decide), if_neg (by decide), if_neg (by decide), if_neg (by decide), if_neg (by decide), if_neg (by decide), if_neg (by decide), if_pos rfl]
  rfl
theorem setS_sSettled (r : Rs) (n : Nat) : setS r sSettled [n] = { r with settled := iI n } := by
  unfold setS
  rw [if_neg (by decide), if_neg (by decide), if_neg (by decide), if_neg (by decide), if_neg (by decide), if_neg (by decide), if_neg (by decide), if_neg (by decide), if_pos rfl]
  rfl
theorem setS_sLeft (r : Rs) (n : Nat) : setS r sLeft [n] = { r with left := iI n } := by
  unfold setS
  rw [if_neg (by decide), if_neg (by decide), if_neg (by decide), if_neg (by decide), if_neg (by decide), if_neg (by decide), if_neg (by decide), if_neg (by decide), if_neg (by decide), if_pos rfl]
  rfl
theorem setS_sUnits (r : Rs) (n : Nat) : setS r sUnits [n] = { r with units := iI n } := by
  unfold setS
  rw [if_neg (by decide), if_neg (by decide), if_neg (by decide), if_neg (by decide), if_neg (by decide), if_neg (by decide), if_neg (by decide), if_neg (by decide), if_neg (by decide), if_neg (by decide), if_pos rfl]
  rfl
theorem setS_sCache (r : Rs) (n : Nat) : setS r sCache [n] = { r with cache := iI n } := by
  unfold setS
  rw [if_neg (by decide), if_neg (by decide), if_neg (by decide), if_neg (by decide), if_neg (by decide), if_neg (by decide), if_neg (by decide), if_neg (by decide), if_neg (by decide), if_neg (by decide), if_neg (by decide), if_pos rfl]
  rfl
theorem setS_sSess (r : Rs) (n : Nat) : setS r sSess [n] = { r with sess := iI n } := by
  unfold setS
  rw [if_neg (by decide), if_neg (by decide), if_neg (by decide), if_neg (by decide), if_neg (by decide), if_neg (by decide), if_neg (by decide), if_neg (by decide), if_neg (by decide), if_neg (by decide), if_neg (by decide), if_neg (by decide), if_pos rfl]
  rfl
theorem setS_sMoves (r : Rs) (x : List Nat) : setS r sMoves x = r := by
  unfold setS
  rw [if_neg (by decide), if_neg (by decide), if_neg (by decide), if_neg (by decide), if_neg (by decide), if_neg (by decide), if_neg (by decide), if_neg (by decide), if_neg (by decide), if_neg (by decide), if_neg (by decide), if_neg (by decide), if_neg (by decide)]
theorem one_step (w : RowT) (ws : List RowT) (l : List Nat) (r : Rs) (ms : List Nat) (T : List Nat × Flt → Nat → (List Nat × Flt) × Rs × List Nat) (hm : w.many = 1) (hh : w.name ≠ sHit) (hv : w.name ≠ sMoves)
    (hT : ∀ l' y n, finP (T (l', some y) n) = (some y, zR, []))
    (h : ∀ l' n, refPG (fun _ => true) ws l' (setS r w.name [n]) ms = finP (T (l', none) n)) :
    refPG (fun _ => true) (w :: ws) l r ms = finP (T (tkF1 (l, none) (w.name, w.size)).1 (tkF1 (l, none) (w.name, w.size)).2) := by
  rw [refPG, if_pos rfl, hm, Nat.mul_one]
  have e : tkF1 (l, none) (w.name, w.size) = (((tk1 (w.name, w.size) l).2.1, (tk1 (w.name, w.size) l).1), (tk1 (w.name, w.size) l).2.2) := rfl
  rw [e]
  unfold tk1
  dsimp only
  by_cases hl : l.length < w.size
  · rw [if_pos hl, if_neg (show ¬ w.size ≤ l.length by omega)]
    exact (hT _ _ _).symm
  · rw [if_neg hl, if_pos (show w.size ≤ l.length from Nat.le_of_not_lt hl), if_neg (fun x => hh x.1), if_neg hv, rdN_1]
    exact h _ _
theorem two_step (w : RowT) (ws : List RowT) (l : List Nat) (r : Rs) (ms : List Nat) (T : List Nat × Flt → Nat → Nat → (List Nat × Flt) × Rs × List Nat) (hm : w.many = 2) (hh : w.name ≠ sHit) (hv : w.name ≠ sMoves)
    (hT : ∀ l' y n m, finP (T (l', some y) n m) = (some y, zR, []))
    (h : ∀ l' n m, refPG (fun _ => true) ws l' (setS r w.name [n, m]) ms = finP (T (l', none) n m)) :
    refPG (fun _ => true) (w :: ws) l r ms = finP (T (tkF1 (tkF1 (l, none) (w.name, w.size)).1 (w.name, w.size)).1 (tkF1 (l, none) (w.name, w.size)).2 (tkF1 (tkF1 (l, none) (w.name, w.size)).1 (w.name, w.size)).2) := by
  rw [refPG, if_pos rfl, hm]
  have e : tkF1 (l, none) (w.name, w.size) = (((tk1 (w.name, w.size) l).2.1, (tk1 (w.name, w.size) l).1), (tk1 (w.name, w.size) l).2.2) := rfl
  rw [e]
  have e1 : tk1 (w.name, w.size) l = if w.size ≤ l.length then (none, l.drop w.size, num (l.take w.size)) else (some (w.name, 17), l, 0) := rfl
  rw [e1]
  by_cases h1 : w.size ≤ l.length
  · rw [if_pos h1]
    dsimp only
    have e2 : tkF1 (l.drop w.size, none) (w.name, w.size) = (((tk1 (w.name, w.size) (l.drop w.size)).2.1, (tk1 (w.name, w.size) (l.drop w.size)).1), (tk1 (w.name, w.size) (l.drop w.size)).2.2) := rfl
    have e3 : tk1 (w.name, w.size) (l.drop w.size) = if w.size ≤ (l.drop w.size).length then (none, (l.drop w.size).drop w.size, num ((l.drop w.size).take w.size)) else (some (w.name, 17), l.drop w.size, 0) := rfl
    rw [e2, e3]
    have hld : (l.drop w.size).length = l.length - w.size := List.length_drop
    by_cases hl : l.length < w.size * 2
    · rw [if_pos hl, if_neg (show ¬ w.size ≤ (l.drop w.size).length by omega)]
      exact (hT _ _ _ _).symm
    · rw [if_neg hl, if_pos (show w.size ≤ (l.drop w.size).length by omega), if_neg (fun x => hh x.1), if_neg hv, rdN_2]
      dsimp only
      rw [List.drop_drop, show w.size + w.size = w.size * 2 from by omega]
      exact h _ _ _
  · rw [if_neg h1, if_pos (by omega)]
    exact (hT _ _ _ _).symm
theorem hit_step (ops : List Nat) (ws : List RowT) (l : List Nat) (hB : Byt l) (r : Rs) (ms : List Nat) (T : List Nat × Flt → Bool → (List Nat × Flt) × Rs × List Nat)
    (hT : ∀ l' y n, finP (T (l', some y) n) = (some y, zR, []))
    (h : ∀ l' n, refPG (fun _ => true) ws l' (setS r sHit [n]) ms = finP (T (l', none) (decide (n = 1)))) :
    refPG (fun _ => true) (⟨sHit, 1, 1, ops⟩ :: ws) l r ms = finP (T (flgF (l, none) sHit).1 (flgF (l, none) sHit).2) := by
  rw [refPG, if_pos rfl]
  dsimp only
  have e : tkF1 (l, none) (sHit, 1) = (((tk1 (sHit, 1) l).2.1, (tk1 (sHit, 1) l).1), (tk1 (sHit, 1) l).2.2) := rfl
  have e1 : tk1 (sHit, 1) l = if 1 ≤ l.length then (none, l.drop 1, num (l.take 1)) else (some (sHit, 17), l, 0) := rfl
  unfold flgF
  rw [e, e1]
  by_cases h1 : 1 ≤ l.length
  · rw [if_pos h1, if_neg (by omega)]
    dsimp only
    have hlt : num (l.take 1) < 256 := by
      have := num_lt 1 (l.take 1) (by rw [List.length_take]; exact Nat.min_eq_left h1) (hB.take 1)
      simpa using this
    have hi : iI (num (l.take 1)) = (num (l.take 1) : Int) := by unfold iI; rw [IntKind.wrap_i64]; omega
    rw [hi, rdN_1]
    have hg : ([num (l.take 1)] : List Nat).getD 0 0 = num (l.take 1) := rfl
    rw [hg]
    obtain ⟨n, hn⟩ : ∃ n, n = num (l.take 1) := ⟨_, rfl⟩
    rw [← hn]
    by_cases h2 : 1 < n
    · rw [if_pos ⟨rfl, h2⟩, if_pos (by omega)]
      exact (hT _ _ _).symm
    · rw [if_neg (fun x => h2 x.2), if_neg (show ¬ sHit = sMoves by decide), Nat.mul_one, if_neg (show ¬ (1 : Int) < (n : Int) by omega)]
      have hd : decide ((n : Int) = 1) = decide (n = 1) := by rw [decide_eq_decide]; omega
      rw [hd]
      exact h _ _
  · rw [if_neg h1, if_pos (by omega)]
    dsimp only
    rw [if_neg (by decide)]
    exact (hT _ _ _).symm
theorem moves_step (ops : List Nat) (l : List Nat) (r : Rs) : refPG (fun _ => true) [⟨sMoves, 4, 1, ops⟩] l r [] = finP ((movT (l, none) sMoves).1, r, (movT (l, none) sMoves).2) := by
  rw [refPG, if_pos rfl]
  dsimp only
  have e : tkF1 (l, none) (sMoves, 4) = (((tk1 (sMoves, 4) l).2.1, (tk1 (sMoves, 4) l).1), (tk1 (sMoves, 4) l).2.2) := rfl
  have e1 : tk1 (sMoves, 4) l = if 4 ≤ l.length then (none, l.drop 4, num (l.take 4)) else (some (sMoves, 17), l, 0) := rfl
  unfold movT
  dsimp only
  rw [e, e1, Nat.mul_one]
  by_cases h1 : 4 ≤ l.length
  · rw [if_pos h1, if_neg (by omega), if_neg (fun x => absurd x.1 (by decide)), if_pos rfl, rdN_1]
    have hg : ([num (l.take 4)] : List Nat).getD 0 0 = num (l.take 4) := rfl
    rw [hg, setS_sMoves]
    obtain ⟨n, hn⟩ : ∃ n, n = num (l.take 4) := ⟨_, rfl⟩
    rw [← hn]
    dsimp only
    by_cases h2 : 65535 < n
    · rw [if_pos h2, if_pos h2]
      exact (finP_some _ _ _ _).symm
    rw [if_neg h2, if_neg h2]
    by_cases h3 : (l.drop 4).length < n
    · rw [if_pos h3, if_pos h3]
      exact (finP_some _ _ _ _).symm
    rw [if_neg h3, if_neg h3, List.nil_append]
    dsimp only
    by_cases h4 : ((l.drop 4).take n).all (fun m => decide (m ≤ 3)) = true
    · rw [if_pos h4, if_pos h4]
      exact finP_none _ _ _ _
    · rw [if_neg h4, if_neg h4]
      exact (finP_some _ _ _ _).symm
  · rw [if_neg h1, if_pos (by omega)]
    exact (finP_some _ _ _ _).symm
theorem filt (st op : Int) (hb : bodyR st op = true) : tolds.filter (hasP st op) = tolds.filter (hasO op) := by
  apply List.filter_congr
  intro w _
  show (bodyR st op && hasR w.ops op) = hasR w.ops op
  rw [hb]; try rfl
theorem body0 (st : Int) (l : List Nat) : refPG (fun _ => true) (tolds.filter (hasO 0)) l (Rs.head st 0) [] = finP (tellT (Rs.head st 0) (l, none)) := by
  have e : tellT (Rs.head st 0) (l, none) = ((tkF1 (l, none) (sToken, 8)).1, { Rs.head st 0 with tok := (tkF1 (l, none) (sToken, 8)).2 }, []) := rfl
  rw [e, show tolds.filter (hasO 0) = [⟨sToken, 8, 1, [48]⟩] from rfl]
  refine one_step ⟨sToken, 8, 1, [48]⟩ _ _ _ _ (fun z n => (z, { Rs.head st 0 with tok := n }, [])) rfl (by decide) (by decide) (fun _ _ _ => finP_some _ _ _ _) ?_
  intro l n0
  rw [setS_sToken]
  dsimp only
  exact finP_none _ _ _ _
theorem body1 (st : Int) (l : List Nat) : refPG (fun _ => true) (tolds.filter (hasO 1)) l (Rs.head st 1) [] = finP (tellT (Rs.head st 1) (l, none)) := by
  have e : tellT (Rs.head st 1) (l, none) = ((l, none), Rs.head st 1, []) := rfl
  rw [e, show tolds.filter (hasO 1) = [] from rfl]
  exact finP_none _ _ _ _
theorem body2 (st : Int) (l : List Nat) : refPG (fun _ => true) (tolds.filter (hasO 2)) l (Rs.head st 2) [] = finP (tellT (Rs.head st 2) (l, none)) := by
  have e : tellT (Rs.head st 2) (l, none) = ((tkF1 (tkF1 (tkF1 (tkF1 (tkF1 (l, none) (sUnit, 1)).1 (sAt, 2)).1 (sAt, 2)).1 (sNew, 4)).1 (sVer, 4)).1, { Rs.head st 2 with unit := iI (tkF1 (l, none) (sUnit, 1)).2, ax := iI (tkF1 (tkF1 (l, none) (sUnit, 1)).1 (sAt, 2)).2, ay := iI (tkF1 (tkF1 (tkF1 (l, none) (sUnit, 1)).1 (sAt, 2)).1 (sAt, 2)).2, new := iI (tkF1 (tkF1 (tkF1 (tkF1 (l, none) (sUnit, 1)).1 (sAt, 2)).1 (sAt, 2)).1 (sNew, 4)).2, ver := iI (tkF1 (tkF1 (tkF1 (tkF1 (tkF1 (l, none) (sUnit, 1)).1 (sAt, 2)).1 (sAt, 2)).1 (sNew, 4)).1 (sVer, 4)).2 }, []) := rfl
  rw [e, show tolds.filter (hasO 2) = [⟨sUnit, 1, 1, [50]⟩, ⟨sAt, 2, 2, [50]⟩, ⟨sNew, 4, 1, [50, 51]⟩, ⟨sVer, 4, 1, [50, 51, 54]⟩] from rfl]
  refine one_step ⟨sUnit, 1, 1, [50]⟩ _ _ _ _ (fun z n => ((tkF1 (tkF1 (tkF1 (tkF1 z (sAt, 2)).1 (sAt, 2)).1 (sNew, 4)).1 (sVer, 4)).1, { Rs.head st 2 with unit := iI n, ax := iI (tkF1 z (sAt, 2)).2, ay := iI (tkF1 (tkF1 z (sAt, 2)).1 (sAt, 2)).2, new := iI (tkF1 (tkF1 (tkF1 z (sAt, 2)).1 (sAt, 2)).1 (sNew, 4)).2, ver := iI (tkF1 (tkF1 (tkF1 (tkF1 z (sAt, 2)).1 (sAt, 2)).1 (sNew, 4)).1 (sVer, 4)).2 }, [])) rfl (by decide) (by decide) (fun _ _ _ => finP_some _ _ _ _) ?_
  intro l n0
  rw [setS_sUnit]
  dsimp only
  refine two_step ⟨sAt, 2, 2, [50]⟩ _ _ _ _ (fun z n m => ((tkF1 (tkF1 z (sNew, 4)).1 (sVer, 4)).1, { Rs.head st 2 with unit := iI n0, ax := iI n, ay := iI m, new := iI (tkF1 z (sNew, 4)).2, ver := iI (tkF1 (tkF1 z (sNew, 4)).1 (sVer, 4)).2 }, [])) rfl (by decide) (by decide) (fun _ _ _ _ => finP_some _ _ _ _) ?_
  intro l n1 m1
  rw [setS_sAt]
  dsimp only
  refine one_step ⟨sNew, 4, 1, [50, 51]⟩ _ _ _ _ (fun z n => ((tkF1 z (sVer, 4)).1, { Rs.head st 2 with unit := iI n0, ax := iI n1, ay := iI m1, new := iI n, ver := iI (tkF1 z (sVer, 4)).2 }, [])) rfl (by decide) (by decide) (fun _ _ _ => finP_some _ _ _ _) ?_
  intro l n2
  rw [setS_sNew]
  dsimp only
  refine one_step ⟨sVer, 4, 1, [50, 51, 54]⟩ _ _ _ _ (fun z n => (z, { Rs.head st 2 with unit := iI n0, ax := iI n1, ay := iI m1, new := iI n2, ver := iI n }, [])) rfl (by decide) (by decide) (fun _ _ _ => finP_some _ _ _ _) ?_
  intro l n3
  rw [setS_sVer]
  dsimp only
  exact finP_none _ _ _ _
theorem body3 (st : Int) (l : List Nat) : refPG (fun _ => true) (tolds.filter (hasO 3)) l (Rs.head st 3) [] = finP (tellT (Rs.head st 3) (l, none)) := by
  have e : tellT (Rs.head st 3) (l, none) = ((tkF1 (tkF1 (tkF1 (l, none) (sNew, 4)).1 (sExpl, 4)).1 (sVer, 4)).1, { Rs.head st 3 with new := iI (tkF1 (l, none) (sNew, 4)).2, expl := iI (tkF1 (tkF1 (l, none) (sNew, 4)).1 (sExpl, 4)).2, ver := iI (tkF1 (tkF1 (tkF1 (l, none) (sNew, 4)).1 (sExpl, 4)).1 (sVer, 4)).2 }, []) := rfl
  rw [e, show tolds.filter (hasO 3) = [⟨sNew, 4, 1, [50, 51]⟩, ⟨sExpl, 4, 1, [51, 54]⟩, ⟨sVer, 4, 1, [50, 51, 54]⟩] from rfl]
  refine one_step ⟨sNew, 4, 1, [50, 51]⟩ _ _ _ _ (fun z n => ((tkF1 (tkF1 z (sExpl, 4)).1 (sVer, 4)).1, { Rs.head st 3 with new := iI n, expl := iI (tkF1 z (sExpl, 4)).2, ver := iI (tkF1 (tkF1 z (sExpl, 4)).1 (sVer, 4)).2 }, [])) rfl (by decide) (by decide) (fun _ _ _ => finP_some _ _ _ _) ?_
  intro l n0
  rw [setS_sNew]
  dsimp only
  refine one_step ⟨sExpl, 4, 1, [51, 54]⟩ _ _ _ _ (fun z n => ((tkF1 z (sVer, 4)).1, { Rs.head st 3 with new := iI n0, expl := iI n, ver := iI (tkF1 z (sVer, 4)).2 }, [])) rfl (by decide) (by decide) (fun _ _ _ => finP_some _ _ _ _) ?_
  intro l n1
  rw [setS_sExpl]
  dsimp only
  refine one_step ⟨sVer, 4, 1, [50, 51, 54]⟩ _ _ _ _ (fun z n => (z, { Rs.head st 3 with new := iI n0, expl := iI n1, ver := iI n }, [])) rfl (by decide) (by decide) (fun _ _ _ => finP_some _ _ _ _) ?_
  intro l n2
  rw [setS_sVer]
  dsimp only
  exact finP_none _ _ _ _
theorem body4 (st : Int) (l : List Nat) (hB : Byt l) : refPG (fun _ => true) (tolds.filter (hasO 4)) l (Rs.head st 4) [] = finP (tellT (Rs.head st 4) (l, none)) := by
  have e : tellT (Rs.head st 4) (l, none) = ((movT (tkF1 (tkF1 (tkF1 (flgF (l, none) sHit).1 (sCost, 8)).1 (sSettled, 4)).1 (sLeft, 4)).1 sMoves).1, { Rs.head st 4 with hit := (flgF (l, none) sHit).2, cost := (tkF1 (flgF (l, none) sHit).1 (sCost, 8)).2, settled := iI (tkF1 (tkF1 (flgF (l, none) sHit).1 (sCost, 8)).1 (sSettled, 4)).2, left := iI (tkF1 (tkF1 (tkF1 (flgF (l, none) sHit).1 (sCost, 8)).1 (sSettled, 4)).1 (sLeft, 4)).2 }, (movT (tkF1 (tkF1 (tkF1 (flgF (l, none) sHit).1 (sCost, 8)).1 (sSettled, 4)).1 (sLeft, 4)).1 sMoves).2) := rfl
  rw [e, show tolds.filter (hasO 4) = [⟨sHit, 1, 1, [52, 53]⟩, ⟨sCost, 8, 1, [52, 53]⟩, ⟨sSettled, 4, 1, [52, 53]⟩, ⟨sLeft, 4, 1, [52, 53, 54]⟩, ⟨sMoves, 4, 1, [52, 53]⟩] from rfl]
  refine hit_step [52, 53] _ _ hB _ _ (fun z n => ((movT (tkF1 (tkF1 (tkF1 z (sCost, 8)).1 (sSettled, 4)).1 (sLeft, 4)).1 sMoves).1, { Rs.head st 4 with hit := n, cost := (tkF1 z (sCost, 8)).2, settled := iI (tkF1 (tkF1 z (sCost, 8)).1 (sSettled, 4)).2, left := iI (tkF1 (tkF1 (tkF1 z (sCost, 8)).1 (sSettled, 4)).1 (sLeft, 4)).2 }, (movT (tkF1 (tkF1 (tkF1 z (sCost, 8)).1 (sSettled, 4)).1 (sLeft, 4)).1 sMoves).2)) (fun _ _ _ => finP_some _ _ _ _) ?_
  intro l n0
  rw [setS_sHit]
  dsimp only
  refine one_step ⟨sCost, 8, 1, [52, 53]⟩ _ _ _ _ (fun z n => ((movT (tkF1 (tkF1 z (sSettled, 4)).1 (sLeft, 4)).1 sMoves).1, { Rs.head st 4 with hit := decide (n0 = 1), cost := n, settled := iI (tkF1 z (sSettled, 4)).2, left := iI (tkF1 (tkF1 z (sSettled, 4)).1 (sLeft, 4)).2 }, (movT (tkF1 (tkF1 z (sSettled, 4)).1 (sLeft, 4)).1 sMoves).2)) rfl (by decide) (by decide) (fun _ _ _ => finP_some _ _ _ _) ?_
  intro l n1
  rw [setS_sCost]
  dsimp only
  refine one_step ⟨sSettled, 4, 1, [52, 53]⟩ _ _ _ _ (fun z n => ((movT (tkF1 z (sLeft, 4)).1 sMoves).1, { Rs.head st 4 with hit := decide (n0 = 1), cost := n1, settled := iI n, left := iI (tkF1 z (sLeft, 4)).2 }, (movT (tkF1 z (sLeft, 4)).1 sMoves).2)) rfl (by decide) (by decide) (fun _ _ _ => finP_some _ _ _ _) ?_
  intro l n2
  rw [setS_sSettled]
  dsimp only
  refine one_step ⟨sLeft, 4, 1, [52, 53, 54]⟩ _ _ _ _ (fun z n => ((movT z sMoves).1, { Rs.head st 4 with hit := decide (n0 = 1), cost := n1, settled := iI n2, left := iI n }, (movT z sMoves).2)) rfl (by decide) (by decide) (fun _ _ _ => finP_some _ _ _ _) ?_
  intro l n3
  rw [setS_sLeft]
  dsimp only
  exact moves_step _ _ _
theorem body5 (st : Int) (l : List Nat) (hB : Byt l) : refPG (fun _ => true) (tolds.filter (hasO 5)) l (Rs.head st 5) [] = finP (tellT (Rs.head st 5) (l, none)) := by
  have e : tellT (Rs.head st 5) (l, none) = ((movT (tkF1 (tkF1 (tkF1 (flgF (l, none) sHit).1 (sCost, 8)).1 (sSettled, 4)).1 (sLeft, 4)).1 sMoves).1, { Rs.head st 5 with hit := (flgF (l, none) sHit).2, cost := (tkF1 (flgF (l, none) sHit).1 (sCost, 8)).2, settled := iI (tkF1 (tkF1 (flgF (l, none) sHit).1 (sCost, 8)).1 (sSettled, 4)).2, left := iI (tkF1 (tkF1 (tkF1 (flgF (l, none) sHit).1 (sCost, 8)).1 (sSettled, 4)).1 (sLeft, 4)).2 }, (movT (tkF1 (tkF1 (tkF1 (flgF (l, none) sHit).1 (sCost, 8)).1 (sSettled, 4)).1 (sLeft, 4)).1 sMoves).2) := rfl
  rw [e, show tolds.filter (hasO 5) = [⟨sHit, 1, 1, [52, 53]⟩, ⟨sCost, 8, 1, [52, 53]⟩, ⟨sSettled, 4, 1, [52, 53]⟩, ⟨sLeft, 4, 1, [52, 53, 54]⟩, ⟨sMoves, 4, 1, [52, 53]⟩] from rfl]
  refine hit_step [52, 53] _ _ hB _ _ (fun z n => ((movT (tkF1 (tkF1 (tkF1 z (sCost, 8)).1 (sSettled, 4)).1 (sLeft, 4)).1 sMoves).1, { Rs.head st 5 with hit := n, cost := (tkF1 z (sCost, 8)).2, settled := iI (tkF1 (tkF1 z (sCost, 8)).1 (sSettled, 4)).2, left := iI (tkF1 (tkF1 (tkF1 z (sCost, 8)).1 (sSettled, 4)).1 (sLeft, 4)).2 }, (movT (tkF1 (tkF1 (tkF1 z (sCost, 8)).1 (sSettled, 4)).1 (sLeft, 4)).1 sMoves).2)) (fun _ _ _ => finP_some _ _ _ _) ?_
  intro l n0
  rw [setS_sHit]
  dsimp only
  refine one_step ⟨sCost, 8, 1, [52, 53]⟩ _ _ _ _ (fun z n => ((movT (tkF1 (tkF1 z (sSettled, 4)).1 (sLeft, 4)).1 sMoves).1, { Rs.head st 5 with hit := decide (n0 = 1), cost := n, settled := iI (tkF1 z (sSettled, 4)).2, left := iI (tkF1 (tkF1 z (sSettled, 4)).1 (sLeft, 4)).2 }, (movT (tkF1 (tkF1 z (sSettled, 4)).1 (sLeft, 4)).1 sMoves).2)) rfl (by decide) (by decide) (fun _ _ _ => finP_some _ _ _ _) ?_
  intro l n1
  rw [setS_sCost]
  dsimp only
  refine one_step ⟨sSettled, 4, 1, [52, 53]⟩ _ _ _ _ (fun z n => ((movT (tkF1 z (sLeft, 4)).1 sMoves).1, { Rs.head st 5 with hit := decide (n0 = 1), cost := n1, settled := iI n, left := iI (tkF1 z (sLeft, 4)).2 }, (movT (tkF1 z (sLeft, 4)).1 sMoves).2)) rfl (by decide) (by decide) (fun _ _ _ => finP_some _ _ _ _) ?_
  intro l n2
  rw [setS_sSettled]
  dsimp only
  refine one_step ⟨sLeft, 4, 1, [52, 53, 54]⟩ _ _ _ _ (fun z n => ((movT z sMoves).1, { Rs.head st 5 with hit := decide (n0 = 1), cost := n1, settled := iI n2, left := iI n }, (movT z sMoves).2)) rfl (by decide) (by decide) (fun _ _ _ => finP_some _ _ _ _) ?_
  intro l n3
  rw [setS_sLeft]
  dsimp only
  exact moves_step _ _ _
theorem body6 (st : Int) (l : List Nat) : refPG (fun _ => true) (tolds.filter (hasO 6)) l (Rs.head st 6) [] = finP (tellT (Rs.head st 6) (l, none)) := by
  have e : tellT (Rs.head st 6) (l, none) = ((tkF1 (tkF1 (tkF1 (tkF1 (tkF1 (tkF1 (l, none) (sExpl, 4)).1 (sVer, 4)).1 (sLeft, 4)).1 (sUnits, 1)).1 (sCache, 1)).1 (sSess, 1)).1, { Rs.head st 6 with expl := iI (tkF1 (l, none) (sExpl, 4)).2, ver := iI (tkF1 (tkF1 (l, none) (sExpl, 4)).1 (sVer, 4)).2, left := iI (tkF1 (tkF1 (tkF1 (l, none) (sExpl, 4)).1 (sVer, 4)).1 (sLeft, 4)).2, units := iI (tkF1 (tkF1 (tkF1 (tkF1 (l, none) (sExpl, 4)).1 (sVer, 4)).1 (sLeft, 4)).1 (sUnits, 1)).2, cache := iI (tkF1 (tkF1 (tkF1 (tkF1 (tkF1 (l, none) (sExpl, 4)).1 (sVer, 4)).1 (sLeft, 4)).1 (sUnits, 1)).1 (sCache, 1)).2, sess := iI (tkF1 (tkF1 (tkF1 (tkF1 (tkF1 (tkF1 (l, none) (sExpl, 4)).1 (sVer, 4)).1 (sLeft, 4)).1 (sUnits, 1)).1 (sCache, 1)).1 (sSess, 1)).2 }, []) := rfl
  rw [e, show tolds.filter (hasO 6) = [⟨sExpl, 4, 1, [51, 54]⟩, ⟨sVer, 4, 1, [50, 51, 54]⟩, ⟨sLeft, 4, 1, [52, 53, 54]⟩, ⟨sUnits, 1, 1, [54]⟩, ⟨sCache, 1, 1, [54]⟩, ⟨sSess, 1, 1, [54]⟩] from rfl]
  refine one_step ⟨sExpl, 4, 1, [51, 54]⟩ _ _ _ _ (fun z n => ((tkF1 (tkF1 (tkF1 (tkF1 (tkF1 z (sVer, 4)).1 (sLeft, 4)).1 (sUnits, 1)).1 (sCache, 1)).1 (sSess, 1)).1, { Rs.head st 6 with expl := iI n, ver := iI (tkF1 z (sVer, 4)).2, left := iI (tkF1 (tkF1 z (sVer, 4)).1 (sLeft, 4)).2, units := iI (tkF1 (tkF1 (tkF1 z (sVer, 4)).1 (sLeft, 4)).1 (sUnits, 1)).2, cache := iI (tkF1 (tkF1 (tkF1 (tkF1 z (sVer, 4)).1 (sLeft, 4)).1 (sUnits, 1)).1 (sCache, 1)).2, sess := iI (tkF1 (tkF1 (tkF1 (tkF1 (tkF1 z (sVer, 4)).1 (sLeft, 4)).1 (sUnits, 1)).1 (sCache, 1)).1 (sSess, 1)).2 }, [])) rfl (by decide) (by decide) (fun _ _ _ => finP_some _ _ _ _) ?_
  intro l n0
  rw [setS_sExpl]
  dsimp only
  refine one_step ⟨sVer, 4, 1, [50, 51, 54]⟩ _ _ _ _ (fun z n => ((tkF1 (tkF1 (tkF1 (tkF1 z (sLeft, 4)).1 (sUnits, 1)).1 (sCache, 1)).1 (sSess, 1)).1, { Rs.head st 6 with expl := iI n0, ver := iI n, left := iI (tkF1 z (sLeft, 4)).2, units := iI (tkF1 (tkF1 z (sLeft, 4)).1 (sUnits, 1)).2, cache := iI (tkF1 (tkF1 (tkF1 z (sLeft, 4)).1 (sUnits, 1)).1 (sCache, 1)).2, sess := iI (tkF1 (tkF1 (tkF1 (tkF1 z (sLeft, 4)).1 (sUnits, 1)).1 (sCache, 1)).1 (sSess, 1)).2 }, [])) rfl (by decide) (by decide) (fun _ _ _ => finP_some _ _ _ _) ?_
  intro l n1
  rw [setS_sVer]
  dsimp only
  refine one_step ⟨sLeft, 4, 1, [52, 53, 54]⟩ _ _ _ _ (fun z n => ((tkF1 (tkF1 (tkF1 z (sUnits, 1)).1 (sCache, 1)).1 (sSess, 1)).1, { Rs.head st 6 with expl := iI n0, ver := iI n1, left := iI n, units := iI (tkF1 z (sUnits, 1)).2, cache := iI (tkF1 (tkF1 z (sUnits, 1)).1 (sCache, 1)).2, sess := iI (tkF1 (tkF1 (tkF1 z (sUnits, 1)).1 (sCache, 1)).1 (sSess, 1)).2 }, [])) rfl (by decide) (by decide) (fun _ _ _ => finP_some _ _ _ _) ?_
  intro l n2
  rw [setS_sLeft]
  dsimp only
  refine one_step ⟨sUnits, 1, 1, [54]⟩ _ _ _ _ (fun z n => ((tkF1 (tkF1 z (sCache, 1)).1 (sSess, 1)).1, { Rs.head st 6 with expl := iI n0, ver := iI n1, left := iI n2, units := iI n, cache := iI (tkF1 z (sCache, 1)).2, sess := iI (tkF1 (tkF1 z (sCache, 1)).1 (sSess, 1)).2 }, [])) rfl (by decide) (by decide) (fun _ _ _ => finP_some _ _ _ _) ?_
  intro l n3
  rw [setS_sUnits]
  dsimp only
  refine one_step ⟨sCache, 1, 1, [54]⟩ _ _ _ _ (fun z n => ((tkF1 z (sSess, 1)).1, { Rs.head st 6 with expl := iI n0, ver := iI n1, left := iI n2, units := iI n3, cache := iI n, sess := iI (tkF1 z (sSess, 1)).2 }, [])) rfl (by decide) (by decide) (fun _ _ _ => finP_some _ _ _ _) ?_
  intro l n4
  rw [setS_sCache]
  dsimp only
  refine one_step ⟨sSess, 1, 1, [54]⟩ _ _ _ _ (fun z n => (z, { Rs.head st 6 with expl := iI n0, ver := iI n1, left := iI n2, units := iI n3, cache := iI n4, sess := iI n }, [])) rfl (by decide) (by decide) (fun _ _ _ => finP_some _ _ _ _) ?_
  intro l n5
  rw [setS_sSess]
  dsimp only
  exact finP_none _ _ _ _
theorem par_same (l : List Nat) (hB : Byt l) : par l = rPar l := by
  match l, hB with
  | [], _ => rfl
  | [s], hB => exact finP_some _ _ _ _
  | s :: o :: l, hB =>
    have hs : s < 256 := hB s List.mem_cons_self
    have ho : o < 256 := hB o (List.mem_cons_of_mem _ List.mem_cons_self)
    have hBl : Byt l := fun x hx => hB x (List.mem_cons_of_mem _ (List.mem_cons_of_mem _ hx))
    have h1 : tkF1 (s :: o :: l, none) (sStat, 1) = ((o :: l, none), s) := by
      show (((tk1 (sStat, 1) (s :: o :: l)).2.1, (tk1 (sStat, 1) (s :: o :: l)).1), (tk1 (sStat, 1) (s :: o :: l)).2.2) = _
      unfold tk1
      rw [if_pos (by simp)]
      simp [num]
    have h2 : tkF1 (o :: l, none) (sOp, 1) = ((l, none), o) := by
      show (((tk1 (sOp, 1) (o :: l)).2.1, (tk1 (sOp, 1) (o :: l)).1), (tk1 (sOp, 1) (o :: l)).2.2) = _
      unfold tk1
      rw [if_pos (by simp)]
      simp [num]
    have is : iI s = (s : Int) := by unfold iI; rw [IntKind.wrap_i64]; omega
    have io : iI o = (o : Int) := by unfold iI; rw [IntKind.wrap_i64]; omega
    have et : toldT (s :: o :: l, none) = toldT2 s o (l, none) := by
      unfold toldT
      simp only [h1, h2, is, io]
    have er : rPar (s :: o :: l) = if opensE (s : Int) (o : Int) ≠ 0 then (some (sOp, opensE (s : Int) (o : Int)), zR, []) else refPG (hasP (s : Int) (o : Int)) tolds l (Rs.head s o) [] := by
      unfold rPar
      rw [if_neg (by simp), if_neg (by simp)]
      rfl
    unfold par
    rw [et, er]
    unfold toldT2
    dsimp only
    by_cases ha : 7 ≤ (o : Int) ∧ (o : Int) ≠ 255
    · have : opensE (s : Int) (o : Int) = 18 := by unfold opensE; rw [if_pos (by omega)]
      rw [this, if_pos ha, if_pos (by decide)]
      exact finP_some _ _ _ _
    rw [if_neg ha]
    by_cases hb : (o : Int) = 255 ∧ (s : Int) = 0
    · have : opensE (s : Int) (o : Int) = 1 := by unfold opensE; rw [if_neg (by omega), if_pos hb]
      rw [this, if_pos hb, if_pos (by decide)]
      exact finP_some _ _ _ _
    rw [if_neg hb]
    have h0 : opensE (s : Int) (o : Int) = 0 := by unfold opensE; rw [if_neg (by omega), if_neg (by omega)]
    rw [if_neg (show ¬ opensE (s : Int) (o : Int) ≠ 0 from fun h => h h0), refPG_filter, ← bodyB_R h0]
    by_cases hc : bodyR (s : Int) (o : Int) = true
    · rw [if_pos hc, filt _ _ hc]
      have h6 : (o : Int) ≤ 6 := by unfold bodyR at hc; simp at hc; omega
      have hk : o = 0 ∨ o = 1 ∨ o = 2 ∨ o = 3 ∨ o = 4 ∨ o = 5 ∨ o = 6 := by omega
      rcases hk with rfl | rfl | rfl | rfl | rfl | rfl | rfl
      · exact (body0 _ _).symm
      · exact (body1 _ _).symm
      · exact (body2 _ _).symm
      · exact (body3 _ _).symm
      · exact (body4 _ _ hBl).symm
      · exact (body5 _ _ hBl).symm
      · exact (body6 _ _).symm
    · rw [if_neg hc]
      have hf : tolds.filter (hasP (s : Int) (o : Int)) = [] := by
        rw [List.filter_eq_nil_iff]
        intro w _ h
        unfold hasP at h
        rw [Bool.and_eq_true] at h
        exact hc h.1
      rw [hf]
      exact (finP_none _ _ _ _).symm
end Go.Proofs.YtnaclkdjchnbpaaDoor
end
section
namespace Go.Proofs.YtnaclkdjchnbpaaDoor
open Go Go.K

def i64 (n : Nat) : Int := IntKind.i64.wrap (n : Int)
def setR (r : Rq) (w : RowT) (x : List Nat) : Rq :=
  if w.name = sOp then { r with op := i64 (x.getD 0 0) } else if w.name = sToken then { r with tok := x.getD 0 0 } else if w.name = sUnit then { r with unit := i64 (x.getD 0 0) } else if w.name = sDir then { r with dir := i64 (x.getD 0 0) }
  else if w.name = sFrom then { r with fx := i64 (x.getD 0 0), fy := i64 (x.getD 1 0) } else if w.name = sTo then { r with tx := i64 (x.getD 0 0), ty := i64 (x.getD 1 0) } else r
def refG : List RowT → Nat → List Nat → Rq → Flt × Rq
  | [], _, l, r => if 0 < l.length then (some (sEnd, 12), Rq.zero) else (none, r)
  | w :: ws, k, l, r => if 0 < k ∧ hasR w.ops r.op = false then refG ws (k + 1) l r else if l.length < w.size * w.many then (some (w.name, 17), Rq.zero)
    else if w.name = sOp ∧ 6 < (setR r w (rdN w.size w.many l)).op then (some (sOp, 18), Rq.zero) else refG ws (k + 1) (l.drop (w.size * w.many)) (setR r w (rdN w.size w.many l))
def rDec (l : List Nat) : Flt × Rq := refG asked 0 l Rq.zero
theorem rdN_snoc (s m : Nat) (l : List Nat) : rdN s (m + 1) l = rdN s m l ++ [num ((l.drop (m * s)).take s)] := by
  unfold rdN
  rw [List.range_succ, List.map_append]
  rfl
end Go.Proofs.YtnaclkdjchnbpaaDoor
end

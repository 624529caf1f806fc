/- Part 6 of the texts: msg.Parse; That the program's response of a payload is the document's, ; The document's request of a payload, row by row; That the program's request of a payload is the document's; The chapter's examples, but for the response; What is put is taken again, and what is taken is put again:  -/
import Derived.Test.YtnaclkdjchnbpaaDoorTie
import Derived.Test.YtnaclkdjchnbpaaDoorCards
import Derived.SevenTiedAt
import Derived.LaidHandle
import Derived.Test.YtnaclkdjchnbpaaDoorZE
section
namespace Go.Proofs.YtnaclkdjchnbpaaDoor
open Go Go.K

def parF (l : List Nat) : Flt := if 0 < (toldT (l, none)).1.1.length then note (toldT (l, none)).1.2 sEnd 12 else (toldT (l, none)).1.2
def ParR (β : Nat → Option Obj) (l : List Nat) (v : Value) (σ : Heap) : Prop := match parF l with
  | some y => ∃ e1 e2, v = .tuple #[.agg zR.cells.toArray, .iface 100 (.pointer (some ⟨e1, 0, none⟩))] ∧ σ = [(e1, cl [.string sRes, .iface 100 (.pointer (some ⟨e2, 0, none⟩))] 108), (e2, cl [.string y.1, .iface 32 (.int .i64 y.2)] 108)]
  | none => ∃ mv, MvR β mv (toldT (l, none)).2.2 σ ∧ v = .tuple #[.agg { (toldT (l, none)).2.1 with mv := mv }.cells.toArray, .nilIface]
theorem endP_p (β : Nat → Option Obj) (bf n : Nat) (md : Md) (y : Flt) (σ : Heap) (hf : FormB β bf sRes md y σ) {rest : Bool} (hb : rest = decide (0 < n)) :
    Go.K.Tr Tryd.prog 30 [.pointer (some ⟨bf, 0, none⟩), .bool rest, .int .i64 12] β σ (fun v σ' => ∃ wv rv dv ev φ ε, FormH β bf md wv rv dv φ ∧ EV sRes (if 0 < n then note y sEnd 12 else y) ev ε ∧ v = ev ∧ σ' = (bf, cl [.string sRes, wv, rv, dv, ev] 80) :: (ε ++ φ)) := by
  subst hb
  refine (end_p β bf sRes md y σ hf _ 12).mono ?_
  simp only [decide_eq_true_eq]
  exact fun v s h => h
theorem MvR.slice {β : Nat → Option Obj} {mv : Value} {ms : List Nat} {μ : Heap} (h : MvR β mv ms μ) : ∃ p n c, mv = .slice p n c := by
  obtain ⟨p, c, e, _⟩ := h
  exact ⟨p, _, c, e⟩
set_option maxHeartbeats 16000000 in
theorem Parse_p (β : Nat → Option Obj) (ht : TBE β) (m c : Nat) (l : List Nat) (p : Option Addr) (hl : l.length = m) (hB : Byt l) (hv : SL β [] 1 m (by8 l) p) (hpc : p = none → c = 0 ∧ m = 0) (hm : m ≤ 900000) :
    Go.K.Tr Tryd.prog 21 [.slice p m c] β [] (fun v σ' => ParR β l v σ') := by
  refine Tr.sub ?_
  refine Tr.of_body Tryd.tt (args := [.slice p m c]) (fr := [(0, true, .slice p m c)]) Tryd.func21 rfl (by decide) rfl Tryd.ntmps21 rfl rfl ?_
  intro E hE
  subst hE
  repeat' (first | refine KW.seq ?_ | refine KW.region ?_ | refine KO.nil ?_ | refine At.then_normal ?_ | refine KW.skip ?_ | refine KW.ret ?_ | refine At.then_ret ?_ | refine KW.block ?_ | refine KW.exit ?_ | refine At.block_normal ?_ | refine At.block_ret ?_ | refine At.loop_ret ?_ | refine At.then_exit ?_ | refine At.block_here rfl ?_ | refine At.block_there rfl ?_ | refine At.loop_exit ?_ | refine At.cut_ret ?_ | refine At.cutA_ret ?_ | refine At.cutA_exit ?_ | refine At.cut_exit ?_ | (refine At.cut_same ?_; repeat' (first | exact FLe.nil _ | refine FLe.cons rfl rfl ?_)) | refine KW.cond_t rfl (by first | with_reducible rfl | decide) ?_ | refine KW.cond_f rfl (by first | with_reducible rfl | decide) ?_ | refine KW.scope ?_ | refine KW.label ?_ | refine At.scope_normal ?_ | refine At.scope_ret ?_ | refine At.scope_exit ?_ | refine KW.drawM (id := 7) [0, 1, 1, 3] [] (by decide +kernel) rfl rfl rfl ?_ | refine KDH.mid2 ?_ | refine KDH.mid3 ?_ | refine KDH.done ?_ | refine KDM.head0 ?_ | refine KDM.head1 ?_ | refine KDM.fin ?_ | refine KDH.skip0' rfl (by first | with_reducible rfl | decide) rfl rfl ?_ | refine KDH.skip1' rfl (by first | with_reducible rfl | decide) rfl rfl ?_ | (refine KDM.eo30 rfl rfl (eo_store (i := _) rfl rfl rfl rfl rfl rfl rfl ?sg ?sw ?so ?ss) ?_; (case sg => first | exact (rfl : getI 0 _ = _) | exact (rfl : getI 1 _ = _) | exact (rfl : getI 2 _ = _) | exact (rfl : getI 3 _ = _) | exact (rfl : getI 4 _ = _) | exact (rfl : getI 5 _ = _) | exact (rfl : getI 6 _ = _) | exact (rfl : getI 7 _ = _)); (case sw => rfl); (case so => rfl); (case ss => rfl); rintro _ _ rfl; refine ⟨?sub, ?_⟩; (case sub => (intro _ hp; first | exact hp | (cases hp; done) | (repeat (first | exact hp | apply List.mem_cons_of_mem | apply List.mem_append_right)) | (simp_all; done)))) | refine KW.draw 0 (by decide +kernel) ?_ | refine KW.drawU rfl (by decide +kernel) ?_ | refine KD.zero ?_ | ((first | apply KO.val rfl rfl rfl ?kq ?_ | apply KD.val rfl rfl rfl ?kq ?_ | apply KDH.val0 rfl rfl rfl ?kq ?_ | apply KDH.val1 rfl rfl rfl ?kq ?_ | apply KDH.valIn0 rfl rfl rfl ?kq ?_ | apply KDH.valIn1 rfl rfl rfl ?kq ?_ | apply KDM.q2f rfl rfl rfl ?kq ?ksub ?_ | apply KDM.q2t rfl rfl rfl ?kq ?ksub ?_); (try (case ksub => (intro _ hp; first | exact hp | (cases hp; done) | (repeat (first | exact hp | apply List.mem_cons_of_mem | apply List.mem_append_right)) | (simp_all; done)))); (case kq => ((first | apply qt_ev rfl ?hi | ((first | apply qt_load1 rfl rfl ?hi rfl rfl ?hm ?hc | apply qt_loadN rfl rfl ?hi rfl rfl rfl ?hm ?hc); (case hm => repeat (first | exact List.Mem.head _ | apply List.Mem.tail _ | apply List.mem_append_right _)); (case hc => rfl)) | apply qt_cap rfl rfl ?hi rfl | apply qt_build rfl rfl ?hi rfl | apply qt_eqs rfl rfl rfl ?hi rfl (Or.inl rfl) | apply qt_nes rfl rfl rfl ?hi rfl (Or.inl rfl) | apply qt_eqs rfl rfl rfl ?hi rfl (Or.inr ⟨rfl, rfl, rfl⟩) | apply qt_nes rfl rfl rfl ?hi rfl (Or.inr ⟨rfl, rfl, rfl⟩)); (case hi => (intro h; (repeat' (first | with_reducible exact alln | with_reducible refine allc ?_ ?_ | with_reducible refine andi ?_ ?_)); all_goals (first | with_reducible rfl | with_reducible exact h | with_reducible exact andl h | with_reducible exact andr h | with_reducible exact andl (andl h) | (simp only [h, Bool.and_self]; done) | (simp [h]; done) | (simp_all; done))))))) | (refine KO.alloc rfl rfl rfl rfl rfl rfl ?_; intro _ _) | (apply KO.store (i := _) rfl rfl rfl rfl rfl rfl rfl rfl ?hl ?sg ?hw ?ho ?hs; (case sg => first | exact (rfl : getI 0 _ = _) | exact (rfl : getI 1 _ = _) | exact (rfl : getI 2 _ = _) | exact (rfl : getI 3 _ = _) | exact (rfl : getI 4 _ = _) | exact (rfl : getI 5 _ = _) | exact (rfl : getI 6 _ = _) | exact (rfl : getI 7 _ = _)); (case hl => rfl); (case hw => rfl); (case ho => rfl); (case hs => rfl)) | (refine KW.cond rfl ?_ ?_ <;> (intro hc; try simp only [kBool] at hc)) | exact absurd trivial ‹¬True› | fail)
  rename_i b2 _ b4 _
  refine KO.callF [] [(b4, cl [.int .i64 0, .int .i64 0, .int .u64 0, .int .i64 0, .int .i64 0, .int .i64 0, .int .i64 0, .int .i64 0, .int .i64 0, .bool false, .int .u64 0, .int .i64 0, .int .i64 0, .slice none 0 0, .int .i64 0, .int .i64 0, .int .i64 0] 44), (b2, cl [.int .i64 0, .int .i64 0, .int .u64 0, .int .i64 0, .int .i64 0, .int .i64 0, .int .i64 0, .int .i64 0, .int .i64 0, .bool false, .int .u64 0, .int .i64 0, .int .i64 0, .slice none 0 0, .int .i64 0, .int .i64 0, .int .i64 0] 44)] (by classical exact List.perm_iff_count.2 (fun _ => by first | (simp only [List.count_append, List.count_cons, List.count_nil, List.append_assoc, List.cons_append, List.nil_append]; done) | (simp only [List.count_append, List.count_cons, List.count_nil, List.append_assoc, List.cons_append, List.nil_append]; omega))) rfl rfl rfl rfl rfl rfl rfl (reads_p _ sRes m c l p hl hB hv hpc (by omega)) ?_
  rintro _ s ⟨bf, rfl, hf⟩
  repeat' (first | refine KW.seq ?_ | refine KW.region ?_ | refine KO.nil ?_ | refine At.then_normal ?_ | refine KW.skip ?_ | refine KW.ret ?_ | refine At.then_ret ?_ | refine KW.block ?_ | refine KW.exit ?_ | refine At.block_normal ?_ | refine At.block_ret ?_ | refine At.loop_ret ?_ | refine At.then_exit ?_ | refine At.block_here rfl ?_ | refine At.block_there rfl ?_ | refine At.loop_exit ?_ | refine At.cut_ret ?_ | refine At.cutA_ret ?_ | refine At.cutA_exit ?_ | refine At.cut_exit ?_ | (refine At.cut_same ?_; repeat' (first | exact FLe.nil _ | refine FLe.cons rfl rfl ?_)) | refine KW.cond_t rfl (by first | with_reducible rfl | decide) ?_ | refine KW.cond_f rfl (by first | with_reducible rfl | decide) ?_ | refine KW.scope ?_ | refine KW.label ?_ | refine At.scope_normal ?_ | refine At.scope_ret ?_ | refine At.scope_exit ?_ | refine KW.drawM (id := 7) [0, 1, 1, 3] [] (by decide +kernel) rfl rfl rfl ?_ | refine KDH.mid2 ?_ | refine KDH.mid3 ?_ | refine KDH.done ?_ | refine KDM.head0 ?_ | refine KDM.head1 ?_ | refine KDM.fin ?_ | refine KDH.skip0' rfl (by first | with_reducible rfl | decide) rfl rfl ?_ | refine KDH.skip1' rfl (by first | with_reducible rfl | decide) rfl rfl ?_ | (refine KDM.eo30 rfl rfl (eo_store (i := _) rfl rfl rfl rfl rfl rfl rfl ?sg ?sw ?so ?ss) ?_; (case sg => first | exact (rfl : getI 0 _ = _) | exact (rfl : getI 1 _ = _) | exact (rfl : getI 2 _ = _) | exact (rfl : getI 3 _ = _) | exact (rfl : getI 4 _ = _) | exact (rfl : getI 5 _ = _) | exact (rfl : getI 6 _ = _) | exact (rfl : getI 7 _ = _)); (case sw => rfl); (case so => rfl); (case ss => rfl); rintro _ _ rfl; refine ⟨?sub, ?_⟩; (case sub => (intro _ hp; first | exact hp | (cases hp; done) | (repeat (first | exact hp | apply List.mem_cons_of_mem | apply List.mem_append_right)) | (simp_all; done)))) | refine KW.draw 0 (by decide +kernel) ?_ | refine KW.drawU rfl (by decide +kernel) ?_ | refine KD.zero ?_ | ((first | apply KO.val rfl rfl rfl ?kq ?_ | apply KD.val rfl rfl rfl ?kq ?_ | apply KDH.val0 rfl rfl rfl ?kq ?_ | apply KDH.val1 rfl rfl rfl ?kq ?_ | apply KDH.valIn0 rfl rfl rfl ?kq ?_ | apply KDH.valIn1 rfl rfl rfl ?kq ?_ | apply KDM.q2f rfl rfl rfl ?kq ?ksub ?_ | apply KDM.q2t rfl rfl rfl ?kq ?ksub ?_); (try (case ksub => (intro _ hp; first | exact hp | (cases hp; done) | (repeat (first | exact hp | apply List.mem_cons_of_mem | apply List.mem_append_right)) | (simp_all; done)))); (case kq => ((first | apply qt_ev rfl ?hi | ((first | apply qt_load1 rfl rfl ?hi rfl rfl ?hm ?hc | apply qt_loadN rfl rfl ?hi rfl rfl rfl ?hm ?hc); (case hm => repeat (first | exact List.Mem.head _ | apply List.Mem.tail _ | apply List.mem_append_right _)); (case hc => rfl)) | apply qt_cap rfl rfl ?hi rfl | apply qt_build rfl rfl ?hi rfl | apply qt_eqs rfl rfl rfl ?hi rfl (Or.inl rfl) | apply qt_nes rfl rfl rfl ?hi rfl (Or.inl rfl) | apply qt_eqs rfl rfl rfl ?hi rfl (Or.inr ⟨rfl, rfl, rfl⟩) | apply qt_nes rfl rfl rfl ?hi rfl (Or.inr ⟨rfl, rfl, rfl⟩)); (case hi => (intro h; (repeat' (first | with_reducible exact alln | with_reducible refine allc ?_ ?_ | with_reducible refine andi ?_ ?_)); all_goals (first | with_reducible rfl | with_reducible exact h | with_reducible exact andl h | with_reducible exact andr h | with_reducible exact andl (andl h) | (simp only [h, Bool.and_self]; done) | (simp [h]; done) | (simp_all; done))))))) | (refine KO.alloc rfl rfl rfl rfl rfl rfl ?_; intro _ _) | (apply KO.store (i := _) rfl rfl rfl rfl rfl rfl rfl rfl ?hl ?sg ?hw ?ho ?hs; (case sg => first | exact (rfl : getI 0 _ = _) | exact (rfl : getI 1 _ = _) | exact (rfl : getI 2 _ = _) | exact (rfl : getI 3 _ = _) | exact (rfl : getI 4 _ = _) | exact (rfl : getI 5 _ = _) | exact (rfl : getI 6 _ = _) | exact (rfl : getI 7 _ = _)); (case hl => rfl); (case hw => rfl); (case ho => rfl); (case hs => rfl)) | (refine KW.cond rfl ?_ ?_ <;> (intro hc; try simp only [kBool] at hc)) | exact absurd trivial ‹¬True› | fail)
  refine KO.callF ((b4, cl [.int .i64 0, .int .i64 0, .int .u64 0, .int .i64 0, .int .i64 0, .int .i64 0, .int .i64 0, .int .i64 0, .int .i64 0, .bool false, .int .u64 0, .int .i64 0, .int .i64 0, .slice none 0 0, .int .i64 0, .int .i64 0, .int .i64 0] 44) :: s) [(b2, cl [.int .i64 0, .int .i64 0, .int .u64 0, .int .i64 0, .int .i64 0, .int .i64 0, .int .i64 0, .int .i64 0, .int .i64 0, .bool false, .int .u64 0, .int .i64 0, .int .i64 0, .slice none 0 0, .int .i64 0, .int .i64 0, .int .i64 0] 44)] (by classical exact List.perm_iff_count.2 (fun _ => by first | (simp only [List.count_append, List.count_cons, List.count_nil, List.append_assoc, List.cons_append, List.nil_append]; done) | (simp only [List.count_append, List.count_cons, List.count_nil, List.append_assoc, List.cons_append, List.nil_append]; omega))) rfl rfl rfl rfl rfl rfl rfl (toldT_p _ bf b4 sRes (z := (l, none)) ⟨hf, by dsimp only; omega⟩ hB) ?_
  rintro _ _ ⟨s2, μ, mv, hs2, hmv, rfl⟩
  have hpf : parF l = if 0 < (toldT (l, none)).1.1.length then note (toldT (l, none)).1.2 sEnd 12 else (toldT (l, none)).1.2 := rfl
  have hPR : ∀ v σ, ParR E.β l v σ = (match parF l with
    | some y => ∃ e1 e2, v = .tuple #[.agg zR.cells.toArray, .iface 100 (.pointer (some ⟨e1, 0, none⟩))] ∧ σ = [(e1, cl [.string sRes, .iface 100 (.pointer (some ⟨e2, 0, none⟩))] 108), (e2, cl [.string y.1, .iface 32 (.int .i64 y.2)] 108)]
    | none => ∃ mv, MvR E.β mv (toldT (l, none)).2.2 σ ∧ v = .tuple #[.agg { (toldT (l, none)).2.1 with mv := mv }.cells.toArray, .nilIface]) := fun _ _ => rfl
  rcases hT : toldT (l, none) with ⟨⟨l', y⟩, r, ms⟩
  rw [hT] at hs2 hmv hpf hPR
  dsimp only at hs2 hmv hpf hPR ⊢
  obtain ⟨⟨wv, rv, dv, ev, φ, ε, hF, hE, rfl⟩, hb⟩ := hs2
  dsimp only at hb
  have hF2 := hF
  obtain ⟨rfl, rfl, br, p', c', ψ, rfl, rfl, hB', hlc, hpc', hs'⟩ := hF
  obtain ⟨pm, nm, cm, rfl⟩ := hmv.slice
  dsimp only [Rs.cells]
  refine KO.perm (σ' := (bf, cl [.string sRes, .slice none 0 0, .pointer (some ⟨br, 0, none⟩), .func (.func (Md.take l').fn) #[.pointer (some ⟨bf, 0, none⟩)] #[], ev] 80) :: ((b4, cl [.int .i64 r.st, .int .i64 r.op, .int .u64 (r.tok : Int), .int .i64 r.unit, .int .i64 r.ax, .int .i64 r.ay, .int .i64 r.new, .int .i64 r.expl, .int .i64 r.ver, .bool r.hit, .int .u64 (r.cost : Int), .int .i64 r.settled, .int .i64 r.left, (.slice pm nm cm), .int .i64 r.units, .int .i64 r.cache, .int .i64 r.sess] 44) :: ((b2, cl [.int .i64 0, .int .i64 0, .int .u64 0, .int .i64 0, .int .i64 0, .int .i64 0, .int .i64 0, .int .i64 0, .int .i64 0, .bool false, .int .u64 0, .int .i64 0, .int .i64 0, .slice none 0 0, .int .i64 0, .int .i64 0, .int .i64 0] 44) :: ((br, cl [.slice p' l'.length c'] 126) :: (ε ++ (ψ ++ μ)))))) ?_ ?_
  · show List.Perm ((b4, cl [.int .i64 r.st, .int .i64 r.op, .int .u64 (r.tok : Int), .int .i64 r.unit, .int .i64 r.ax, .int .i64 r.ay, .int .i64 r.new, .int .i64 r.expl, .int .i64 r.ver, .bool r.hit, .int .u64 (r.cost : Int), .int .i64 r.settled, .int .i64 r.left, (.slice pm nm cm), .int .i64 r.units, .int .i64 r.cache, .int .i64 r.sess] 44) :: (((bf, cl [.string sRes, .slice none 0 0, .pointer (some ⟨br, 0, none⟩), .func (.func (Md.take l').fn) #[.pointer (some ⟨bf, 0, none⟩)] #[], ev] 80) :: (ε ++ (br, cl [.slice p' l'.length c'] 126) :: ψ)) ++ μ) ++ [(b2, cl [.int .i64 0, .int .i64 0, .int .u64 0, .int .i64 0, .int .i64 0, .int .i64 0, .int .i64 0, .int .i64 0, .int .i64 0, .bool false, .int .u64 0, .int .i64 0, .int .i64 0, .slice none 0 0, .int .i64 0, .int .i64 0, .int .i64 0] 44)]) _
    exact (by classical exact List.perm_iff_count.2 (fun _ => by first | (simp only [List.count_append, List.count_cons, List.count_nil, List.append_assoc, List.cons_append, List.nil_append]; done) | (simp only [List.count_append, List.count_cons, List.count_nil, List.append_assoc, List.cons_append, List.nil_append]; omega)))
  repeat' (first | refine KW.seq ?_ | refine KW.region ?_ | refine KO.nil ?_ | refine At.then_normal ?_ | refine KW.skip ?_ | refine KW.ret ?_ | refine At.then_ret ?_ | refine KW.block ?_ | refine KW.exit ?_ | refine At.block_normal ?_ | refine At.block_ret ?_ | refine At.loop_ret ?_ | refine At.then_exit ?_ | refine At.block_here rfl ?_ | refine At.block_there rfl ?_ | refine At.loop_exit ?_ | refine At.cut_ret ?_ | refine At.cutA_ret ?_ | refine At.cutA_exit ?_ | refine At.cut_exit ?_ | (refine At.cut_same ?_; repeat' (first | exact FLe.nil _ | refine FLe.cons rfl rfl ?_)) | refine KW.cond_t rfl (by first | with_reducible rfl | decide) ?_ | refine KW.cond_f rfl (by first | with_reducible rfl | decide) ?_ | refine KW.scope ?_ | refine KW.label ?_ | refine At.scope_normal ?_ | refine At.scope_ret ?_ | refine At.scope_exit ?_ | refine KW.drawM (id := 7) [0, 1, 1, 3] [] (by decide +kernel) rfl rfl rfl ?_ | refine KDH.mid2 ?_ | refine KDH.mid3 ?_ | refine KDH.done ?_ | refine KDM.head0 ?_ | refine KDM.head1 ?_ | refine KDM.fin ?_ | refine KDH.skip0' rfl (by first | with_reducible rfl | decide) rfl rfl ?_ | refine KDH.skip1' rfl (by first | with_reducible rfl | decide) rfl rfl ?_ | (refine KDM.eo30 rfl rfl (eo_store (i := _) rfl rfl rfl rfl rfl rfl rfl ?sg ?sw ?so ?ss) ?_; (case sg => first | exact (rfl : getI 0 _ = _) | exact (rfl : getI 1 _ = _) | exact (rfl : getI 2 _ = _) | exact (rfl : getI 3 _ = _) | exact (rfl : getI 4 _ = _) | exact (rfl : getI 5 _ = _) | exact (rfl : getI 6 _ = _) | exact (rfl : getI 7 _ = _)); (case sw => rfl); (case so => rfl); (case ss => rfl); rintro _ _ rfl; refine ⟨?sub, ?_⟩; (case sub => (intro _ hp; first | exact hp | (cases hp; done) | (repeat (first | exact hp | apply List.mem_cons_of_mem | apply List.mem_append_right)) | (simp_all; done)))) | refine KW.draw 0 (by decide +kernel) ?_ | refine KW.drawU rfl (by decide +kernel) ?_ | refine KD.zero ?_ | ((first | apply KO.val rfl rfl rfl ?kq ?_ | apply KD.val rfl rfl rfl ?kq ?_ | apply KDH.val0 rfl rfl rfl ?kq ?_ | apply KDH.val1 rfl rfl rfl ?kq ?_ | apply KDH.valIn0 rfl rfl rfl ?kq ?_ | apply KDH.valIn1 rfl rfl rfl ?kq ?_ | apply KDM.q2f rfl rfl rfl ?kq ?ksub ?_ | apply KDM.q2t rfl rfl rfl ?kq ?ksub ?_); (try (case ksub => (intro _ hp; first | exact hp | (cases hp; done) | (repeat (first | exact hp | apply List.mem_cons_of_mem | apply List.mem_append_right)) | (simp_all; done)))); (case kq => ((first | apply qt_ev rfl ?hi | ((first | apply qt_load1 rfl rfl ?hi rfl rfl ?hm ?hc | apply qt_loadN rfl rfl ?hi rfl rfl rfl ?hm ?hc); (case hm => repeat (first | exact List.Mem.head _ | apply List.Mem.tail _ | apply List.mem_append_right _)); (case hc => rfl)) | apply qt_cap rfl rfl ?hi rfl | apply qt_build rfl rfl ?hi rfl | apply qt_eqs rfl rfl rfl ?hi rfl (Or.inl rfl) | apply qt_nes rfl rfl rfl ?hi rfl (Or.inl rfl) | apply qt_eqs rfl rfl rfl ?hi rfl (Or.inr ⟨rfl, rfl, rfl⟩) | apply qt_nes rfl rfl rfl ?hi rfl (Or.inr ⟨rfl, rfl, rfl⟩)); (case hi => (intro h; (repeat' (first | with_reducible exact alln | with_reducible refine allc ?_ ?_ | with_reducible refine andi ?_ ?_)); all_goals (first | with_reducible rfl | with_reducible exact h | with_reducible exact andl h | with_reducible exact andr h | with_reducible exact andl (andl h) | (simp only [h, Bool.and_self]; done) | (simp [h]; done) | (simp_all; done))))))) | (refine KO.alloc rfl rfl rfl rfl rfl rfl ?_; intro _ _) | (apply KO.store (i := _) rfl rfl rfl rfl rfl rfl rfl rfl ?hl ?sg ?hw ?ho ?hs; (case sg => first | exact (rfl : getI 0 _ = _) | exact (rfl : getI 1 _ = _) | exact (rfl : getI 2 _ = _) | exact (rfl : getI 3 _ = _) | exact (rfl : getI 4 _ = _) | exact (rfl : getI 5 _ = _) | exact (rfl : getI 6 _ = _) | exact (rfl : getI 7 _ = _)); (case hl => rfl); (case hw => rfl); (case ho => rfl); (case hs => rfl)) | (refine KW.cond rfl ?_ ?_ <;> (intro hc; try simp only [kBool] at hc)) | exact absurd trivial ‹¬True› | fail)
  refine KO.callF ((br, cl [.slice p' l'.length c'] 126) :: ψ) ((bf, cl [.string sRes, .slice none 0 0, .pointer (some ⟨br, 0, none⟩), .func (.func (Md.take l').fn) #[.pointer (some ⟨bf, 0, none⟩)] #[], ev] 80) :: ((b4, cl [.int .i64 r.st, .int .i64 r.op, .int .u64 (r.tok : Int), .int .i64 r.unit, .int .i64 r.ax, .int .i64 r.ay, .int .i64 r.new, .int .i64 r.expl, .int .i64 r.ver, .bool r.hit, .int .u64 (r.cost : Int), .int .i64 r.settled, .int .i64 r.left, (.slice pm nm cm), .int .i64 r.units, .int .i64 r.cache, .int .i64 r.sess] 44) :: ((b2, cl [.int .i64 0, .int .i64 0, .int .u64 0, .int .i64 0, .int .i64 0, .int .i64 0, .int .i64 0, .int .i64 0, .int .i64 0, .bool false, .int .u64 0, .int .i64 0, .int .i64 0, .slice none 0 0, .int .i64 0, .int .i64 0, .int .i64 0] 44) :: (ε ++ μ)))) (by classical exact List.perm_iff_count.2 (fun _ => by first | (simp only [List.count_append, List.count_cons, List.count_nil, List.append_assoc, List.cons_append, List.nil_append]; done) | (simp only [List.count_append, List.count_cons, List.count_nil, List.append_assoc, List.cons_append, List.nil_append]; omega))) rfl rfl rfl rfl rfl rfl rfl (Rest_p _ ψ br l'.length c' (by8 l') p' (hs'.mono (fun q hq => List.mem_cons_of_mem _ hq)) hpc' (by8_one _) (by omega)) ?_
  rintro _ _ ⟨b, rfl, rfl⟩
  refine KO.permS (σ' := (bf, cl [.string sRes, .slice none 0 0, .pointer (some ⟨br, 0, none⟩), .func (.func (Md.take l').fn) #[.pointer (some ⟨bf, 0, none⟩)] #[], ev] 80) :: ((b4, cl [.int .i64 r.st, .int .i64 r.op, .int .u64 (r.tok : Int), .int .i64 r.unit, .int .i64 r.ax, .int .i64 r.ay, .int .i64 r.new, .int .i64 r.expl, .int .i64 r.ver, .bool r.hit, .int .u64 (r.cost : Int), .int .i64 r.settled, .int .i64 r.left, (.slice pm nm cm), .int .i64 r.units, .int .i64 r.cache, .int .i64 r.sess] 44) :: ((b2, cl [.int .i64 0, .int .i64 0, .int .u64 0, .int .i64 0, .int .i64 0, .int .i64 0, .int .i64 0, .int .i64 0, .int .i64 0, .bool false, .int .u64 0, .int .i64 0, .int .i64 0, .slice none 0 0, .int .i64 0, .int .i64 0, .int .i64 0] 44) :: ((br, cl [.slice p' l'.length c'] 126) :: (ε ++ (ψ ++ μ)))))) (φ := [(b, cl (by8 l') 5)]) (by classical exact List.perm_iff_count.2 (fun _ => by first | (simp only [List.count_append, List.count_cons, List.count_nil, List.append_assoc, List.cons_append, List.nil_append]; done) | (simp only [List.count_append, List.count_cons, List.count_nil, List.append_assoc, List.cons_append, List.nil_append]; omega))) ?_
  repeat' (first | refine KW.seq ?_ | refine KW.region ?_ | refine KO.nil ?_ | refine At.then_normal ?_ | refine KW.skip ?_ | refine KW.ret ?_ | refine At.then_ret ?_ | refine KW.block ?_ | refine KW.exit ?_ | refine At.block_normal ?_ | refine At.block_ret ?_ | refine At.loop_ret ?_ | refine At.then_exit ?_ | refine At.block_here rfl ?_ | refine At.block_there rfl ?_ | refine At.loop_exit ?_ | refine At.cut_ret ?_ | refine At.cutA_ret ?_ | refine At.cutA_exit ?_ | refine At.cut_exit ?_ | (refine At.cut_same ?_; repeat' (first | exact FLe.nil _ | refine FLe.cons rfl rfl ?_)) | refine KW.cond_t rfl (by first | with_reducible rfl | decide) ?_ | refine KW.cond_f rfl (by first | with_reducible rfl | decide) ?_ | refine KW.scope ?_ | refine KW.label ?_ | refine At.scope_normal ?_ | refine At.scope_ret ?_ | refine At.scope_exit ?_ | refine KW.drawM (id := 7) [0, 1, 1, 3] [] (by decide +kernel) rfl rfl rfl ?_ | refine KDH.mid2 ?_ | refine KDH.mid3 ?_ | refine KDH.done ?_ | refine KDM.head0 ?_ | refine KDM.head1 ?_ | refine KDM.fin ?_ | refine KDH.skip0' rfl (by first | with_reducible rfl | decide) rfl rfl ?_ | refine KDH.skip1' rfl (by first | with_reducible rfl | decide) rfl rfl ?_ | (refine KDM.eo30 rfl rfl (eo_store (i := _) rfl rfl rfl rfl rfl rfl rfl ?sg ?sw ?so ?ss) ?_; (case sg => first | exact (rfl : getI 0 _ = _) | exact (rfl : getI 1 _ = _) | exact (rfl : getI 2 _ = _) | exact (rfl : getI 3 _ = _) | exact (rfl : getI 4 _ = _) | exact (rfl : getI 5 _ = _) | exact (rfl : getI 6 _ = _) | exact (rfl : getI 7 _ = _)); (case sw => rfl); (case so => rfl); (case ss => rfl); rintro _ _ rfl; refine ⟨?sub, ?_⟩; (case sub => (intro _ hp; first | exact hp | (cases hp; done) | (repeat (first | exact hp | apply List.mem_cons_of_mem | apply List.mem_append_right)) | (simp_all; done)))) | refine KW.draw 0 (by decide +kernel) ?_ | refine KW.drawU rfl (by decide +kernel) ?_ | refine KD.zero ?_ | ((first | apply KO.val rfl rfl rfl ?kq ?_ | apply KD.val rfl rfl rfl ?kq ?_ | apply KDH.val0 rfl rfl rfl ?kq ?_ | apply KDH.val1 rfl rfl rfl ?kq ?_ | apply KDH.valIn0 rfl rfl rfl ?kq ?_ | apply KDH.valIn1 rfl rfl rfl ?kq ?_ | apply KDM.q2f rfl rfl rfl ?kq ?ksub ?_ | apply KDM.q2t rfl rfl rfl ?kq ?ksub ?_); (try (case ksub => (intro _ hp; first | exact hp | (cases hp; done) | (repeat (first | exact hp | apply List.mem_cons_of_mem | apply List.mem_append_right)) | (simp_all; done)))); (case kq => ((first | apply qt_ev rfl ?hi | ((first | apply qt_load1 rfl rfl ?hi rfl rfl ?hm ?hc | apply qt_loadN rfl rfl ?hi rfl rfl rfl ?hm ?hc); (case hm => repeat (first | exact List.Mem.head _ | apply List.Mem.tail _ | apply List.mem_append_right _)); (case hc => rfl)) | apply qt_cap rfl rfl ?hi rfl | apply qt_build rfl rfl ?hi rfl | apply qt_eqs rfl rfl rfl ?hi rfl (Or.inl rfl) | apply qt_nes rfl rfl rfl ?hi rfl (Or.inl rfl) | apply qt_eqs rfl rfl rfl ?hi rfl (Or.inr ⟨rfl, rfl, rfl⟩) | apply qt_nes rfl rfl rfl ?hi rfl (Or.inr ⟨rfl, rfl, rfl⟩)); (case hi => (intro h; (repeat' (first | with_reducible exact alln | with_reducible refine allc ?_ ?_ | with_reducible refine andi ?_ ?_)); all_goals (first | with_reducible rfl | with_reducible exact h | with_reducible exact andl h | with_reducible exact andr h | with_reducible exact andl (andl h) | (simp only [h, Bool.and_self]; done) | (simp [h]; done) | (simp_all; done))))))) | (refine KO.alloc rfl rfl rfl rfl rfl rfl ?_; intro _ _) | (apply KO.store (i := _) rfl rfl rfl rfl rfl rfl rfl rfl ?hl ?sg ?hw ?ho ?hs; (case sg => first | exact (rfl : getI 0 _ = _) | exact (rfl : getI 1 _ = _) | exact (rfl : getI 2 _ = _) | exact (rfl : getI 3 _ = _) | exact (rfl : getI 4 _ = _) | exact (rfl : getI 5 _ = _) | exact (rfl : getI 6 _ = _) | exact (rfl : getI 7 _ = _)); (case hl => rfl); (case hw => rfl); (case ho => rfl); (case hs => rfl)) | (refine KW.cond rfl ?_ ?_ <;> (intro hc; try simp only [kBool] at hc)) | exact absurd trivial ‹¬True› | fail)
  refine KO.callF ((bf, cl [.string sRes, .slice none 0 0, .pointer (some ⟨br, 0, none⟩), .func (.func (Md.take l').fn) #[.pointer (some ⟨bf, 0, none⟩)] #[], ev] 80) :: (ε ++ ((br, cl [.slice p' l'.length c'] 126) :: ψ))) ((b4, cl [.int .i64 r.st, .int .i64 r.op, .int .u64 (r.tok : Int), .int .i64 r.unit, .int .i64 r.ax, .int .i64 r.ay, .int .i64 r.new, .int .i64 r.expl, .int .i64 r.ver, .bool r.hit, .int .u64 (r.cost : Int), .int .i64 r.settled, .int .i64 r.left, (.slice pm nm cm), .int .i64 r.units, .int .i64 r.cache, .int .i64 r.sess] 44) :: ((b2, cl [.int .i64 0, .int .i64 0, .int .u64 0, .int .i64 0, .int .i64 0, .int .i64 0, .int .i64 0, .int .i64 0, .int .i64 0, .bool false, .int .u64 0, .int .i64 0, .int .i64 0, .slice none 0 0, .int .i64 0, .int .i64 0, .int .i64 0] 44) :: μ)) (by classical exact List.perm_iff_count.2 (fun _ => by first | (simp only [List.count_append, List.count_cons, List.count_nil, List.append_assoc, List.cons_append, List.nil_append]; done) | (simp only [List.count_append, List.count_cons, List.count_nil, List.append_assoc, List.cons_append, List.nil_append]; omega))) rfl rfl rfl rfl rfl rfl rfl (endP_p _ bf l'.length (.take l') y _ ⟨_, _, _, ev, _, ε, hF2, hE, rfl⟩ ?hb) ?_
  case hb => simp
  rintro _ _ ⟨wv, rv, dv, ev', φ', ε', hF3, hE3, rfl, rfl⟩
  rw [← hpf] at hE3
  rcases hX : parF l with _ | z
  · rw [hX] at hE3
    obtain ⟨rfl, rfl⟩ := hE3
    refine KO.permS (σ' := (b4, cl [.int .i64 r.st, .int .i64 r.op, .int .u64 (r.tok : Int), .int .i64 r.unit, .int .i64 r.ax, .int .i64 r.ay, .int .i64 r.new, .int .i64 r.expl, .int .i64 r.ver, .bool r.hit, .int .u64 (r.cost : Int), .int .i64 r.settled, .int .i64 r.left, (.slice pm nm cm), .int .i64 r.units, .int .i64 r.cache, .int .i64 r.sess] 44) :: ((b2, cl [.int .i64 0, .int .i64 0, .int .u64 0, .int .i64 0, .int .i64 0, .int .i64 0, .int .i64 0, .int .i64 0, .int .i64 0, .bool false, .int .u64 0, .int .i64 0, .int .i64 0, .slice none 0 0, .int .i64 0, .int .i64 0, .int .i64 0] 44) :: μ)) (φ := (bf, cl [.string sRes, wv, rv, dv, .nilIface] 80) :: φ') (by classical exact List.perm_iff_count.2 (fun _ => by first | (simp only [List.count_append, List.count_cons, List.count_nil, List.append_assoc, List.cons_append, List.nil_append]; done) | (simp only [List.count_append, List.count_cons, List.count_nil, List.append_assoc, List.cons_append, List.nil_append]; omega))) ?_
    repeat' (first | refine KW.seq ?_ | refine KW.region ?_ | refine KO.nil ?_ | refine At.then_normal ?_ | refine KW.skip ?_ | refine KW.ret ?_ | refine At.then_ret ?_ | refine KW.block ?_ | refine KW.exit ?_ | refine At.block_normal ?_ | refine At.block_ret ?_ | refine At.loop_ret ?_ | refine At.then_exit ?_ | refine At.block_here rfl ?_ | refine At.block_there rfl ?_ | refine At.loop_exit ?_ | refine At.cut_ret ?_ | refine At.cutA_ret ?_ | refine At.cutA_exit ?_ | refine At.cut_exit ?_ | (refine At.cut_same ?_; repeat' (first | exact FLe.nil _ | refine FLe.cons rfl rfl ?_)) | refine KW.cond_t rfl (by first | with_reducible rfl | decide) ?_ | refine KW.cond_f rfl (by first | with_reducible rfl | decide) ?_ | refine KW.scope ?_ | refine KW.label ?_ | refine At.scope_normal ?_ | refine At.scope_ret ?_ | refine At.scope_exit ?_ | refine KW.drawM (id := 7) [0, 1, 1, 3] [] (by decide +kernel) rfl rfl rfl ?_ | refine KDH.mid2 ?_ | refine KDH.mid3 ?_ | refine KDH.done ?_ | refine KDM.head0 ?_ | refine KDM.head1 ?_ | refine KDM.fin ?_ | refine KDH.skip0' rfl (by first | with_reducible rfl | decide) rfl rfl ?_ | refine KDH.skip1' rfl (by first | with_reducible rfl | decide) rfl rfl ?_ | (refine KDM.eo30 rfl rfl (eo_store (i := _) rfl rfl rfl rfl rfl rfl rfl ?sg ?sw ?so ?ss) ?_; (case sg => first | exact (rfl : getI 0 _ = _) | exact (rfl : getI 1 _ = _) | exact (rfl : getI 2 _ = _) | exact (rfl : getI 3 _ = _) | exact (rfl : getI 4 _ = _) | exact (rfl : getI 5 _ = _) | exact (rfl : getI 6 _ = _) | exact (rfl : getI 7 _ = _)); (case sw => rfl); (case so => rfl); (case ss => rfl); rintro _ _ rfl; refine ⟨?sub, ?_⟩; (case sub => (intro _ hp; first | exact hp | (cases hp; done) | (repeat (first | exact hp | apply List.mem_cons_of_mem | apply List.mem_append_right)) | (simp_all; done)))) | refine KW.draw 0 (by decide +kernel) ?_ | refine KW.drawU rfl (by decide +kernel) ?_ | refine KD.zero ?_ | ((first | apply KO.val rfl rfl rfl ?kq ?_ | apply KD.val rfl rfl rfl ?kq ?_ | apply KDH.val0 rfl rfl rfl ?kq ?_ | apply KDH.val1 rfl rfl rfl ?kq ?_ | apply KDH.valIn0 rfl rfl rfl ?kq ?_ | apply KDH.valIn1 rfl rfl rfl ?kq ?_ | apply KDM.q2f rfl rfl rfl ?kq ?ksub ?_ | apply KDM.q2t rfl rfl rfl ?kq ?ksub ?_); (try (case ksub => (intro _ hp; first | exact hp | (cases hp; done) | (repeat (first | exact hp | apply List.mem_cons_of_mem | apply List.mem_append_right)) | (simp_all; done)))); (case kq => ((first | apply qt_ev rfl ?hi | ((first | apply qt_load1 rfl rfl ?hi rfl rfl ?hm ?hc | apply qt_loadN rfl rfl ?hi rfl rfl rfl ?hm ?hc); (case hm => repeat (first | exact List.Mem.head _ | apply List.Mem.tail _ | apply List.mem_append_right _)); (case hc => rfl)) | refine qt_callQ rfl rfl ?hi (fun hg => AsNil_p _ _ _) | apply qt_cap rfl rfl ?hi rfl | apply qt_build rfl rfl ?hi rfl | apply qt_eqs rfl rfl rfl ?hi rfl (Or.inl rfl) | apply qt_nes rfl rfl rfl ?hi rfl (Or.inl rfl) | apply qt_eqs rfl rfl rfl ?hi rfl (Or.inr ⟨rfl, rfl, rfl⟩) | apply qt_nes rfl rfl rfl ?hi rfl (Or.inr ⟨rfl, rfl, rfl⟩)); (case hi => (intro h; (repeat' (first | with_reducible exact alln | with_reducible refine allc ?_ ?_ | with_reducible refine andi ?_ ?_)); all_goals (first | with_reducible rfl | with_reducible exact h | with_reducible exact andl h | with_reducible exact andr h | with_reducible exact andl (andl h) | (simp only [h, Bool.and_self]; done) | (simp [h]; done) | (simp_all; done))))))) | (refine KO.alloc rfl rfl rfl rfl rfl rfl ?_; intro _ _) | (apply KO.store (i := _) rfl rfl rfl rfl rfl rfl rfl rfl ?hl ?sg ?hw ?ho ?hs; (case sg => first | exact (rfl : getI 0 _ = _) | exact (rfl : getI 1 _ = _) | exact (rfl : getI 2 _ = _) | exact (rfl : getI 3 _ = _) | exact (rfl : getI 4 _ = _) | exact (rfl : getI 5 _ = _) | exact (rfl : getI 6 _ = _) | exact (rfl : getI 7 _ = _)); (case hl => rfl); (case hw => rfl); (case ho => rfl); (case hs => rfl)) | (refine KW.cond rfl ?_ ?_ <;> (intro hc; try simp only [kBool] at hc)) | exact absurd trivial ‹¬True› | fail)
    ((first | apply At.done_ret | apply At.done_normal); (focus (repeat' (first | exact ResVs.nil' | apply ResVs.cons' | exact ResV.tmp' rfl | (apply ResV.cell1 rfl ?hm rfl rfl ?hc; (case hm => repeat (first | exact List.Mem.head _ | apply List.Mem.tail _ | apply List.mem_append_right _)); (case hc => rfl)) | (apply ResV.cellN rfl ?hm rfl rfl rfl ?hc; (case hm => repeat (first | exact List.Mem.head _ | apply List.Mem.tail _ | apply List.mem_append_right _)); (case hc => rfl))))); dsimp only [resVal])
    refine ⟨μ, List.Sublist.cons _ (List.Sublist.cons _ (List.Sublist.cons _ (List.Sublist.refl _))), ?_⟩
    rw [hPR, hX]
    exact ⟨_, hmv, rfl⟩
  · rw [hX] at hE3
    obtain ⟨e1, e2, rfl, rfl⟩ := hE3
    refine KO.permS (σ' := (b4, cl [.int .i64 r.st, .int .i64 r.op, .int .u64 (r.tok : Int), .int .i64 r.unit, .int .i64 r.ax, .int .i64 r.ay, .int .i64 r.new, .int .i64 r.expl, .int .i64 r.ver, .bool r.hit, .int .u64 (r.cost : Int), .int .i64 r.settled, .int .i64 r.left, (.slice pm nm cm), .int .i64 r.units, .int .i64 r.cache, .int .i64 r.sess] 44) :: ((b2, cl [.int .i64 0, .int .i64 0, .int .u64 0, .int .i64 0, .int .i64 0, .int .i64 0, .int .i64 0, .int .i64 0, .int .i64 0, .bool false, .int .u64 0, .int .i64 0, .int .i64 0, .slice none 0 0, .int .i64 0, .int .i64 0, .int .i64 0] 44) :: [(e1, cl [.string sRes, .iface 100 (.pointer (some ⟨e2, 0, none⟩))] 108), (e2, cl [.string z.1, .iface 32 (.int .i64 z.2)] 108)])) (φ := (bf, cl [.string sRes, wv, rv, dv, .iface 100 (.pointer (some ⟨e1, 0, none⟩))] 80) :: (φ' ++ μ)) (by classical exact List.perm_iff_count.2 (fun _ => by first | (simp only [List.count_append, List.count_cons, List.count_nil, List.append_assoc, List.cons_append, List.nil_append]; done) | (simp only [List.count_append, List.count_cons, List.count_nil, List.append_assoc, List.cons_append, List.nil_append]; omega))) ?_
    repeat' (first | refine KW.seq ?_ | refine KW.region ?_ | refine KO.nil ?_ | refine At.then_normal ?_ | refine KW.skip ?_ | refine KW.ret ?_ | refine At.then_ret ?_ | refine KW.block ?_ | refine KW.exit ?_ | refine At.block_normal ?_ | refine At.block_ret ?_ | refine At.loop_ret ?_ | refine At.then_exit ?_ | refine At.block_here rfl ?_ | refine At.block_there rfl ?_ | refine At.loop_exit ?_ | refine At.cut_ret ?_ | refine At.cutA_ret ?_ | refine At.cutA_exit ?_ | refine At.cut_exit ?_ | (refine At.cut_same ?_; repeat' (first | exact FLe.nil _ | refine FLe.cons rfl rfl ?_)) | refine KW.cond_t rfl (by first | with_reducible rfl | decide) ?_ | refine KW.cond_f rfl (by first | with_reducible rfl | decide) ?_ | refine KW.scope ?_ | refine KW.label ?_ | refine At.scope_normal ?_ | refine At.scope_ret ?_ | refine At.scope_exit ?_ | refine KW.drawM (id := 7) [0, 1, 1, 3] [] (by decide +kernel) rfl rfl rfl ?_ | refine KDH.mid2 ?_ | refine KDH.mid3 ?_ | refine KDH.done ?_ | refine KDM.head0 ?_ | refine KDM.head1 ?_ | refine KDM.fin ?_ | refine KDH.skip0' rfl (by first | with_reducible rfl | decide) rfl rfl ?_ | refine KDH.skip1' rfl (by first | with_reducible rfl | decide) rfl rfl ?_ | (refine KDM.eo30 rfl rfl (eo_store (i := _) rfl rfl rfl rfl rfl rfl rfl ?sg ?sw ?so ?ss) ?_; (case sg => first | exact (rfl : getI 0 _ = _) | exact (rfl : getI 1 _ = _) | exact (rfl : getI 2 _ = _) | exact (rfl : getI 3 _ = _) | exact (rfl : getI 4 _ = _) | exact (rfl : getI 5 _ = _) | exact (rfl : getI 6 _ = _) | exact (rfl : getI 7 _ = _)); (case sw => rfl); (case so => rfl); (case ss => rfl); rintro _ _ rfl; refine ⟨?sub, ?_⟩; (case sub => (intro _ hp; first | exact hp | (cases hp; done) | (repeat (first | exact hp | apply List.mem_cons_of_mem | apply List.mem_append_right)) | (simp_all; done)))) | refine KW.draw 0 (by decide +kernel) ?_ | refine KW.drawU rfl (by decide +kernel) ?_ | refine KD.zero ?_ | ((first | apply KO.val rfl rfl rfl ?kq ?_ | apply KD.val rfl rfl rfl ?kq ?_ | apply KDH.val0 rfl rfl rfl ?kq ?_ | apply KDH.val1 rfl rfl rfl ?kq ?_ | apply KDH.valIn0 rfl rfl rfl ?kq ?_ | apply KDH.valIn1 rfl rfl rfl ?kq ?_ | apply KDM.q2f rfl rfl rfl ?kq ?ksub ?_ | apply KDM.q2t rfl rfl rfl ?kq ?ksub ?_); (try (case ksub => (intro _ hp; first | exact hp | (cases hp; done) | (repeat (first | exact hp | apply List.mem_cons_of_mem | apply List.mem_append_right)) | (simp_all; done)))); (case kq => ((first | apply qt_ev rfl ?hi | ((first | apply qt_load1 rfl rfl ?hi rfl rfl ?hm ?hc | apply qt_loadN rfl rfl ?hi rfl rfl rfl ?hm ?hc); (case hm => repeat (first | exact List.Mem.head _ | apply List.Mem.tail _ | apply List.mem_append_right _)); (case hc => rfl)) | apply qt_cap rfl rfl ?hi rfl | apply qt_build rfl rfl ?hi rfl | apply qt_eqs rfl rfl rfl ?hi rfl (Or.inl rfl) | apply qt_nes rfl rfl rfl ?hi rfl (Or.inl rfl) | apply qt_eqs rfl rfl rfl ?hi rfl (Or.inr ⟨rfl, rfl, rfl⟩) | apply qt_nes rfl rfl rfl ?hi rfl (Or.inr ⟨rfl, rfl, rfl⟩)); (case hi => (intro h; (repeat' (first | with_reducible exact alln | with_reducible refine allc ?_ ?_ | with_reducible refine andi ?_ ?_)); all_goals (first | with_reducible rfl | with_reducible exact h | with_reducible exact andl h | with_reducible exact andr h | with_reducible exact andl (andl h) | (simp only [h, Bool.and_self]; done) | (simp [h]; done) | (simp_all; done))))))) | (refine KO.alloc rfl rfl rfl rfl rfl rfl ?_; intro _ _) | (apply KO.store (i := _) rfl rfl rfl rfl rfl rfl rfl rfl ?hl ?sg ?hw ?ho ?hs; (case sg => first | exact (rfl : getI 0 _ = _) | exact (rfl : getI 1 _ = _) | exact (rfl : getI 2 _ = _) | exact (rfl : getI 3 _ = _) | exact (rfl : getI 4 _ = _) | exact (rfl : getI 5 _ = _) | exact (rfl : getI 6 _ = _) | exact (rfl : getI 7 _ = _)); (case hl => rfl); (case hw => rfl); (case ho => rfl); (case hs => rfl)) | (refine KW.cond rfl ?_ ?_ <;> (intro hc; try simp only [kBool] at hc)) | exact absurd trivial ‹¬True› | fail)
    rename_i b7 _
    refine KO.callB [(b7, cl [.pointer none] 100)] ((b4, cl [.int .i64 r.st, .int .i64 r.op, .int .u64 (r.tok : Int), .int .i64 r.unit, .int .i64 r.ax, .int .i64 r.ay, .int .i64 r.new, .int .i64 r.expl, .int .i64 r.ver, .bool r.hit, .int .u64 (r.cost : Int), .int .i64 r.settled, .int .i64 r.left, (.slice pm nm cm), .int .i64 r.units, .int .i64 r.cache, .int .i64 r.sess] 44) :: ((b2, cl [.int .i64 0, .int .i64 0, .int .u64 0, .int .i64 0, .int .i64 0, .int .i64 0, .int .i64 0, .int .i64 0, .int .i64 0, .bool false, .int .u64 0, .int .i64 0, .int .i64 0, .slice none 0 0, .int .i64 0, .int .i64 0, .int .i64 0] 44) :: [(e1, cl [.string sRes, .iface 100 (.pointer (some ⟨e2, 0, none⟩))] 108), (e2, cl [.string z.1, .iface 32 (.int .i64 z.2)] 108)])) (by classical exact List.perm_iff_count.2 (fun _ => by first | (simp only [List.count_append, List.count_cons, List.count_nil, List.append_assoc, List.cons_append, List.nil_append]; done) | (simp only [List.count_append, List.count_cons, List.count_nil, List.append_assoc, List.cons_append, List.nil_append]; omega))) rfl rfl rfl rfl rfl rfl rfl (fun β' g1 g2 => AsF_p β' (TBE.up g1 ht) b7 e1) ?_
    rintro _ _ ⟨rfl, rfl⟩
    repeat' (first | refine KW.seq ?_ | refine KW.region ?_ | refine KO.nil ?_ | refine At.then_normal ?_ | refine KW.skip ?_ | refine KW.ret ?_ | refine At.then_ret ?_ | refine KW.block ?_ | refine KW.exit ?_ | refine At.block_normal ?_ | refine At.block_ret ?_ | refine At.loop_ret ?_ | refine At.then_exit ?_ | refine At.block_here rfl ?_ | refine At.block_there rfl ?_ | refine At.loop_exit ?_ | refine At.cut_ret ?_ | refine At.cutA_ret ?_ | refine At.cutA_exit ?_ | refine At.cut_exit ?_ | (refine At.cut_same ?_; repeat' (first | exact FLe.nil _ | refine FLe.cons rfl rfl ?_)) | refine KW.cond_t rfl (by first | with_reducible rfl | decide) ?_ | refine KW.cond_f rfl (by first | with_reducible rfl | decide) ?_ | refine KW.scope ?_ | refine KW.label ?_ | refine At.scope_normal ?_ | refine At.scope_ret ?_ | refine At.scope_exit ?_ | refine KW.drawM (id := 7) [0, 1, 1, 3] [0] (by decide +kernel) rfl rfl rfl ?_ | refine KDH.mid2 ?_ | refine KDH.mid3 ?_ | refine KDH.done ?_ | refine KDM.head0 ?_ | refine KDM.head1 ?_ | refine KDM.fin ?_ | refine KDH.skip0' rfl (by first | with_reducible rfl | decide) rfl rfl ?_ | refine KDH.skip1' rfl (by first | with_reducible rfl | decide) rfl rfl ?_ | (refine KDM.eo30 rfl rfl (eo_store (i := _) rfl rfl rfl rfl rfl rfl rfl ?sg ?sw ?so ?ss) ?_; (case sg => first | exact (rfl : getI 0 _ = _) | exact (rfl : getI 1 _ = _) | exact (rfl : getI 2 _ = _) | exact (rfl : getI 3 _ = _) | exact (rfl : getI 4 _ = _) | exact (rfl : getI 5 _ = _) | exact (rfl : getI 6 _ = _) | exact (rfl : getI 7 _ = _)); (case sw => rfl); (case so => rfl); (case ss => rfl); rintro _ _ rfl; refine ⟨?sub, ?_⟩; (case sub => (intro _ hp; first | exact hp | (cases hp; done) | (repeat (first | exact hp | apply List.mem_cons_of_mem | apply List.mem_append_right)) | (simp_all; done)))) | refine KW.draw 0 (by decide +kernel) ?_ | refine KW.drawU rfl (by decide +kernel) ?_ | refine KD.zero ?_ | ((first | apply KO.val rfl rfl rfl ?kq ?_ | apply KD.val rfl rfl rfl ?kq ?_ | apply KDH.val0 rfl rfl rfl ?kq ?_ | apply KDH.val1 rfl rfl rfl ?kq ?_ | apply KDH.valIn0 rfl rfl rfl ?kq ?_ | apply KDH.valIn1 rfl rfl rfl ?kq ?_ | apply KDM.q2f rfl rfl rfl ?kq ?ksub ?_ | apply KDM.q2t rfl rfl rfl ?kq ?ksub ?_); (try (case ksub => (intro _ hp; first | exact hp | (cases hp; done) | (repeat (first | exact hp | apply List.mem_cons_of_mem | apply List.mem_append_right)) | (simp_all; done)))); (case kq => ((first | apply qt_ev rfl ?hi | ((first | apply qt_load1 rfl rfl ?hi rfl rfl ?hm ?hc | apply qt_loadN rfl rfl ?hi rfl rfl rfl ?hm ?hc); (case hm => repeat (first | exact List.Mem.head _ | apply List.Mem.tail _ | apply List.mem_append_right _)); (case hc => rfl)) | apply qt_cap rfl rfl ?hi rfl | apply qt_build rfl rfl ?hi rfl | apply qt_eqs rfl rfl rfl ?hi rfl (Or.inl rfl) | apply qt_nes rfl rfl rfl ?hi rfl (Or.inl rfl) | apply qt_eqs rfl rfl rfl ?hi rfl (Or.inr ⟨rfl, rfl, rfl⟩) | apply qt_nes rfl rfl rfl ?hi rfl (Or.inr ⟨rfl, rfl, rfl⟩)); (case hi => (intro h; (repeat' (first | with_reducible exact alln | with_reducible refine allc ?_ ?_ | with_reducible refine andi ?_ ?_)); all_goals (first | with_reducible rfl | with_reducible exact h | with_reducible exact andl h | with_reducible exact andr h | with_reducible exact andl (andl h) | (simp only [h, Bool.and_self]; done) | (simp [h]; done) | (simp_all; done))))))) | (refine KO.alloc rfl rfl rfl rfl rfl rfl ?_; intro _ _) | (apply KO.store (i := _) rfl rfl rfl rfl rfl rfl rfl rfl ?hl ?sg ?hw ?ho ?hs; (case sg => first | exact (rfl : getI 0 _ = _) | exact (rfl : getI 1 _ = _) | exact (rfl : getI 2 _ = _) | exact (rfl : getI 3 _ = _) | exact (rfl : getI 4 _ = _) | exact (rfl : getI 5 _ = _) | exact (rfl : getI 6 _ = _) | exact (rfl : getI 7 _ = _)); (case hl => rfl); (case hw => rfl); (case ho => rfl); (case hs => rfl)) | (refine KW.cond rfl ?_ ?_ <;> (intro hc; try simp only [kBool] at hc)) | exact absurd trivial ‹¬True› | fail)
    refine KDM.eo30 rfl rfl (eo_store (i := 2) rfl rfl rfl rfl rfl rfl rfl rfl rfl rfl rfl) ?_
    rintro _ _ rfl
    refine ⟨fun q hq => (by simp only [List.mem_singleton] at hq; rw [hq]; exact List.Mem.head _), ?_⟩
    repeat' (first | refine KW.seq ?_ | refine KW.region ?_ | refine KO.nil ?_ | refine At.then_normal ?_ | refine KW.skip ?_ | refine KW.ret ?_ | refine At.then_ret ?_ | refine KW.block ?_ | refine KW.exit ?_ | refine At.block_normal ?_ | refine At.block_ret ?_ | refine At.loop_ret ?_ | refine At.then_exit ?_ | refine At.block_here rfl ?_ | refine At.block_there rfl ?_ | refine At.loop_exit ?_ | refine At.cut_ret ?_ | refine At.cutA_ret ?_ | refine At.cutA_exit ?_ | refine At.cut_exit ?_ | (refine At.cut_same ?_; repeat' (first | exact FLe.nil _ | refine FLe.cons rfl rfl ?_)) | refine KW.cond_t rfl (by first | with_reducible rfl | decide) ?_ | refine KW.cond_f rfl (by first | with_reducible rfl | decide) ?_ | refine KW.scope ?_ | refine KW.label ?_ | refine At.scope_normal ?_ | refine At.scope_ret ?_ | refine At.scope_exit ?_ | refine KW.drawM (id := 7) [0, 1, 1, 3] [0] (by decide +kernel) rfl rfl rfl ?_ | refine KDH.mid2 ?_ | refine KDH.mid3 ?_ | refine KDH.done ?_ | refine KDM.head0 ?_ | refine KDM.head1 ?_ | refine KDM.fin ?_ | refine KDH.skip0' rfl (by first | with_reducible rfl | decide) rfl rfl ?_ | refine KDH.skip1' rfl (by first | with_reducible rfl | decide) rfl rfl ?_ | (refine KDM.eo30 rfl rfl (eo_store (i := _) rfl rfl rfl rfl rfl rfl rfl ?sg ?sw ?so ?ss) ?_; (case sg => first | exact (rfl : getI 0 _ = _) | exact (rfl : getI 1 _ = _) | exact (rfl : getI 2 _ = _) | exact (rfl : getI 3 _ = _) | exact (rfl : getI 4 _ = _) | exact (rfl : getI 5 _ = _) | exact (rfl : getI 6 _ = _) | exact (rfl : getI 7 _ = _)); (case sw => rfl); (case so => rfl); (case ss => rfl); rintro _ _ rfl; refine ⟨?sub, ?_⟩; (case sub => (intro _ hp; first | exact hp | (cases hp; done) | (repeat (first | exact hp | apply List.mem_cons_of_mem | apply List.mem_append_right)) | (simp_all; done)))) | refine KW.draw 0 (by decide +kernel) ?_ | refine KW.drawU rfl (by decide +kernel) ?_ | refine KD.zero ?_ | ((first | apply KO.val rfl rfl rfl ?kq ?_ | apply KD.val rfl rfl rfl ?kq ?_ | apply KDH.val0 rfl rfl rfl ?kq ?_ | apply KDH.val1 rfl rfl rfl ?kq ?_ | apply KDH.valIn0 rfl rfl rfl ?kq ?_ | apply KDH.valIn1 rfl rfl rfl ?kq ?_ | apply KDM.q2f rfl rfl rfl ?kq ?ksub ?_ | apply KDM.q2t rfl rfl rfl ?kq ?ksub ?_); (try (case ksub => (intro _ hp; first | exact hp | (cases hp; done) | (repeat (first | exact hp | apply List.mem_cons_of_mem | apply List.mem_append_right)) | (simp_all; done)))); (case kq => ((first | apply qt_ev rfl ?hi | ((first | apply qt_load1 rfl rfl ?hi rfl rfl ?hm ?hc | apply qt_loadN rfl rfl ?hi rfl rfl rfl ?hm ?hc); (case hm => repeat (first | exact List.Mem.head _ | apply List.Mem.tail _ | apply List.mem_append_right _)); (case hc => rfl)) | apply qt_cap rfl rfl ?hi rfl | apply qt_build rfl rfl ?hi rfl | apply qt_eqs rfl rfl rfl ?hi rfl (Or.inl rfl) | apply qt_nes rfl rfl rfl ?hi rfl (Or.inl rfl) | apply qt_eqs rfl rfl rfl ?hi rfl (Or.inr ⟨rfl, rfl, rfl⟩) | apply qt_nes rfl rfl rfl ?hi rfl (Or.inr ⟨rfl, rfl, rfl⟩)); (case hi => (intro h; (repeat' (first | with_reducible exact alln | with_reducible refine allc ?_ ?_ | with_reducible refine andi ?_ ?_)); all_goals (first | with_reducible rfl | with_reducible exact h | with_reducible exact andl h | with_reducible exact andr h | with_reducible exact andl (andl h) | (simp only [h, Bool.and_self]; done) | (simp [h]; done) | (simp_all; done))))))) | (refine KO.alloc rfl rfl rfl rfl rfl rfl ?_; intro _ _) | (apply KO.store (i := _) rfl rfl rfl rfl rfl rfl rfl rfl ?hl ?sg ?hw ?ho ?hs; (case sg => first | exact (rfl : getI 0 _ = _) | exact (rfl : getI 1 _ = _) | exact (rfl : getI 2 _ = _) | exact (rfl : getI 3 _ = _) | exact (rfl : getI 4 _ = _) | exact (rfl : getI 5 _ = _) | exact (rfl : getI 6 _ = _) | exact (rfl : getI 7 _ = _)); (case hl => rfl); (case hw => rfl); (case ho => rfl); (case hs => rfl)) | (refine KW.cond rfl ?_ ?_ <;> (intro hc; try simp only [kBool] at hc)) | exact absurd trivial ‹¬True› | fail)
    ((first | apply At.done_ret | apply At.done_normal); (focus (repeat' (first | exact ResVs.nil' | apply ResVs.cons' | exact ResV.tmp' rfl | (apply ResV.cell1 rfl ?hm rfl rfl ?hc; (case hm => repeat (first | exact List.Mem.head _ | apply List.Mem.tail _ | apply List.mem_append_right _)); (case hc => rfl)) | (apply ResV.cellN rfl ?hm rfl rfl rfl ?hc; (case hm => repeat (first | exact List.Mem.head _ | apply List.Mem.tail _ | apply List.mem_append_right _)); (case hc => rfl))))); dsimp only [resVal])
    refine ⟨[(e1, cl [.string sRes, .iface 100 (.pointer (some ⟨e2, 0, none⟩))] 108), (e2, cl [.string z.1, .iface 32 (.int .i64 z.2)] 108)], List.Sublist.cons _ (List.Sublist.cons _ (List.Sublist.cons _ (List.Sublist.refl _))), ?_⟩
    rw [hPR, hX]
    exact ⟨e1, e2, rfl, rfl⟩
end Go.Proofs.YtnaclkdjchnbpaaDoor
end
section
namespace Go.Proofs.YtnaclkdjchnbpaaDoor
open Go Go.K

def finP (x : (List Nat × Flt) × Rs × List Nat) : Flt × Rs × List Nat := match (if 0 < x.1.1.length then note x.1.2 sEnd 12 else x.1.2) with
  | some y => (some y, zR, [])
  | none => (none, x.2.1, x.2.2)
def par (l : List Nat) : Flt × Rs × List Nat := finP (toldT (l, none))
theorem par_F (l : List Nat) : par l = (match parF l with
    | some y => (some y, zR, [])
    | none => (none, (toldT (l, none)).2.1, (toldT (l, none)).2.2)) := rfl
theorem finP_some (l : List Nat) (y : ByteArray × Int) (r : Rs) (ms : List Nat) : finP ((l, some y), r, ms) = (some y, zR, []) := by
  unfold finP note
  dsimp only
  split <;> simp_all
theorem finP_none (has : RowT → Bool) (l : List Nat) (r : Rs) (ms : List Nat) : refPG has [] l r ms = finP ((l, none), r, ms) := by
  unfold finP
  rw [refPG]
  dsimp only
  by_cases h : 0 < l.length
  · rw [if_pos h, if_pos h]; rfl
  · rw [if_neg h, if_neg h]
theorem refPG_filter (has : RowT → Bool) : ∀ (ws : List RowT) (l : List Nat) (r : Rs) (ms : List Nat), refPG has ws l r ms = refPG (fun _ => true) (ws.filter has) l r ms
  | [], _, _, _ => rfl
  | w :: ws, l, r, ms => by
    by_cases h : has w = true
    · rw [List.filter_cons, if_pos h, refPG, refPG, if_pos h, if_pos rfl]
      simp only [refPG_filter has ws]
    · rw [List.filter_cons, if_neg h, refPG, if_neg h]
      exact refPG_filter has ws l r ms
theorem rdN_1 (s : Nat) (l : List Nat) : rdN s 1 l = [num (l.take s)] := by
  unfold rdN
  simp
theorem rdN_2 (s : Nat) (l : List Nat) : rdN s 2 l = [num (l.take s), num ((l.drop s).take s)] := by
  unfold rdN
  simp [List.range_succ]
theorem setS_sToken (r : Rs) (n : Nat) : setS r sToken [n] = { r with tok := n } := by
  unfold setS
  rw [if_pos rfl]
  rfl
theorem setS_sUnit (r : Rs) (n : Nat) : setS r sUnit [n] = { r with unit := iI n } := by
  unfold setS
  rw [if_neg (by decide), if_pos rfl]
  rfl
theorem setS_sAt (r : Rs) (n m : Nat) : setS r sAt [n, m] = { r with ax := iI n, ay := iI m } := by
  unfold setS
  rw [if_neg (by decide), if_neg (by decide), if_pos rfl]
  rfl
theorem setS_sNew (r : Rs) (n : Nat) : setS r sNew [n] = { r with new := iI n } := by
  unfold setS
  rw [if_neg (by decide), if_neg (by decide), if_neg (by decide), if_pos rfl]
  rfl
theorem setS_sExpl (r : Rs) (n : Nat) : setS r sExpl [n] = { r with expl := iI n } := by
  unfold setS
  rw [if_neg (by decide), if_neg (by decide), if_neg (by decide), if_neg (by decide), if_pos rfl]
  rfl
theorem setS_sVer (r : Rs) (n : Nat) : setS r sVer [n] = { r with ver := iI n } := by
  unfold setS
  rw [if_neg (by decide), if_neg (by decide), if_neg (by decide), if_neg (by decide), if_neg (by decide), if_pos rfl]
  rfl
theorem setS_sHit (r : Rs) (n : Nat) : setS r sHit [n] = { r with hit := decide (n = 1) } := by
  unfold setS
  rw [if_neg (by decide), if_neg (by decide), if_neg (by decide), if_neg (by decide), if_neg (by decide), if_neg (by decide), if_pos rfl]
  rfl
theorem setS_sCost (r : Rs) (n : Nat) : setS r sCost [n] = { r with cost := n } := by
  unfold setS
  rw [if_neg (by decide), if_neg (by decide), if_neg (by decide), if_neg (by decide), if_neg (by decide), if_neg (by decide), if_neg (by decide), if_pos rfl]
  rfl
theorem setS_sSettled (r : Rs) (n : Nat) : setS r sSettled [n] = { r with settled := iI n } := by
  unfold setS
  rw [if_neg (by decide), if_neg (by decide), if_neg (by decide), if_neg (by decide), if_neg (by decide), if_neg (by decide), if_neg (by decide), if_neg (by decide), if_pos rfl]
  rfl
theorem setS_sLeft (r : Rs) (n : Nat) : setS r sLeft [n] = { r with left := iI n } := by
  unfold setS
  rw [if_neg (by decide), if_neg (by decide), if_neg (by decide), if_neg (by decide), if_neg (by decide), if_neg (by decide), if_neg (by decide), if_neg (by decide), if_neg (by decide), if_pos rfl]
  rfl
theorem setS_sUnits (r : Rs) (n : Nat) : setS r sUnits [n] = { r with units := iI n } := by
  unfold setS
  rw [if_neg (by decide), if_neg (by decide), if_neg (by decide), if_neg (by decide), if_neg (by decide), if_neg (by decide), if_neg (by decide), if_neg (by decide), if_neg (by decide), if_neg (by decide), if_pos rfl]
  rfl
theorem setS_sCache (r : Rs) (n : Nat) : setS r sCache [n] = { r with cache := iI n } := by
  unfold setS
  rw [if_neg (by decide), if_neg (by decide), if_neg (by decide), if_neg (by decide), if_neg (by decide), if_neg (by decide), if_neg (by decide), if_neg (by decide), if_neg (by decide), if_neg (by decide), if_neg (by decide), if_pos rfl]
  rfl
theorem setS_sSess (r : Rs) (n : Nat) : setS r sSess [n] = { r with sess := iI n } := by
  unfold setS
  rw [if_neg (by decide), if_neg (by decide), if_neg (by decide), if_neg (by decide), if_neg (by decide), if_neg (by decide), if_neg (by decide), if_neg (by decide), if_neg (by decide), if_neg (by decide), if_neg (by decide), if_neg (by decide), if_pos rfl]
  rfl
theorem setS_sMoves (r : Rs) (x : List Nat) : setS r sMoves x = r := by
  unfold setS
  rw [if_neg (by decide), if_neg (by decide), if_neg (by decide), if_neg (by decide), if_neg (by decide), if_neg (by decide), if_neg (by decide), if_neg (by decide), if_neg (by decide), if_neg (by decide), if_neg (by decide), if_neg (by decide), if_neg (by decide)]
theorem one_step (w : RowT) (ws : List RowT) (l : List Nat) (r : Rs) (ms : List Nat) (T : List Nat × Flt → Nat → (List Nat × Flt) × Rs × List Nat) (hm : w.many = 1) (hh : w.name ≠ sHit) (hv : w.name ≠ sMoves)
    (hT : ∀ l' y n, finP (T (l', some y) n) = (some y, zR, []))
    (h : ∀ l' n, refPG (fun _ => true) ws l' (setS r w.name [n]) ms = finP (T (l', none) n)) :
    refPG (fun _ => true) (w :: ws) l r ms = finP (T (tkF1 (l, none) (w.name, w.size)).1 (tkF1 (l, none) (w.name, w.size)).2) := by
  rw [refPG, if_pos rfl, hm, Nat.mul_one]
  have e : tkF1 (l, none) (w.name, w.size) = (((tk1 (w.name, w.size) l).2.1, (tk1 (w.name, w.size) l).1), (tk1 (w.name, w.size) l).2.2) := rfl
  rw [e]
  unfold tk1
  dsimp only
  by_cases hl : l.length < w.size
  · rw [if_pos hl, if_neg (show ¬ w.size ≤ l.length by omega)]
    exact (hT _ _ _).symm
  · rw [if_neg hl, if_pos (show w.size ≤ l.length from Nat.le_of_not_lt hl), if_neg (fun x => hh x.1), if_neg hv, rdN_1]
    exact h _ _
theorem two_step (w : RowT) (ws : List RowT) (l : List Nat) (r : Rs) (ms : List Nat) (T : List Nat × Flt → Nat → Nat → (List Nat × Flt) × Rs × List Nat) (hm : w.many = 2) (hh : w.name ≠ sHit) (hv : w.name ≠ sMoves)
    (hT : ∀ l' y n m, finP (T (l', some y) n m) = (some y, zR, []))
    (h : ∀ l' n m, refPG (fun _ => true) ws l' (setS r w.name [n, m]) ms = finP (T (l', none) n m)) :
    refPG (fun _ => true) (w :: ws) l r ms = finP (T (tkF1 (tkF1 (l, none) (w.name, w.size)).1 (w.name, w.size)).1 (tkF1 (l, none) (w.name, w.size)).2 (tkF1 (tkF1 (l, none) (w.name, w.size)).1 (w.name, w.size)).2) := by
  rw [refPG, if_pos rfl, hm]
  have e : tkF1 (l, none) (w.name, w.size) = (((tk1 (w.name, w.size) l).2.1, (tk1 (w.name, w.size) l).1), (tk1 (w.name, w.size) l).2.2) := rfl
  rw [e]
  have e1 : tk1 (w.name, w.size) l = if w.size ≤ l.length then (none, l.drop w.size, num (l.take w.size)) else (some (w.name, 17), l, 0) := rfl
  rw [e1]
  by_cases h1 : w.size ≤ l.length
  · rw [if_pos h1]
    dsimp only
    have e2 : tkF1 (l.drop w.size, none) (w.name, w.size) = (((tk1 (w.name, w.size) (l.drop w.size)).2.1, (tk1 (w.name, w.size) (l.drop w.size)).1), (tk1 (w.name, w.size) (l.drop w.size)).2.2) := rfl
    have e3 : tk1 (w.name, w.size) (l.drop w.size) = if w.size ≤ (l.drop w.size).length then (none, (l.drop w.size).drop w.size, num ((l.drop w.size).take w.size)) else (some (w.name, 17), l.drop w.size, 0) := rfl
    rw [e2, e3]
    have hld : (l.drop w.size).length = l.length - w.size := List.length_drop
    by_cases hl : l.length < w.size * 2
    · rw [if_pos hl, if_neg (show ¬ w.size ≤ (l.drop w.size).length by omega)]
      exact (hT _ _ _ _).symm
    · rw [if_neg hl, if_pos (show w.size ≤ (l.drop w.size).length by omega), if_neg (fun x => hh x.1), if_neg hv, rdN_2]
      dsimp only
      rw [List.drop_drop, show w.size + w.size = w.size * 2 from by omega]
      exact h _ _ _
  · rw [if_neg h1, if_pos (by omega)]
    exact (hT _ _ _ _).symm
theorem hit_step (ops : List Nat) (ws : List RowT) (l : List Nat) (hB : Byt l) (r : Rs) (ms : List Nat) (T : List Nat × Flt → Bool → (List Nat × Flt) × Rs × List Nat)
    (hT : ∀ l' y n, finP (T (l', some y) n) = (some y, zR, []))
    (h : ∀ l' n, refPG (fun _ => true) ws l' (setS r sHit [n]) ms = finP (T (l', none) (decide (n = 1)))) :
    refPG (fun _ => true) (⟨sHit, 1, 1, ops⟩ :: ws) l r ms = finP (T (flgF (l, none) sHit).1 (flgF (l, none) sHit).2) := by
  rw [refPG, if_pos rfl]
  dsimp only
  have e : tkF1 (l, none) (sHit, 1) = (((tk1 (sHit, 1) l).2.1, (tk1 (sHit, 1) l).1), (tk1 (sHit, 1) l).2.2) := rfl
  have e1 : tk1 (sHit, 1) l = if 1 ≤ l.length then (none, l.drop 1, num (l.take 1)) else (some (sHit, 17), l, 0) := rfl
  unfold flgF
  rw [e, e1]
  by_cases h1 : 1 ≤ l.length
  · rw [if_pos h1, if_neg (by omega)]
    dsimp only
    have hlt : num (l.take 1) < 256 := by
      have := num_lt 1 (l.take 1) (by rw [List.length_take]; exact Nat.min_eq_left h1) (hB.take 1)
      simpa using this
    have hi : iI (num (l.take 1)) = (num (l.take 1) : Int) := by unfold iI; rw [IntKind.wrap_i64]; omega
    rw [hi, rdN_1]
    have hg : ([num (l.take 1)] : List Nat).getD 0 0 = num (l.take 1) := rfl
    rw [hg]
    obtain ⟨n, hn⟩ : ∃ n, n = num (l.take 1) := ⟨_, rfl⟩
    rw [← hn]
    by_cases h2 : 1 < n
    · rw [if_pos ⟨rfl, h2⟩, if_pos (by omega)]
      exact (hT _ _ _).symm
    · rw [if_neg (fun x => h2 x.2), if_neg (show ¬ sHit = sMoves by decide), Nat.mul_one, if_neg (show ¬ (1 : Int) < (n : Int) by omega)]
      have hd : decide ((n : Int) = 1) = decide (n = 1) := by rw [decide_eq_decide]; omega
      rw [hd]
      exact h _ _
  · rw [if_neg h1, if_pos (by omega)]
    dsimp only
    rw [if_neg (by decide)]
    exact (hT _ _ _).symm
theorem moves_step (ops : List Nat) (l : List Nat) (r : Rs) : refPG (fun _ => true) [⟨sMoves, 4, 1, ops⟩] l r [] = finP ((movT (l, none) sMoves).1, r, (movT (l, none) sMoves).2) := by
  rw [refPG, if_pos rfl]
  dsimp only
  have e : tkF1 (l, none) (sMoves, 4) = (((tk1 (sMoves, 4) l).2.1, (tk1 (sMoves, 4) l).1), (tk1 (sMoves, 4) l).2.2) := rfl
  have e1 : tk1 (sMoves, 4) l = if 4 ≤ l.length then (none, l.drop 4, num (l.take 4)) else (some (sMoves, 17), l, 0) := rfl
  unfold movT
  dsimp only
  rw [e, e1, Nat.mul_one]
  by_cases h1 : 4 ≤ l.length
  · rw [if_pos h1, if_neg (by omega), if_neg (fun x => absurd x.1 (by decide)), if_pos rfl, rdN_1]
    have hg : ([num (l.take 4)] : List Nat).getD 0 0 = num (l.take 4) := rfl
    rw [hg, setS_sMoves]
    obtain ⟨n, hn⟩ : ∃ n, n = num (l.take 4) := ⟨_, rfl⟩
    rw [← hn]
    dsimp only
    by_cases h2 : 65535 < n
    · rw [if_pos h2, if_pos h2]
      exact (finP_some _ _ _ _).symm
    rw [if_neg h2, if_neg h2]
    by_cases h3 : (l.drop 4).length < n
    · rw [if_pos h3, if_pos h3]
      exact (finP_some _ _ _ _).symm
    rw [if_neg h3, if_neg h3, List.nil_append]
    dsimp only
    by_cases h4 : ((l.drop 4).take n).all (fun m => decide (m ≤ 3)) = true
    · rw [if_pos h4, if_pos h4]
      exact finP_none _ _ _ _
    · rw [if_neg h4, if_neg h4]
      exact (finP_some _ _ _ _).symm
  · rw [if_neg h1, if_pos (by omega)]
    exact (finP_some _ _ _ _).symm
theorem filt (st op : Int) (hb : bodyR st op = true) : tolds.filter (hasP st op) = tolds.filter (hasO op) := by
  apply List.filter_congr
  intro w _
  show (bodyR st op && hasR w.ops op) = hasR w.ops op
  rw [hb]; try rfl
theorem body0 (st : Int) (l : List Nat) : refPG (fun _ => true) (tolds.filter (hasO 0)) l (Rs.head st 0) [] = finP (tellT (Rs.head st 0) (l, none)) := by
  have e : tellT (Rs.head st 0) (l, none) = ((tkF1 (l, none) (sToken, 8)).1, { Rs.head st 0 with tok := (tkF1 (l, none) (sToken, 8)).2 }, []) := rfl
  rw [e, show tolds.filter (hasO 0) = [⟨sToken, 8, 1, [48]⟩] from rfl]
  refine one_step ⟨sToken, 8, 1, [48]⟩ _ _ _ _ (fun z n => (z, { Rs.head st 0 with tok := n }, [])) rfl (by decide) (by decide) (fun _ _ _ => finP_some _ _ _ _) ?_
  intro l n0
  rw [setS_sToken]
  dsimp only
  exact finP_none _ _ _ _
theorem body1 (st : Int) (l : List Nat) : refPG (fun _ => true) (tolds.filter (hasO 1)) l (Rs.head st 1) [] = finP (tellT (Rs.head st 1) (l, none)) := by
  have e : tellT (Rs.head st 1) (l, none) = ((l, none), Rs.head st 1, []) := rfl
  rw [e, show tolds.filter (hasO 1) = [] from rfl]
  exact finP_none _ _ _ _
theorem body2 (st : Int) (l : List Nat) : refPG (fun _ => true) (tolds.filter (hasO 2)) l (Rs.head st 2) [] = finP (tellT (Rs.head st 2) (l, none)) := by
  have e : tellT (Rs.head st 2) (l, none) = ((tkF1 (tkF1 (tkF1 (tkF1 (tkF1 (l, none) (sUnit, 1)).1 (sAt, 2)).1 (sAt, 2)).1 (sNew, 4)).1 (sVer, 4)).1, { Rs.head st 2 with unit := iI (tkF1 (l, none) (sUnit, 1)).2, ax := iI (tkF1 (tkF1 (l, none) (sUnit, 1)).1 (sAt, 2)).2, ay := iI (tkF1 (tkF1 (tkF1 (l, none) (sUnit, 1)).1 (sAt, 2)).1 (sAt, 2)).2, new := iI (tkF1 (tkF1 (tkF1 (tkF1 (l, none) (sUnit, 1)).1 (sAt, 2)).1 (sAt, 2)).1 (sNew, 4)).2, ver := iI (tkF1 (tkF1 (tkF1 (tkF1 (tkF1 (l, none) (sUnit, 1)).1 (sAt, 2)).1 (sAt, 2)).1 (sNew, 4)).1 (sVer, 4)).2 }, []) := rfl
  rw [e, show tolds.filter (hasO 2) = [⟨sUnit, 1, 1, [50]⟩, ⟨sAt, 2, 2, [50]⟩, ⟨sNew, 4, 1, [50, 51]⟩, ⟨sVer, 4, 1, [50, 51, 54]⟩] from rfl]
  refine one_step ⟨sUnit, 1, 1, [50]⟩ _ _ _ _ (fun z n => ((tkF1 (tkF1 (tkF1 (tkF1 z (sAt, 2)).1 (sAt, 2)).1 (sNew, 4)).1 (sVer, 4)).1, { Rs.head st 2 with unit := iI n, ax := iI (tkF1 z (sAt, 2)).2, ay := iI (tkF1 (tkF1 z (sAt, 2)).1 (sAt, 2)).2, new := iI (tkF1 (tkF1 (tkF1 z (sAt, 2)).1 (sAt, 2)).1 (sNew, 4)).2, ver := iI (tkF1 (tkF1 (tkF1 (tkF1 z (sAt, 2)).1 (sAt, 2)).1 (sNew, 4)).1 (sVer, 4)).2 }, [])) rfl (by decide) (by decide) (fun _ _ _ => finP_some _ _ _ _) ?_
  intro l n0
  rw [setS_sUnit]
  dsimp only
  refine two_step ⟨sAt, 2, 2, [50]⟩ _ _ _ _ (fun z n m => ((tkF1 (tkF1 z (sNew, 4)).1 (sVer, 4)).1, { Rs.head st 2 with unit := iI n0, ax := iI n, ay := iI m, new := iI (tkF1 z (sNew, 4)).2, ver := iI (tkF1 (tkF1 z (sNew, 4)).1 (sVer, 4)).2 }, [])) rfl (by decide) (by decide) (fun _ _ _ _ => finP_some _ _ _ _) ?_
  intro l n1 m1
  rw [setS_sAt]
  dsimp only
  refine one_step ⟨sNew, 4, 1, [50, 51]⟩ _ _ _ _ (fun z n => ((tkF1 z (sVer, 4)).1, { Rs.head st 2 with unit := iI n0, ax := iI n1, ay := iI m1, new := iI n, ver := iI (tkF1 z (sVer, 4)).2 }, [])) rfl (by decide) (by decide) (fun _ _ _ => finP_some _ _ _ _) ?_
  intro l n2
  rw [setS_sNew]
  dsimp only
  refine one_step ⟨sVer, 4, 1, [50, 51, 54]⟩ _ _ _ _ (fun z n => (z, { Rs.head st 2 with unit := iI n0, ax := iI n1, ay := iI m1, new := iI n2, ver := iI n }, [])) rfl (by decide) (by decide) (fun _ _ _ => finP_some _ _ _ _) ?_
  intro l n3
  rw [setS_sVer]
  dsimp only
  exact finP_none _ _ _ _
theorem body3 (st : Int) (l : List Nat) : refPG (fun _ => true) (tolds.filter (hasO 3)) l (Rs.head st 3) [] = finP (tellT (Rs.head st 3) (l, none)) := by
  have e : tellT (Rs.head st 3) (l, none) = ((tkF1 (tkF1 (tkF1 (l, none) (sNew, 4)).1 (sExpl, 4)).1 (sVer, 4)).1, { Rs.head st 3 with new := iI (tkF1 (l, none) (sNew, 4)).2, expl := iI (tkF1 (tkF1 (l, none) (sNew, 4)).1 (sExpl, 4)).2, ver := iI (tkF1 (tkF1 (tkF1 (l, none) (sNew, 4)).1 (sExpl, 4)).1 (sVer, 4)).2 }, []) := rfl
  rw [e, show tolds.filter (hasO 3) = [⟨sNew, 4, 1, [50, 51]⟩, ⟨sExpl, 4, 1, [51, 54]⟩, ⟨sVer, 4, 1, [50, 51, 54]⟩] from rfl]
  refine one_step ⟨sNew, 4, 1, [50, 51]⟩ _ _ _ _ (fun z n => ((tkF1 (tkF1 z (sExpl, 4)).1 (sVer, 4)).1, { Rs.head st 3 with new := iI n, expl := iI (tkF1 z (sExpl, 4)).2, ver := iI (tkF1 (tkF1 z (sExpl, 4)).1 (sVer, 4)).2 }, [])) rfl (by decide) (by decide) (fun _ _ _ => finP_some _ _ _ _) ?_
  intro l n0
  rw [setS_sNew]
  dsimp only
  refine one_step ⟨sExpl, 4, 1, [51, 54]⟩ _ _ _ _ (fun z n => ((tkF1 z (sVer, 4)).1, { Rs.head st 3 with new := iI n0, expl := iI n, ver := iI (tkF1 z (sVer, 4)).2 }, [])) rfl (by decide) (by decide) (fun _ _ _ => finP_some _ _ _ _) ?_
  intro l n1
  rw [setS_sExpl]
  dsimp only
  refine one_step ⟨sVer, 4, 1, [50, 51, 54]⟩ _ _ _ _ (fun z n => (z, { Rs.head st 3 with new := iI n0, expl := iI n1, ver := iI n }, [])) rfl (by decide) (by decide) (fun _ _ _ => finP_some _ _ _ _) ?_
  intro l n2
  rw [setS_sVer]
  dsimp only
  exact finP_none _ _ _ _
theorem body4 (st : Int) (l : List Nat) (hB : Byt l) : refPG (fun _ => true) (tolds.filter (hasO 4)) l (Rs.head st 4) [] = finP (tellT (Rs.head st 4) (l, none)) := by
  have e : tellT (Rs.head st 4) (l, none) = ((movT (tkF1 (tkF1 (tkF1 (flgF (l, none) sHit).1 (sCost, 8)).1 (sSettled, 4)).1 (sLeft, 4)).1 sMoves).1, { Rs.head st 4 with hit := (flgF (l, none) sHit).2, cost := (tkF1 (flgF (l, none) sHit).1 (sCost, 8)).2, settled := iI (tkF1 (tkF1 (flgF (l, none) sHit).1 (sCost, 8)).1 (sSettled, 4)).2, left := iI (tkF1 (tkF1 (tkF1 (flgF (l, none) sHit).1 (sCost, 8)).1 (sSettled, 4)).1 (sLeft, 4)).2 }, (movT (tkF1 (tkF1 (tkF1 (flgF (l, none) sHit).1 (sCost, 8)).1 (sSettled, 4)).1 (sLeft, 4)).1 sMoves).2) := rfl
  rw [e, show tolds.filter (hasO 4) = [⟨sHit, 1, 1, [52, 53]⟩, ⟨sCost, 8, 1, [52, 53]⟩, ⟨sSettled, 4, 1, [52, 53]⟩, ⟨sLeft, 4, 1, [52, 53, 54]⟩, ⟨sMoves, 4, 1, [52, 53]⟩] from rfl]
  refine hit_step [52, 53] _ _ hB _ _ (fun z n => ((movT (tkF1 (tkF1 (tkF1 z (sCost, 8)).1 (sSettled, 4)).1 (sLeft, 4)).1 sMoves).1, { Rs.head st 4 with hit := n, cost := (tkF1 z (sCost, 8)).2, settled := iI (tkF1 (tkF1 z (sCost, 8)).1 (sSettled, 4)).2, left := iI (tkF1 (tkF1 (tkF1 z (sCost, 8)).1 (sSettled, 4)).1 (sLeft, 4)).2 }, (movT (tkF1 (tkF1 (tkF1 z (sCost, 8)).1 (sSettled, 4)).1 (sLeft, 4)).1 sMoves).2)) (fun _ _ _ => finP_some _ _ _ _) ?_
  intro l n0
  rw [setS_sHit]
  dsimp only
  refine one_step ⟨sCost, 8, 1, [52, 53]⟩ _ _ _ _ (fun z n => ((movT (tkF1 (tkF1 z (sSettled, 4)).1 (sLeft, 4)).1 sMoves).1, { Rs.head st 4 with hit := decide (n0 = 1), cost := n, settled := iI (tkF1 z (sSettled, 4)).2, left := iI (tkF1 (tkF1 z (sSettled, 4)).1 (sLeft, 4)).2 }, (movT (tkF1 (tkF1 z (sSettled, 4)).1 (sLeft, 4)).1 sMoves).2)) rfl (by decide) (by decide) (fun _ _ _ => finP_some _ _ _ _) ?_
  intro l n1
  rw [setS_sCost]
  dsimp only
  refine one_step ⟨sSettled, 4, 1, [52, 53]⟩ _ _ _ _ (fun z n => ((movT (tkF1 z (sLeft, 4)).1 sMoves).1, { Rs.head st 4 with hit := decide (n0 = 1), cost := n1, settled := iI n, left := iI (tkF1 z (sLeft, 4)).2 }, (movT (tkF1 z (sLeft, 4)).1 sMoves).2)) rfl (by decide) (by decide) (fun _ _ _ => finP_some _ _ _ _) ?_
  intro l n2
  rw [setS_sSettled]
  dsimp only
  refine one_step ⟨sLeft, 4, 1, [52, 53, 54]⟩ _ _ _ _ (fun z n => ((movT z sMoves).1, { Rs.head st 4 with hit := decide (n0 = 1), cost := n1, settled := iI n2, left := iI n }, (movT z sMoves).2)) rfl (by decide) (by decide) (fun _ _ _ => finP_some _ _ _ _) ?_
  intro l n3
  rw [setS_sLeft]
  dsimp only
  exact moves_step _ _ _
theorem body5 (st : Int) (l : List Nat) (hB : Byt l) : refPG (fun _ => true) (tolds.filter (hasO 5)) l (Rs.head st 5) [] = finP (tellT (Rs.head st 5) (l, none)) := by
  have e : tellT (Rs.head st 5) (l, none) = ((movT (tkF1 (tkF1 (tkF1 (flgF (l, none) sHit).1 (sCost, 8)).1 (sSettled, 4)).1 (sLeft, 4)).1 sMoves).1, { Rs.head st 5 with hit := (flgF (l, none) sHit).2, cost := (tkF1 (flgF (l, none) sHit).1 (sCost, 8)).2, settled := iI (tkF1 (tkF1 (flgF (l, none) sHit).1 (sCost, 8)).1 (sSettled, 4)).2, left := iI (tkF1 (tkF1 (tkF1 (flgF (l, none) sHit).1 (sCost, 8)).1 (sSettled, 4)).1 (sLeft, 4)).2 }, (movT (tkF1 (tkF1 (tkF1 (flgF (l, none) sHit).1 (sCost, 8)).1 (sSettled, 4)).1 (sLeft, 4)).1 sMoves).2) := rfl
  rw [e, show tolds.filter (hasO 5) = [⟨sHit, 1, 1, [52, 53]⟩, ⟨sCost, 8, 1, [52, 53]⟩, ⟨sSettled, 4, 1, [52, 53]⟩, ⟨sLeft, 4, 1, [52, 53, 54]⟩, ⟨sMoves, 4, 1, [52, 53]⟩] from rfl]
  refine hit_step [52, 53] _ _ hB _ _ (fun z n => ((movT (tkF1 (tkF1 (tkF1 z (sCost, 8)).1 (sSettled, 4)).1 (sLeft, 4)).1 sMoves).1, { Rs.head st 5 with hit := n, cost := (tkF1 z (sCost, 8)).2, settled := iI (tkF1 (tkF1 z (sCost, 8)).1 (sSettled, 4)).2, left := iI (tkF1 (tkF1 (tkF1 z (sCost, 8)).1 (sSettled, 4)).1 (sLeft, 4)).2 }, (movT (tkF1 (tkF1 (tkF1 z (sCost, 8)).1 (sSettled, 4)).1 (sLeft, 4)).1 sMoves).2)) (fun _ _ _ => finP_some _ _ _ _) ?_
  intro l n0
  rw [setS_sHit]
  dsimp only
  refine one_step ⟨sCost, 8, 1, [52, 53]⟩ _ _ _ _ (fun z n => ((movT (tkF1 (tkF1 z (sSettled, 4)).1 (sLeft, 4)).1 sMoves).1, { Rs.head st 5 with hit := decide (n0 = 1), cost := n, settled := iI (tkF1 z (sSettled, 4)).2, left := iI (tkF1 (tkF1 z (sSettled, 4)).1 (sLeft, 4)).2 }, (movT (tkF1 (tkF1 z (sSettled, 4)).1 (sLeft, 4)).1 sMoves).2)) rfl (by decide) (by decide) (fun _ _ _ => finP_some _ _ _ _) ?_
  intro l n1
  rw [setS_sCost]
  dsimp only
  refine one_step ⟨sSettled, 4, 1, [52, 53]⟩ _ _ _ _ (fun z n => ((movT (tkF1 z (sLeft, 4)).1 sMoves).1, { Rs.head st 5 with hit := decide (n0 = 1), cost := n1, settled := iI n, left := iI (tkF1 z (sLeft, 4)).2 }, (movT (tkF1 z (sLeft, 4)).1 sMoves).2)) rfl (by decide) (by decide) (fun _ _ _ => finP_some _ _ _ _) ?_
  intro l n2
  rw [setS_sSettled]
  dsimp only
  refine one_step ⟨sLeft, 4, 1, [52, 53, 54]⟩ _ _ _ _ (fun z n => ((movT z sMoves).1, { Rs.head st 5 with hit := decide (n0 = 1), cost := n1, settled := iI n2, left := iI n }, (movT z sMoves).2)) rfl (by decide) (by decide) (fun _ _ _ => finP_some _ _ _ _) ?_
  intro l n3
  rw [setS_sLeft]
  dsimp only
  exact moves_step _ _ _
theorem body6 (st : Int) (l : List Nat) : refPG (fun _ => true) (tolds.filter (hasO 6)) l (Rs.head st 6) [] = finP (tellT (Rs.head st 6) (l, none)) := by
  have e : tellT (Rs.head st 6) (l, none) = ((tkF1 (tkF1 (tkF1 (tkF1 (tkF1 (tkF1 (l, none) (sExpl, 4)).1 (sVer, 4)).1 (sLeft, 4)).1 (sUnits, 1)).1 (sCache, 1)).1 (sSess, 1)).1, { Rs.head st 6 with expl := iI (tkF1 (l, none) (sExpl, 4)).2, ver := iI (tkF1 (tkF1 (l, none) (sExpl, 4)).1 (sVer, 4)).2, left := iI (tkF1 (tkF1 (tkF1 (l, none) (sExpl, 4)).1 (sVer, 4)).1 (sLeft, 4)).2, units := iI (tkF1 (tkF1 (tkF1 (tkF1 (l, none) (sExpl, 4)).1 (sVer, 4)).1 (sLeft, 4)).1 (sUnits, 1)).2, cache := iI (tkF1 (tkF1 (tkF1 (tkF1 (tkF1 (l, none) (sExpl, 4)).1 (sVer, 4)).1 (sLeft, 4)).1 (sUnits, 1)).1 (sCache, 1)).2, sess := iI (tkF1 (tkF1 (tkF1 (tkF1 (tkF1 (tkF1 (l, none) (sExpl, 4)).1 (sVer, 4)).1 (sLeft, 4)).1 (sUnits, 1)).1 (sCache, 1)).1 (sSess, 1)).2 }, []) := rfl
  rw [e, show tolds.filter (hasO 6) = [⟨sExpl, 4, 1, [51, 54]⟩, ⟨sVer, 4, 1, [50, 51, 54]⟩, ⟨sLeft, 4, 1, [52, 53, 54]⟩, ⟨sUnits, 1, 1, [54]⟩, ⟨sCache, 1, 1, [54]⟩, ⟨sSess, 1, 1, [54]⟩] from rfl]
  refine one_step ⟨sExpl, 4, 1, [51, 54]⟩ _ _ _ _ (fun z n => ((tkF1 (tkF1 (tkF1 (tkF1 (tkF1 z (sVer, 4)).1 (sLeft, 4)).1 (sUnits, 1)).1 (sCache, 1)).1 (sSess, 1)).1, { Rs.head st 6 with expl := iI n, ver := iI (tkF1 z (sVer, 4)).2, left := iI (tkF1 (tkF1 z (sVer, 4)).1 (sLeft, 4)).2, units := iI (tkF1 (tkF1 (tkF1 z (sVer, 4)).1 (sLeft, 4)).1 (sUnits, 1)).2, cache := iI (tkF1 (tkF1 (tkF1 (tkF1 z (sVer, 4)).1 (sLeft, 4)).1 (sUnits, 1)).1 (sCache, 1)).2, sess := iI (tkF1 (tkF1 (tkF1 (tkF1 (tkF1 z (sVer, 4)).1 (sLeft, 4)).1 (sUnits, 1)).1 (sCache, 1)).1 (sSess, 1)).2 }, [])) rfl (by decide) (by decide) (fun _ _ _ => finP_some _ _ _ _) ?_
  intro l n0
  rw [setS_sExpl]
  dsimp only
  refine one_step ⟨sVer, 4, 1, [50, 51, 54]⟩ _ _ _ _ (fun z n => ((tkF1 (tkF1 (tkF1 (tkF1 z (sLeft, 4)).1 (sUnits, 1)).1 (sCache, 1)).1 (sSess, 1)).1, { Rs.head st 6 with expl := iI n0, ver := iI n, left := iI (tkF1 z (sLeft, 4)).2, units := iI (tkF1 (tkF1 z (sLeft, 4)).1 (sUnits, 1)).2, cache := iI (tkF1 (tkF1 (tkF1 z (sLeft, 4)).1 (sUnits, 1)).1 (sCache, 1)).2, sess := iI (tkF1 (tkF1 (tkF1 (tkF1 z (sLeft, 4)).1 (sUnits, 1)).1 (sCache, 1)).1 (sSess, 1)).2 }, [])) rfl (by decide) (by decide) (fun _ _ _ => finP_some _ _ _ _) ?_
  intro l n1
  rw [setS_sVer]
  dsimp only
  refine one_step ⟨sLeft, 4, 1, [52, 53, 54]⟩ _ _ _ _ (fun z n => ((tkF1 (tkF1 (tkF1 z (sUnits, 1)).1 (sCache, 1)).1 (sSess, 1)).1, { Rs.head st 6 with expl := iI n0, ver := iI n1, left := iI n, units := iI (tkF1 z (sUnits, 1)).2, cache := iI (tkF1 (tkF1 z (sUnits, 1)).1 (sCache, 1)).2, sess := iI (tkF1 (tkF1 (tkF1 z (sUnits, 1)).1 (sCache, 1)).1 (sSess, 1)).2 }, [])) rfl (by decide) (by decide) (fun _ _ _ => finP_some _ _ _ _) ?_
  intro l n2
  rw [setS_sLeft]
  dsimp only
  refine one_step ⟨sUnits, 1, 1, [54]⟩ _ _ _ _ (fun z n => ((tkF1 (tkF1 z (sCache, 1)).1 (sSess, 1)).1, { Rs.head st 6 with expl := iI n0, ver := iI n1, left := iI n2, units := iI n, cache := iI (tkF1 z (sCache, 1)).2, sess := iI (tkF1 (tkF1 z (sCache, 1)).1 (sSess, 1)).2 }, [])) rfl (by decide) (by decide) (fun _ _ _ => finP_some _ _ _ _) ?_
  intro l n3
  rw [setS_sUnits]
  dsimp only
  refine one_step ⟨sCache, 1, 1, [54]⟩ _ _ _ _ (fun z n => ((tkF1 z (sSess, 1)).1, { Rs.head st 6 with expl := iI n0, ver := iI n1, left := iI n2, units := iI n3, cache := iI n, sess := iI (tkF1 z (sSess, 1)).2 }, [])) rfl (by decide) (by decide) (fun _ _ _ => finP_some _ _ _ _) ?_
  intro l n4
  rw [setS_sCache]
  dsimp only
  refine one_step ⟨sSess, 1, 1, [54]⟩ _ _ _ _ (fun z n => (z, { Rs.head st 6 with expl := iI n0, ver := iI n1, left := iI n2, units := iI n3, cache := iI n4, sess := iI n }, [])) rfl (by decide) (by decide) (fun _ _ _ => finP_some _ _ _ _) ?_
  intro l n5
  rw [setS_sSess]
  dsimp only
  exact finP_none _ _ _ _
theorem par_same (l : List Nat) (hB : Byt l) : par l = rPar l := by
  match l, hB with
  | [], _ => rfl
  | [s], hB => exact finP_some _ _ _ _
  | s :: o :: l, hB =>
    have hs : s < 256 := hB s List.mem_cons_self
    have ho : o < 256 := hB o (List.mem_cons_of_mem _ List.mem_cons_self)
    have hBl : Byt l := fun x hx => hB x (List.mem_cons_of_mem _ (List.mem_cons_of_mem _ hx))
    have h1 : tkF1 (s :: o :: l, none) (sStat, 1) = ((o :: l, none), s) := by
      show (((tk1 (sStat, 1) (s :: o :: l)).2.1, (tk1 (sStat, 1) (s :: o :: l)).1), (tk1 (sStat, 1) (s :: o :: l)).2.2) = _
      unfold tk1
      rw [if_pos (by simp)]
      simp [num]
    have h2 : tkF1 (o :: l, none) (sOp, 1) = ((l, none), o) := by
      show (((tk1 (sOp, 1) (o :: l)).2.1, (tk1 (sOp, 1) (o :: l)).1), (tk1 (sOp, 1) (o :: l)).2.2) = _
      unfold tk1
      rw [if_pos (by simp)]
      simp [num]
    have is : iI s = (s : Int) := by unfold iI; rw [IntKind.wrap_i64]; omega
    have io : iI o = (o : Int) := by unfold iI; rw [IntKind.wrap_i64]; omega
    have et : toldT (s :: o :: l, none) = toldT2 s o (l, none) := by
      unfold toldT
      simp only [h1, h2, is, io]
    have er : rPar (s :: o :: l) = if opensE (s : Int) (o : Int) ≠ 0 then (some (sOp, opensE (s : Int) (o : Int)), zR, []) else refPG (hasP (s : Int) (o : Int)) tolds l (Rs.head s o) [] := by
      unfold rPar
      rw [if_neg (by simp), if_neg (by simp)]
      rfl
    unfold par
    rw [et, er]
    unfold toldT2
    dsimp only
    by_cases ha : 7 ≤ (o : Int) ∧ (o : Int) ≠ 255
    · have : opensE (s : Int) (o : Int) = 18 := by unfold opensE; rw [if_pos (by omega)]
      rw [this, if_pos ha, if_pos (by decide)]
      exact finP_some _ _ _ _
    rw [if_neg ha]
    by_cases hb : (o : Int) = 255 ∧ (s : Int) = 0
    · have : opensE (s : Int) (o : Int) = 1 := by unfold opensE; rw [if_neg (by omega), if_pos hb]
      rw [this, if_pos hb, if_pos (by decide)]
      exact finP_some _ _ _ _
    rw [if_neg hb]
    have h0 : opensE (s : Int) (o : Int) = 0 := by unfold opensE; rw [if_neg (by omega), if_neg (by omega)]
    rw [if_neg (show ¬ opensE (s : Int) (o : Int) ≠ 0 from fun h => h h0), refPG_filter, ← bodyB_R h0]
    by_cases hc : bodyR (s : Int) (o : Int) = true
    · rw [if_pos hc, filt _ _ hc]
      have h6 : (o : Int) ≤ 6 := by unfold bodyR at hc; simp at hc; omega
      have hk : o = 0 ∨ o = 1 ∨ o = 2 ∨ o = 3 ∨ o = 4 ∨ o = 5 ∨ o = 6 := by omega
      rcases hk with rfl | rfl | rfl | rfl | rfl | rfl | rfl
      · exact (body0 _ _).symm
      · exact (body1 _ _).symm
      · exact (body2 _ _).symm
      · exact (body3 _ _).symm
      · exact (body4 _ _ hBl).symm
      · exact (body5 _ _ hBl).symm
      · exact (body6 _ _).symm
    · rw [if_neg hc]
      have hf : tolds.filter (hasP (s : Int) (o : Int)) = [] := by
        rw [List.filter_eq_nil_iff]
        intro w _ h
        unfold hasP at h
        rw [Bool.and_eq_true] at h
        exact hc h.1
      rw [hf]
      exact (finP_none _ _ _ _).symm
end Go.Proofs.YtnaclkdjchnbpaaDoor
end
section
namespace Go.Proofs.YtnaclkdjchnbpaaDoor
open Go Go.K

def i64 (n : Nat) : Int := IntKind.i64.wrap (n : Int)
def setR (r : Rq) (w : RowT) (x : List Nat) : Rq :=
  if w.name = sOp then { r with op := i64 (x.getD 0 0) } else if w.name = sToken then { r with tok := x.getD 0 0 } else if w.name = sUnit then { r with unit := i64 (x.getD 0 0) } else if w.name = sDir then { r with dir := i64 (x.getD 0 0) }
  else if w.name = sFrom then { r with fx := i64 (x.getD 0 0), fy := i64 (x.getD 1 0) } else if w.name = sTo then { r with tx := i64 (x.getD 0 0), ty := i64 (x.getD 1 0) } else r
def refG : List RowT → Nat → List Nat → Rq → Flt × Rq
  | [], _, l, r => if 0 < l.length then (some (sEnd, 12), Rq.zero) else (none, r)
  | w :: ws, k, l, r => if 0 < k ∧ hasR w.ops r.op = false then refG ws (k + 1) l r else if l.length < w.size * w.many then (some (w.name, 17), Rq.zero)
    else if w.name = sOp ∧ 6 < (setR r w (rdN w.size w.many l)).op then (some (sOp, 18), Rq.zero) else refG ws (k + 1) (l.drop (w.size * w.many)) (setR r w (rdN w.size w.many l))
def rDec (l : List Nat) : Flt × Rq := refG asked 0 l Rq.zero
theorem rdN_snoc (s m : Nat) (l : List Nat) : rdN s (m + 1) l = rdN s m l ++ [num ((l.drop (m * s)).take s)] := by
  unfold rdN
  rw [List.range_succ, List.map_append]
  rfl
end Go.Proofs.YtnaclkdjchnbpaaDoor
end
section
namespace Go.Proofs.YtnaclkdjchnbpaaDoor
open Go Go.K

def dec (l : List Nat) : Flt × Rq := match decF l with
  | none => (none, (decS l).2.2)
  | some y => (some y, Rq.zero)
def finD (x : Flt × List Nat × Rq) : Flt × Rq := match x with
  | (some y, _, _) => (some y, Rq.zero)
  | (none, l, r) => if 0 < l.length then (some (sEnd, 12), Rq.zero) else (none, r)
theorem setR_op {r : Rq} {w : RowT} {x : List Nat} (h : w.name ≠ sOp) : (setR r w x).op = r.op := by
  unfold setR
  rw [if_neg h]
  (repeat' split) <;> rfl
theorem refG_refD : ∀ (ws : List RowT) (k : Nat) (l : List Nat) (r : Rq), 0 < k → (∀ w ∈ ws, w.name ≠ sOp) → refG ws k l r = finD (refD setR (hasO r.op) ws l r)
  | [], _, _, _, _, _ => rfl
  | w :: ws, k, l, r, hk, hn => by
    have h1 := hn w (List.mem_cons_self)
    have h2 := fun v hv => hn v (List.mem_cons_of_mem _ hv)
    unfold refG refD hasO
    by_cases hb : hasR w.ops r.op = true
    · rw [if_neg (by rw [hb]; simp), if_pos hb]
      by_cases hl : l.length < w.size * w.many
      · rw [if_pos hl, if_pos hl]; rfl
      · rw [if_neg hl, if_neg hl, if_neg (fun h => h1 h.1), refG_refD ws (k + 1) _ _ (by omega) h2, setR_op h1]
        rfl
    · rw [if_pos ⟨hk, by simpa using hb⟩, if_neg hb, refG_refD ws (k + 1) l r (by omega) h2]
      rfl
theorem tk1_none {f : ByteArray × Nat} {l l' : List Nat} {n : Nat} (h : tk1 f l = (none, l', n)) : f.2 ≤ l.length ∧ l' = l.drop f.2 ∧ n = num (l.take f.2) := by
  unfold tk1 at h
  split at h
  · simp only [Prod.mk.injEq, true_and] at h
    exact ⟨by assumption, h.1.symm, h.2.symm⟩
  · simp at h
theorem tk1_some {f : ByteArray × Nat} {l l' : List Nat} {n : Nat} {y : ByteArray × Int} (h : tk1 f l = (some y, l', n)) : l.length < f.2 ∧ y = (f.1, 17) := by
  unfold tk1 at h
  split at h
  · simp at h
  · simp only [Prod.mk.injEq, Option.some.injEq] at h
    exact ⟨by omega, h.1.symm⟩
def rowTok : RowT := ⟨sToken, 8, 1, [49, 50, 51, 52, 53, 54]⟩
def rowsB (o : Int) : List RowT := if o = 2 then [⟨sUnit, 1, 1, [50]⟩, ⟨sDir, 1, 1, [50]⟩] else if o = 4 ∨ o = 5 then [⟨sFrom, 2, 2, [52, 53]⟩, ⟨sTo, 2, 2, [52, 53]⟩] else []
theorem stepR2_t (o : Int) (l : List Nat) (m : Md) (x : Flt) (q : Rq) (h : stepR2 (.take l) { Rq.zero with op := o } = (m, x, q)) :
    (takF (rows (rowTok :: rowsB o)) l).1 = x ∧ (x = none → m = .take (takF (rows (rowTok :: rowsB o)) l).2.1 ∧ q = setAll setR (rowTok :: rowsB o) (takF (rows (rowTok :: rowsB o)) l).2.2 { Rq.zero with op := o }) := by
  have er : rows (rowTok :: rowsB o) = (sToken, 8) :: rows (rowsB o) := rfl
  rw [er]
  unfold takF
  unfold stepR2 at h
  have hW : stepW (.take l) none sToken 0 8 = (.take (tk1 (sToken, 8) l).2.1, (tk1 (sToken, 8) l).1, (tk1 (sToken, 8) l).2.2) := stepW_t l sToken 0 8 (by omega) (by omega)
  have hz : ({ Rq.zero with op := o } : Rq).tok = 0 := rfl
  rw [hz] at h
  rw [hW] at h
  generalize tk1 (sToken, 8) l = t at h ⊢
  rcases t with ⟨x1, l1, n1⟩
  dsimp only at h ⊢
  rcases x1 with _ | y1
  · try dsimp only
    unfold rowsB
    by_cases h2 : o = 2
    · subst h2
      rw [if_pos rfl] at h ⊢
      have e2 : rows [⟨sUnit, 1, 1, [50]⟩, ⟨sDir, 1, 1, [50]⟩] = [(sUnit, 1), (sDir, 1)] := rfl
      rw [e2]
      have hU : stepN (.take l1) none sUnit 0 1 = _ := stepN_t l1 sUnit 0 1 (by omega) (by omega)
      have h' := h
      simp only [Rq.zero, hU] at h'
      unfold takF
      rcases htl1 : tk1 (sUnit, 1) l1 with ⟨x2, l2, n2⟩
      try simp only [htl1] at h'
      try simp only [htl1]
      try dsimp only at h' ⊢
      rcases x2 with _ | y2
      · have hD : stepN (.take l2) none sDir 0 1 = _ := stepN_t l2 sDir 0 1 (by omega) (by omega)
        rw [hD] at h'
        unfold takF
        rcases htl2 : tk1 (sDir, 1) l2 with ⟨x3, l3, n3⟩
        try simp only [htl2] at h'
        try simp only [htl2]
        try dsimp only at h' ⊢
        rcases x3 with _ | y3
        · obtain ⟨rfl, rfl, rfl⟩ := h'
          exact ⟨rfl, fun _ => ⟨rfl, rfl⟩⟩
        · obtain ⟨rfl, rfl, rfl⟩ := h'
          exact ⟨rfl, fun e => by cases e⟩
      · obtain ⟨rfl, rfl, rfl⟩ := h'
        exact ⟨rfl, fun e => by cases e⟩
    · rw [if_neg h2] at h ⊢
      by_cases h4 : o = 4 ∨ o = 5
      · rw [if_pos h4] at h ⊢
        have e2 : rows [⟨sFrom, 2, 2, [52, 53]⟩, ⟨sTo, 2, 2, [52, 53]⟩] = [(sFrom, 2), (sFrom, 2), (sTo, 2), (sTo, 2)] := rfl
        rw [e2]
        have h' := h
        simp only [Rq.zero] at h'
        rw [stepC_t l1 sFrom 0 0] at h'
        unfold takF
        rcases htl1 : tk1 (sFrom, 2) l1 with ⟨x2, l2, n2⟩
        try simp only [htl1] at h'
        try simp only [htl1]
        try dsimp only at h' ⊢
        rcases x2 with _ | y2
        · try dsimp only at h'
          unfold takF
          rcases htl2 : tk1 (sFrom, 2) l2 with ⟨x3, l3, n3⟩
          try simp only [htl2] at h'
          try simp only [htl2]
          try dsimp only at h' ⊢
          rcases x3 with _ | y3
          · try dsimp only at h'
            rw [stepC_t l3 sTo 0 0] at h'
            unfold takF
            rcases htl3 : tk1 (sTo, 2) l3 with ⟨x4, l4, n4⟩
            try simp only [htl3] at h'
            try simp only [htl3]
            try dsimp only at h' ⊢
            rcases x4 with _ | y4
            · try dsimp only at h'
              unfold takF
              rcases htl4 : tk1 (sTo, 2) l4 with ⟨x5, l5, n5⟩
              try simp only [htl4] at h'
              try simp only [htl4]
              try dsimp only at h' ⊢
              rcases x5 with _ | y5
              · obtain ⟨rfl, rfl, rfl⟩ := h'
                exact ⟨rfl, fun _ => ⟨rfl, rfl⟩⟩
              · obtain ⟨rfl, rfl, rfl⟩ := h'
                exact ⟨rfl, fun e => by cases e⟩
            · obtain ⟨rfl, rfl, rfl⟩ := h'
              exact ⟨rfl, fun e => by cases e⟩
          · obtain ⟨rfl, rfl, rfl⟩ := h'
            exact ⟨rfl, fun e => by cases e⟩
        · obtain ⟨rfl, rfl, rfl⟩ := h'
          exact ⟨rfl, fun e => by cases e⟩
      · rw [if_neg h4] at h ⊢
        obtain ⟨rfl, rfl, rfl⟩ := h
        exact ⟨rfl, fun _ => ⟨rfl, rfl⟩⟩
  · by_cases h2 : o = 2
    · rw [if_pos h2] at h
      obtain ⟨rfl, rfl, rfl⟩ := h
      exact ⟨rfl, fun e => by cases e⟩
    · rw [if_neg h2] at h
      by_cases h4 : o = 4 ∨ o = 5
      · rw [if_pos h4] at h
        obtain ⟨rfl, rfl, rfl⟩ := h
        exact ⟨rfl, fun e => by cases e⟩
      · rw [if_neg h4] at h
        obtain ⟨rfl, rfl, rfl⟩ := h
        exact ⟨rfl, fun e => by cases e⟩
/-- Of what program and document tell of one payload, behind its op. -/
theorem body_same {o : Int} (ho : o = 0 ∨ o = 1 ∨ o = 2 ∨ o = 3 ∨ o = 4 ∨ o = 5 ∨ o = 6) (l : List Nat) (m : Md) (x : Flt) (q : Rq)
    (h : (if opSize o = 0 then (Md.take l, none, { Rq.zero with op := o }) else stepR2 (.take l) { Rq.zero with op := o }) = (m, x, q)) :
    (match (if 0 < m.len then note x sEnd 12 else x) with | none => (none, q) | some y => (some y, Rq.zero)) = finD (refD setR (hasO o) asked.tail l { Rq.zero with op := o }) := by
  rw [refD_filter]
  have hrow : asked.tail.filter (hasO o) = if opSize o = 0 then [] else rowTok :: rowsB o := by
    rcases ho with h | h | h | h | h | h | h <;> subst h <;> rfl
  rw [hrow]
  have key : ∀ (m : Md) (q : Rq) (l' : List Nat), m = .take l' → (match (if 0 < m.len then note none sEnd 12 else none) with | none => ((none : Flt), q) | some y => (some y, Rq.zero)) = finD (none, l', q) := by
    intro m q l' e
    subst e
    show (match (if 0 < l'.length then note none sEnd 12 else none) with | none => _ | some y => _) = if 0 < l'.length then _ else _
    by_cases hl : 0 < l'.length
    · rw [if_pos hl, if_pos hl]; rfl
    · rw [if_neg hl, if_neg hl]
  by_cases h0 : opSize o = 0
  · rw [if_pos h0] at h ⊢
    obtain ⟨rfl, rfl, rfl⟩ := h
    exact key _ _ l rfl
  · rw [if_neg h0] at h ⊢
    obtain ⟨e3, e4⟩ := stepR2_t o l m x q h
    rcases refD_tak setR (rowTok :: rowsB o) l { Rq.zero with op := o } with ⟨y, l', r', l'', ns, e1, e2⟩ | ⟨l', ns, e1, e2⟩
    · rw [e1]
      rw [e2] at e3
      dsimp only at e3
      subst e3
      have : (if 0 < m.len then note (some y) sEnd 12 else some y) = some y := by split <;> rfl
      rw [this]
      rfl
    · rw [e2]
      rw [e1] at e3 e4
      dsimp only at e3 e4
      subst e3
      obtain ⟨h1, h2⟩ := e4 rfl
      subst h2
      exact key m _ l' h1
theorem dec_same (l : List Nat) (hB : Byt l) : dec l = rDec l := by
  have hN : stepN (.take l) none sOp 0 1 = _ := stepN_t l sOp 0 1 (by omega) (by omega)
  rcases h0 : tk1 (sOp, 1) l with ⟨x0, l1, n⟩
  rw [h0] at hN
  dsimp only at hN
  rcases x0 with _ | y
  · obtain ⟨h1, h2, h3⟩ := tk1_none h0
    have hlt : n < 256 := by
      rw [h3]
      have := num_lt 1 (l.take 1) (by rw [List.length_take]; exact Nat.min_eq_left h1) (hB.take 1)
      simpa using this
    have hi : IntKind.i64.wrap (n : Int) = (n : Int) := by rw [IntKind.wrap_i64]; omega
    have hrd : rdN 1 1 l = [n] := by rw [h3]; rfl
    have eS : decS l = if (n : Int) < 0 ∨ 7 ≤ (n : Int) then (.take l1, some (sOp, 18), { Rq.zero with op := (n : Int) }) else (if opSize (n : Int) = 0 then (.take l1, none, { Rq.zero with op := (n : Int) }) else stepR2 (.take l1) { Rq.zero with op := (n : Int) }) := by
      unfold decS stepR
      have : stepN (.take l) none sOp Rq.zero.op 1 = (.take l1, none, (n : Int)) := by rw [← hi]; exact hN
      rw [this]
    have eR : rDec l = if 6 < (n : Int) then (some (sOp, 18), Rq.zero) else refG asked.tail 1 l1 { Rq.zero with op := (n : Int) } := by
      unfold rDec
      show refG (⟨sOp, 1, 1, [48, 49, 50, 51, 52, 53, 54]⟩ :: asked.tail) 0 l Rq.zero = _
      rw [refG, if_neg (by omega), if_neg (by have : 1 ≤ l.length := h1; show ¬ l.length < 1 * 1; omega)]
      show (if sOp = sOp ∧ 6 < (setR Rq.zero ⟨sOp, 1, 1, _⟩ (rdN 1 1 l)).op then _ else refG asked.tail (0 + 1) (l.drop (1 * 1)) (setR Rq.zero ⟨sOp, 1, 1, _⟩ (rdN 1 1 l))) = _
      have e5 : setR Rq.zero ⟨sOp, 1, 1, [48, 49, 50, 51, 52, 53, 54]⟩ (rdN 1 1 l) = { Rq.zero with op := (n : Int) } := by
        unfold setR
        rw [if_pos rfl, hrd]
        show ({ Rq.zero with op := IntKind.i64.wrap (n : Int) } : Rq) = _
        rw [hi]
      rw [e5, h2]
      by_cases h6 : 6 < (n : Int)
      · rw [if_pos h6, if_pos ⟨rfl, h6⟩]
      · rw [if_neg h6, if_neg (fun h => h6 h.2)]
    rw [eR]
    unfold dec decF
    by_cases h6 : 6 < (n : Int)
    · have eS6 : decS l = (.take l1, some (sOp, 18), { Rq.zero with op := (n : Int) }) := by rw [eS, if_pos (by omega)]
      rw [eS6, if_pos h6]
      dsimp only
      have : (if 0 < (Md.take l1).len then note (some (sOp, 18)) sEnd 12 else some (sOp, 18)) = some (sOp, 18) := by split <;> rfl
      rw [this]
    · have eS6 : decS l = (if opSize (n : Int) = 0 then (.take l1, none, { Rq.zero with op := (n : Int) }) else stepR2 (.take l1) { Rq.zero with op := (n : Int) }) := by rw [eS, if_neg (by omega)]
      rw [eS6, if_neg h6, refG_refD _ 1 l1 _ (by omega) (by decide)]
      exact body_same (o := (n : Int)) (by omega) l1 _ _ _ rfl
  · obtain ⟨h1, rfl⟩ := tk1_some h0
    have eS : decS l = (.take l1, some (sOp, 17), { Rq.zero with op := IntKind.i64.wrap (n : Int) }) := by
      unfold decS stepR
      have : stepN (.take l) none sOp Rq.zero.op 1 = (.take l1, some (sOp, 17), IntKind.i64.wrap (n : Int)) := hN
      rw [this]
    have eR : rDec l = (some (sOp, 17), Rq.zero) := by
      unfold rDec
      show refG (⟨sOp, 1, 1, [48, 49, 50, 51, 52, 53, 54]⟩ :: asked.tail) 0 l Rq.zero = _
      rw [refG, if_neg (by omega), if_pos (by have : l.length < 1 := h1; show l.length < 1 * 1; omega)]
    rw [eR]
    unfold dec decF
    rw [eS]
    dsimp only
    have : (if 0 < (Md.take l1).len then note (some (sOp, 17)) sEnd 12 else some (sOp, 17)) = some (sOp, 17) := by split <;> rfl
    rw [this]
end Go.Proofs.YtnaclkdjchnbpaaDoor
end
section
namespace Go.Proofs.YtnaclkdjchnbpaaDoor
open Go Go.K

def Rq.b : Rq := ⟨2, 1, 2, 1, 0, 0, 0, 0⟩
theorem I64_0 : I64 0 := by unfold I64; omega
theorem I64_1 : I64 1 := by unfold I64; omega
theorem I64_2 : I64 2 := by unfold I64; omega
theorem encF_a : encF Rq.zero = none := by rfl
theorem encB_a : encB Rq.zero = [0] := by rfl
theorem encF_b : encF Rq.b = none := by rfl
theorem encB_b : encB Rq.b = [2, 0, 0, 0, 0, 0, 0, 0, 1, 2, 1] := by rfl
theorem EncodeA_p (β : Nat → Option Obj) : Go.K.Tr Tryd.prog 10 [.agg #[.int .i64 0, .int .u64 0, .int .i64 0, .int .i64 0, .int .i64 0, .int .i64 0, .int .i64 0, .int .i64 0]] β [] (fun v σ => ∃ b, v = .tuple #[.slice (some ⟨b, 0, none⟩) 1 1, .nilIface] ∧ σ = [(b, cl (by8 [0]) 5)]) := by
  refine (Encode_p β Rq.zero ⟨I64_0, by decide, I64_0, I64_0, I64_0, I64_0, I64_0, I64_0⟩).mono ?_
  intro v σ h
  unfold EncR at h
  rw [encF_a, encB_a] at h
  exact h
theorem EncodeB_p (β : Nat → Option Obj) : Go.K.Tr Tryd.prog 10 [.agg #[.int .i64 2, .int .u64 1, .int .i64 2, .int .i64 1, .int .i64 0, .int .i64 0, .int .i64 0, .int .i64 0]] β [] (fun v σ => ∃ b, v = .tuple #[.slice (some ⟨b, 0, none⟩) 11 11, .nilIface] ∧ σ = [(b, cl (by8 [2, 0, 0, 0, 0, 0, 0, 0, 1, 2, 1]) 5)]) := by
  refine (Encode_p β Rq.b ⟨I64_2, by decide, I64_2, I64_1, I64_0, I64_0, I64_0, I64_0⟩).mono ?_
  intro v σ h
  unfold EncR at h
  rw [encF_b, encB_b] at h
  exact h
theorem awake_of (β : Nat → Option Obj) (hW : ∀ β : Nat → Option Obj, Go.K.Tr Tryd.prog 16 [.agg #[.int .i64 19, .int .i64 1, .int .u64 0, .int .i64 0, .int .i64 0, .int .i64 0, .int .i64 0, .int .i64 0, .int .i64 0, .bool false, .int .u64 0, .int .i64 0, .int .i64 0, .slice none 0 0, .int .i64 0, .int .i64 0, .int .i64 0]] β [] (fun v σ => ∃ b, v = .tuple #[.slice (some ⟨b, 0, none⟩) 2 2, .nilIface] ∧ σ = [(b, cl (by8 [19, 1]) 5)])) : Go.K.Tr Tryd.prog 15 [] β [] (fun z σ => z = .bool true ∧ σ = []) := by
  refine Tr.sub ?_
  refine Tr.of_body Tryd.tt (args := []) (fr := []) Tryd.func15 rfl (by decide) rfl Tryd.ntmps15 rfl rfl ?_
  intro E hE
  subst hE
  repeat' (first | refine KW.seq ?_ | refine KW.region ?_ | refine KO.nil ?_ | ((first | apply KO.val rfl rfl rfl ?kq ?_ ); (case kq => ((first | apply qt_ev rfl ?hi | apply qt_build rfl rfl ?hi rfl ); (case hi => (intro h; (repeat' (first | with_reducible exact alln | with_reducible refine allc ?_ ?_ )); all_goals (first | with_reducible rfl )))))) | fail)
  refine KO.callF [] [] (by classical exact List.perm_iff_count.2 (fun _ => by first | (simp only [List.count_append, List.count_cons, List.count_nil, List.append_assoc, List.cons_append, List.nil_append]; done) )) rfl rfl rfl rfl rfl rfl rfl (EncodeA_p _) ?_
  rintro _ _ ⟨b1, rfl, rfl⟩
  repeat' (first | refine KW.seq ?_ | refine KW.region ?_ | refine KO.nil ?_ | ((first | apply KO.val rfl rfl rfl ?kq ?_ ); (case kq => ((first | apply qt_ev rfl ?hi | apply qt_build rfl rfl ?hi rfl ); (case hi => (intro h; (repeat' (first | with_reducible exact alln | with_reducible refine allc ?_ ?_ )); all_goals (first | with_reducible rfl )))))) | fail)
  refine KO.callF [] [(b1, cl (by8 [0]) 5)] (by classical exact List.perm_iff_count.2 (fun _ => by first | (simp only [List.count_append, List.count_cons, List.count_nil, List.append_assoc, List.cons_append, List.nil_append]; done) )) rfl rfl rfl rfl rfl rfl rfl (EncodeB_p _) ?_
  rintro _ _ ⟨b2, rfl, rfl⟩
  repeat' (first | refine KW.seq ?_ | refine KW.region ?_ | refine KO.nil ?_ | ((first | apply KO.val rfl rfl rfl ?kq ?_ ); (case kq => ((first | apply qt_ev rfl ?hi | apply qt_build rfl rfl ?hi rfl ); (case hi => (intro h; (repeat' (first | with_reducible exact alln | with_reducible refine allc ?_ ?_ )); all_goals (first | with_reducible rfl )))))) | fail)
  refine KO.callF [] [(b2, cl (by8 [2, 0, 0, 0, 0, 0, 0, 0, 1, 2, 1]) 5), (b1, cl (by8 [0]) 5)] (by classical exact List.perm_iff_count.2 (fun _ => by first | (simp only [List.count_append, List.count_cons, List.count_nil, List.append_assoc, List.cons_append, List.nil_append]; done) )) rfl rfl rfl rfl rfl rfl rfl (hW _) ?_
  rintro _ _ ⟨b3, rfl, rfl⟩
  have hs := fun (σ : Heap) (b d : Nat) (l : List Nat) (h1 : (b, cl (by8 l) 5) ∈ σ) (h2 : (d, cl (by8 l) 5) ∈ σ) (hl : l.length ≤ 1000000) => same_p E.β σ l l (some ⟨b, 0, none⟩) (some ⟨d, 0, none⟩) l.length l.length l.length l.length rfl rfl (SL.ofBlk h1 (by simp [by8_len])) (SL.ofBlk h2 (by simp [by8_len])) hl
  simp only [decide_true] at hs
  repeat' (first | refine KW.seq ?_ | refine KW.region ?_ | refine KO.nil ?_ | ((first | apply KO.val rfl rfl rfl ?kq ?_ ); (case kq => ((first | apply qt_ev rfl ?hi | apply qt_pick_t rfl rfl (by first | with_reducible rfl ) rfl ?hi | apply qt_eqs rfl rfl rfl ?hi rfl (Or.inr ⟨rfl, rfl, rfl⟩) ); (case hi => (intro h; (repeat' (first | with_reducible exact alln | with_reducible refine allc ?_ ?_ | with_reducible refine andi ?_ ?_)); all_goals (first | with_reducible rfl )))))) | (refine KO.buildSlice rfl rfl rfl rfl rfl rfl rfl rfl rfl rfl rfl rfl rfl rfl ?_; intro _ _) | fail)
  rename_i c1 _
  repeat' (first | ((first | apply KO.val rfl rfl rfl ?kq ?_ ); (case kq => ((first | apply qt_ev rfl ?hi | refine qt_callQ rfl rfl ?hi (fun hg => hs _ b1 c1 [0] (by simp) (by simp [by8]) (by decide)) | apply qt_pick_t rfl rfl (by first | with_reducible rfl ) rfl ?hi ); (case hi => (intro h; (repeat' (first | with_reducible exact alln | with_reducible refine allc ?_ ?_ | with_reducible refine andi ?_ ?_)); all_goals (first | with_reducible rfl )))))) | (refine KO.buildSlice rfl rfl rfl rfl rfl rfl rfl rfl rfl rfl rfl rfl rfl rfl ?_; intro _ _) | fail)
  rename_i c2 _
  repeat' (first | ((first | apply KO.val rfl rfl rfl ?kq ?_ ); (case kq => ((first | apply qt_ev rfl ?hi | refine qt_callQ rfl rfl ?hi (fun hg => hs _ b2 c2 [2, 0, 0, 0, 0, 0, 0, 0, 1, 2, 1] (by simp) (by simp [by8]) (by decide)) | apply qt_pick_t rfl rfl (by first | with_reducible rfl ) rfl ?hi ); (case hi => (intro h; (repeat' (first | with_reducible exact alln | with_reducible refine allc ?_ ?_ | with_reducible refine andi ?_ ?_)); all_goals (first | with_reducible rfl )))))) | (refine KO.buildSlice rfl rfl rfl rfl rfl rfl rfl rfl rfl rfl rfl rfl rfl rfl ?_; intro _ _) | fail)
  rename_i c3 _
  repeat' (first | refine KO.nil ?_ | refine At.then_normal ?_ | refine KW.ret ?_ | ((first | apply KO.val rfl rfl rfl ?kq ?_ ); (case kq => ((first | apply qt_ev rfl ?hi | refine qt_callQ rfl rfl ?hi (fun hg => hs _ b3 c3 [19, 1] (by simp) (by simp [by8]) (by decide)) | apply qt_pick_t rfl rfl (by first | with_reducible rfl ) rfl ?hi ); (case hi => (intro h; (repeat' (first | with_reducible exact alln | with_reducible refine allc ?_ ?_ | with_reducible refine andi ?_ ?_)); all_goals (first | with_reducible rfl )))))) | fail)
  ((first | apply At.done_ret ); (focus (repeat' (first | exact ResVs.nil' | apply ResVs.cons' | exact ResV.tmp' rfl ))); dsimp only [resVal])
  exact ⟨[], List.nil_sublist _, rfl, rfl⟩
end Go.Proofs.YtnaclkdjchnbpaaDoor
end
section
namespace Go.Proofs.YtnaclkdjchnbpaaDoor
open Go Go.K

theorem num_bes {X size : Nat} (hX : X < 2 ^ (8 * size)) : ∀ k, k ≤ size → num (bes X size k) = X / 2 ^ (8 * (size - k))
  | 0, _ => by
    rw [Nat.sub_zero, Nat.div_eq_of_lt hX]
    simp [bes, num]
  | k + 1, hk => by
    rw [bes_succ, num_snoc, num_bes hX k (by omega)]
    have e1 : 8 * (size - k) = 8 * (size - 1 - k) + 8 := by omega
    have e2 : 8 * (size - (k + 1)) = 8 * (size - 1 - k) := by omega
    rw [e1, e2, Nat.pow_add, ← Nat.div_div_eq_div_mul]
    have : (2 : Nat) ^ 8 = 256 := by decide
    rw [this]
    generalize X / 2 ^ (8 * (size - 1 - k)) = Y
    omega
theorem num_bes' {X size : Nat} (hX : X < 2 ^ (8 * size)) : num (bes X size size) = X := by
  rw [num_bes hX size (Nat.le_refl _)]; simp
theorem num_inj : ∀ (n : Nat) (l l' : List Nat), l.length = n → l'.length = n → Byt l → Byt l' → num l = num l' → l = l'
  | 0, l, l', h, h', _, _, _ => by rw [List.length_eq_zero_iff.1 h, List.length_eq_zero_iff.1 h']
  | n + 1, l, l', h, h', hB, hB', e => by
    rcases List.eq_nil_or_concat l with rfl | ⟨a, x, rfl⟩
    · simp at h
    · rcases List.eq_nil_or_concat l' with rfl | ⟨b, y, rfl⟩
      · simp at h'
      · simp only [List.concat_eq_append] at *
        rw [num_snoc, num_snoc] at e
        have hx := hB x (by simp)
        have hy := hB' y (by simp)
        rw [List.length_append] at h h'
        have e1 : num a = num b := by omega
        have e2 : x = y := by omega
        rw [num_inj n a b (by simpa using h) (by simpa using h') (fun z hz => hB z (by simp [hz])) (fun z hz => hB' z (by simp [hz])) e1, e2]
theorem bes_num {l : List Nat} {s : Nat} (h : l.length = s) (hB : Byt l) : bes (num l) s s = l := by
  have hlt : num l < 2 ^ (8 * s) := by
    have := num_lt s l h hB
    rwa [show (256 : Nat) = 2 ^ 8 by decide, ← Nat.pow_mul] at this
  exact num_inj s _ _ (bes_len _ _ _) h (bes_byt _ _ _) hB (num_bes' hlt)
abbrev En := ByteArray × Nat × Nat
def fit (f : En) : Prop := f.2.2 / 2 ^ (8 * f.2.1) = 0
def byE (l : List En) : List Nat := l.flatMap fun f => bes f.2.2 f.2.1 f.2.1
theorem byE_cons (f : En) (l : List En) : byE (f :: l) = bes f.2.2 f.2.1 f.2.1 ++ byE l := rfl
theorem fit_lt {f : En} (h : fit f) : f.2.2 < 2 ^ (8 * f.2.1) := by
  unfold fit at h
  have hp : 0 < 2 ^ (8 * f.2.1) := Nat.pow_pos (by decide)
  exact (Nat.div_eq_zero_iff.1 h).resolve_left (by omega)
theorem putF_none : ∀ (l : List En) (xs o : List Nat), putF l (xs, none) = (o, none) → (∀ f ∈ l, fit f) ∧ o = xs ++ byE l
  | [], xs, o, h => by
    have : xs = o := by simpa [putF] using h
    subst this
    exact ⟨(fun f hf => by cases hf), by simp [byE]⟩
  | f :: l, xs, o, h => by
    have h' : putF l (putF1 (xs, none) f) = (o, none) := h
    by_cases hf : fit f
    · have e : putF1 (xs, none) f = (xs ++ bes f.2.2 f.2.1 f.2.1, none) := by unfold putF1; dsimp only; exact if_pos hf
      rw [e] at h'
      obtain ⟨h1, h2⟩ := putF_none l _ _ h'
      refine ⟨fun g hg => ?_, by rw [h2, byE_cons, List.append_assoc]⟩
      rcases List.mem_cons.1 hg with rfl | hg
      · exact hf
      · exact h1 g hg
    · have e : putF1 (xs, none) f = (xs, some (f.1, 10)) := by unfold putF1; dsimp only; exact if_neg hf
      rw [e, putF_some] at h'
      simp at h'
theorem putF_ok : ∀ (l : List En) (xs : List Nat), (∀ f ∈ l, fit f) → putF l (xs, none) = (xs ++ byE l, none)
  | [], xs, _ => by simp [putF, byE]
  | f :: l, xs, h => by
    have e : putF1 (xs, none) f = (xs ++ bes f.2.2 f.2.1 f.2.1, none) := by unfold putF1; dsimp only; exact if_pos (h f List.mem_cons_self)
    show putF l (putF1 (xs, none) f) = _
    rw [e, putF_ok l _ (fun g hg => h g (List.mem_cons_of_mem _ hg)), byE_cons, List.append_assoc]
theorem takF_bes : ∀ (l : List En) (rest : List Nat), (∀ f ∈ l, fit f) → takF (l.map fun f => (f.1, f.2.1)) (byE l ++ rest) = (none, rest, l.map fun f => f.2.2)
  | [], rest, _ => rfl
  | f :: l, rest, h => by
    have e1 : tk1 (f.1, f.2.1) (byE (f :: l) ++ rest) = (none, byE l ++ rest, f.2.2) := by
      unfold tk1
      rw [byE_cons, List.append_assoc]
      rw [if_pos (by rw [List.length_append, bes_len]; exact Nat.le_add_right _ _), List.drop_left' (bes_len _ _ _), List.take_left' (bes_len _ _ _), num_bes' (fit_lt (h f List.mem_cons_self))]
    rw [List.map_cons, takF, e1]
    dsimp only
    rw [takF_bes l rest (fun g hg => h g (List.mem_cons_of_mem _ hg))]
    rfl
def zipE : List (ByteArray × Nat) → List Nat → List En
  | f :: fs, n :: ns => (f.1, f.2, n) :: zipE fs ns
  | _, _ => []
theorem takF_inv : ∀ (fs : List (ByteArray × Nat)) (l l' ns : List Nat), Byt l → takF fs l = (none, l', ns) → l = byE (zipE fs ns) ++ l' ∧ ∀ f ∈ zipE fs ns, fit f
  | [], l, l', ns, _, h => by
    simp only [takF, Prod.mk.injEq, true_and] at h
    obtain ⟨rfl, rfl⟩ := h
    exact ⟨rfl, fun f hf => by cases hf⟩
  | f :: fs, l, l', ns, hB, h => by
    rw [takF] at h
    rcases ht : tk1 f l with ⟨x, l1, n⟩
    rw [ht] at h
    rcases x with _ | y
    · obtain ⟨h1, h2, h3⟩ := tk1_none ht
      dsimp only at h
      rcases hr : takF fs l1 with ⟨x2, l2, ns2⟩
      rw [hr] at h
      simp only [Prod.mk.injEq] at h
      obtain ⟨rfl, rfl, rfl⟩ := h
      obtain ⟨h4, h5⟩ := takF_inv fs l1 l2 ns2 (by rw [h2]; exact hB.drop _) hr
      have hlen : (l.take f.2).length = f.2 := by rw [List.length_take]; exact Nat.min_eq_left h1
      refine ⟨?_, ?_⟩
      · rw [zipE, byE_cons]
        dsimp only
        rw [h3, bes_num hlen (hB.take _), List.append_assoc, ← h4, h2, List.take_append_drop]
      · intro g hg
        rcases List.mem_cons.1 hg with rfl | hg
        · unfold fit
          dsimp only
          apply Nat.div_eq_of_lt
          have := num_lt f.2 (l.take f.2) hlen (hB.take _)
          rwa [show (256 : Nat) = 2 ^ 8 by decide, ← Nat.pow_mul, ← h3] at this
        · exact h5 g hg
    · simp at h
theorem u64_i64 {x : Nat} (h : x < 18446744073709551616) : u64 (i64 x) = x := by
  unfold u64 i64
  rw [IntKind.wrap_i64]
  omega
theorem i64_I (x : Nat) : I64 (i64 x) := by
  unfold I64 i64
  rw [IntKind.wrap_i64]
  omega
/-- The rows of an operation, behind its op. -/
def rowsO (o : Int) : List RowT := if opSize o = 0 then [] else rowTok :: rowsB o
theorem rDec_cons (n : Nat) (l1 : List Nat) (hn : n < 256) : rDec (n :: l1) = if 6 < (n : Int) then (some (sOp, 18), Rq.zero) else refG asked.tail 1 l1 { Rq.zero with op := (n : Int) } := by
  have hi : i64 n = (n : Int) := by unfold i64; rw [IntKind.wrap_i64]; omega
  have hrd : rdN 1 1 (n :: l1) = [n] := by
    show [num [n]] = [n]
    simp [num]
  unfold rDec
  show refG (⟨sOp, 1, 1, [48, 49, 50, 51, 52, 53, 54]⟩ :: asked.tail) 0 (n :: l1) Rq.zero = _
  have e5 : setR Rq.zero ⟨sOp, 1, 1, [48, 49, 50, 51, 52, 53, 54]⟩ [n] = { Rq.zero with op := (n : Int) } := by
    unfold setR
    rw [if_pos rfl]
    show ({ Rq.zero with op := i64 n } : Rq) = _
    rw [hi]
  rw [refG, if_neg (by omega), if_neg (by show ¬ (n :: l1).length < 1 * 1; simp)]
  show (if sOp = sOp ∧ 6 < (setR Rq.zero ⟨sOp, 1, 1, _⟩ (rdN 1 1 (n :: l1))).op then _ else refG asked.tail (0 + 1) l1 (setR Rq.zero ⟨sOp, 1, 1, _⟩ (rdN 1 1 (n :: l1)))) = _
  rw [hrd, e5]
  by_cases h6 : 6 < (n : Int)
  · rw [if_pos h6, if_pos ⟨rfl, h6⟩]
  · rw [if_neg h6, if_neg (fun h => h6 h.2)]
theorem rDec_ok (n : Nat) (l1 : List Nat) (h6 : n ≤ 6) : rDec (n :: l1) = (match takF (rows (rowsO n)) l1 with
    | (some y, _, _) => (some y, Rq.zero)
    | (none, l', ns) => if 0 < l'.length then (some (sEnd, 12), Rq.zero) else (none, setAll setR (rowsO n) ns { Rq.zero with op := (n : Int) })) := by
  rw [rDec_cons n l1 (by omega), if_neg (by omega), refG_refD _ 1 l1 _ (by omega) (by decide), refD_filter]
  have hrow : asked.tail.filter (hasO (n : Int)) = rowsO n := by
    have : n = 0 ∨ n = 1 ∨ n = 2 ∨ n = 3 ∨ n = 4 ∨ n = 5 ∨ n = 6 := by omega
    rcases this with h | h | h | h | h | h | h <;> subst h <;> rfl
  show finD (refD setR (fun _ => true) (asked.tail.filter (hasO (n : Int))) l1 _) = _
  rw [hrow]
  rcases refD_tak setR (rowsO n) l1 { Rq.zero with op := (n : Int) } with ⟨y, l', r', l'', ns, e1, e2⟩ | ⟨l', ns, e1, e2⟩
  · rw [e1, e2]; rfl
  · rw [e2, e1]; rfl
theorem bes_one {n : Nat} (h : n < 256) : bes n 1 1 = [n] := by
  show [n / 2 ^ (8 * (1 - 1 - 0)) % 256] = [n]
  simp
  omega
theorem rows_ent (r : Rq) (ho : ¬ (r.op < 0 ∨ 7 ≤ r.op)) : (entR r).tail.map (fun f => (f.1, f.2.1)) = rows (rowsO r.op) := by
  unfold entR
  rw [List.tail_cons]
  rcases op_cases ho with h | h | h | h | h | h | h <;> rw [h] <;> rfl
theorem rows_back (r : Rq) (hr : r.Ok) (ho : ¬ (r.op < 0 ∨ 7 ≤ r.op)) (hl : leftR r = false) : setAll setR (rowsO r.op) ((entR r).tail.map fun f => f.2.2) { Rq.zero with op := r.op } = r := by
  obtain ⟨op, tok, unit, dir, fx, fy, tx, ty⟩ := r
  have i1 := i64_u64 hr.unit
  have i2 := i64_u64 hr.dir
  have i3 := i64_u64 hr.fx
  have i4 := i64_u64 hr.fy
  have i5 := i64_u64 hr.tx
  have i6 := i64_u64 hr.ty
  unfold entR
  rw [List.tail_cons]
  unfold leftR at hl
  dsimp only at *
  rcases op_cases ho with h | h | h | h | h | h | h <;> subst h
  · simp at hl
    obtain ⟨rfl, rfl, rfl, ⟨rfl, rfl⟩, rfl, rfl⟩ := hl
    rfl
  · simp at hl
    obtain ⟨rfl, rfl, ⟨rfl, rfl⟩, rfl, rfl⟩ := hl
    rfl
  · simp at hl
    obtain ⟨⟨rfl, rfl⟩, rfl, rfl⟩ := hl
    show (⟨2, tok, IntKind.i64.wrap (u64 unit : Int), IntKind.i64.wrap (u64 dir : Int), 0, 0, 0, 0⟩ : Rq) = _
    rw [i1, i2]
  · simp at hl
    obtain ⟨rfl, rfl, ⟨rfl, rfl⟩, rfl, rfl⟩ := hl
    rfl
  · simp at hl
    obtain ⟨rfl, rfl⟩ := hl
    show (⟨4, tok, 0, 0, IntKind.i64.wrap (u64 fx : Int), IntKind.i64.wrap (u64 fy : Int), IntKind.i64.wrap (u64 tx : Int), IntKind.i64.wrap (u64 ty : Int)⟩ : Rq) = _
    rw [i3, i4, i5, i6]
  · simp at hl
    obtain ⟨rfl, rfl⟩ := hl
    show (⟨5, tok, 0, 0, IntKind.i64.wrap (u64 fx : Int), IntKind.i64.wrap (u64 fy : Int), IntKind.i64.wrap (u64 tx : Int), IntKind.i64.wrap (u64 ty : Int)⟩ : Rq) = _
    rw [i3, i4, i5, i6]
  · simp at hl
    obtain ⟨rfl, rfl, ⟨rfl, rfl⟩, rfl, rfl⟩ := hl
    rfl
theorem byE_byt (l : List En) : Byt (byE l) := by
  intro x hx
  unfold byE at hx
  obtain ⟨f, _, h⟩ := List.mem_flatMap.1 hx
  exact bes_byt _ _ _ x h
/-- What a right request is put as. -/
theorem enc_some (r : Rq) (hr : r.Ok) (h : encF r = none) : ¬ (r.op < 0 ∨ 7 ≤ r.op) ∧ leftR r = false ∧ (∀ f ∈ entR r, fit f) ∧ encB r = byE (entR r) := by
  by_cases ho : r.op < 0 ∨ 7 ≤ r.op
  · unfold encF at h
    rw [if_pos ho] at h
    cases h
  · have e : enc r = (none, encB r) := by unfold enc; rw [h]
    rw [enc_eq r hr ho] at e
    rcases hp : putF (entR r) ([], none) with ⟨o, x⟩
    rw [hp] at e
    rcases x with _ | y
    · rcases hl : leftR r with _ | _
      · rw [hl] at e
        have e2 : o = encB r := by simpa [fin, cutO] using e
        obtain ⟨h1, h2⟩ := putF_none (entR r) [] o hp
        exact ⟨ho, rfl, h1, by rw [← e2, h2]; rfl⟩
      · rw [hl] at e
        simp [fin, cutO] at e
    · simp [fin, cutO] at e
theorem entR_cons (r : Rq) : entR r = (sOp, 1, u64 r.op) :: (entR r).tail := by unfold entR; rfl
theorem enc_dec (r : Rq) (hr : r.Ok) (h : encF r = none) : Byt (encB r) ∧ decF (encB r) = none ∧ (decS (encB r)).2.2 = r := by
  obtain ⟨ho, hl, hf, e⟩ := enc_some r hr h
  have hB : Byt (encB r) := by rw [e]; exact byE_byt _
  have hu : u64 r.op = r.op.toNat := by unfold u64; omega
  have e2 : encB r = r.op.toNat :: byE (entR r).tail := by
    rw [e]
    conv => lhs; rw [entR_cons]
    rw [byE_cons, hu]
    dsimp only
    rw [bes_one (by omega)]
    rfl
  have e3 : rDec (encB r) = (none, r) := by
    rw [e2, rDec_ok _ _ (by omega)]
    have hc : ((r.op.toNat : Nat) : Int) = r.op := by omega
    rw [hc, ← rows_ent r ho]
    have ht := takF_bes (entR r).tail [] (fun f hf2 => hf f (by rw [entR_cons]; exact List.mem_cons_of_mem _ hf2))
    rw [List.append_nil] at ht
    rw [ht]
    dsimp only
    rw [if_neg (by simp), rows_back r hr ho hl]
  rw [← dec_same _ hB] at e3
  unfold dec at e3
  rcases hd : decF (encB r) with _ | y
  · rw [hd] at e3
    simp only [Prod.mk.injEq, true_and] at e3
    exact ⟨hB, rfl, e3⟩
  · rw [hd] at e3
    simp at e3
theorem enc_of {d : Rq} {o : List Nat} (h : enc d = (none, o)) : encF d = none ∧ encB d = o := by
  unfold enc at h
  rcases he : encF d with _ | y
  · rw [he] at h
    simp only [Prod.mk.injEq, true_and] at h
    exact ⟨rfl, h⟩
  · rw [he] at h
    simp at h
theorem put_back (d : Rq) (hd : d.Ok) (ho : ¬ (d.op < 0 ∨ 7 ≤ d.op)) (hl : leftR d = false) (es : List En) (he : entR d = es) (hf : ∀ f ∈ es, fit f) : encF d = none ∧ encB d = byE es := by
  apply enc_of
  rw [enc_eq d hd ho, he, putF_ok es [] hf, hl]
  rfl
theorem len1 {α : Type} {l : List α} (h : l.length = 1) : ∃ a, l = [a] := by
  match l, h with
  | [a], _ => exact ⟨a, rfl⟩
theorem len3 {α : Type} {l : List α} (h : l.length = 3) : ∃ a b c, l = [a, b, c] := by
  match l, h with
  | [a, b, c], _ => exact ⟨a, b, c, rfl⟩
theorem len5 {α : Type} {l : List α} (h : l.length = 5) : ∃ a b c d e, l = [a, b, c, d, e] := by
  match l, h with
  | [a, b, c, d, e], _ => exact ⟨a, b, c, d, e, rfl⟩
theorem no_n {n : Nat} (h : n ≤ 6) : ¬ ((n : Int) < 0 ∨ 7 ≤ (n : Int)) := by omega
theorem I64_n {n : Nat} (h : n ≤ 6) : I64 (n : Int) := by unfold I64; omega
theorem fit_u {f : En} (h : fit f) (h8 : f.2.1 ≤ 8) : f.2.2 < 18446744073709551616 := by
  have := fit_lt h
  have h2 : 2 ^ (8 * f.2.1) ≤ 2 ^ (8 * 8) := Nat.pow_le_pow_right (by decide) (by omega)
  have h3 : (2 : Nat) ^ (8 * 8) = 18446744073709551616 := by decide
  omega
theorem dec_enc (l : List Nat) (hB : Byt l) (h : decF l = none) : (decS l).2.2.Ok ∧ encF (decS l).2.2 = none ∧ encB (decS l).2.2 = l := by
  have e : rDec l = (none, (decS l).2.2) := by
    rw [← dec_same l hB]
    unfold dec
    rw [h]
  generalize (decS l).2.2 = d at e ⊢
  match l, hB, e with
  | [], _, e => simp [rDec, asked, refG] at e
  | n :: l1, hB, e =>
    have hn : n < 256 := hB n List.mem_cons_self
    by_cases h6 : n ≤ 6
    · rw [rDec_ok n l1 h6] at e
      rcases ht : takF (rows (rowsO n)) l1 with ⟨x, l', ns⟩
      rw [ht] at e
      rcases x with _ | y
      · dsimp only at e
        by_cases hl' : 0 < l'.length
        · rw [if_pos hl'] at e
          simp at e
        · rw [if_neg hl'] at e
          simp only [Prod.mk.injEq, true_and] at e
          obtain ⟨h1, h2⟩ := takF_inv _ _ _ _ (fun x hx => hB x (List.mem_cons_of_mem _ hx)) ht
          have hl0 : l' = [] := List.length_eq_zero_iff.1 (by omega)
          rw [hl0, List.append_nil] at h1
          have hlen := takF_len _ _ _ _ ht
          have hb1 : bes n 1 1 = [n] := bes_one hn
          have hun : u64 (n : Int) = n := by unfold u64; omega
          have hfo : fit (sOp, 1, n) := by
            unfold fit
            exact Nat.div_eq_of_lt hn
          have fin2 : ∀ (es : List En), d.Ok → ¬ (d.op < 0 ∨ 7 ≤ d.op) → leftR d = false → entR d = (sOp, 1, n) :: es → es = zipE (rows (rowsO n)) ns → d.Ok ∧ encF d = none ∧ encB d = n :: l1 := by
            intro es hd ho hl he hz
            obtain ⟨h3, h4⟩ := put_back d hd ho hl _ he (by
              intro f hf
              rcases List.mem_cons.1 hf with rfl | hf
              · exact hfo
              · rw [hz] at hf; exact h2 f hf)
            refine ⟨hd, h3, ?_⟩
            rw [h4, byE_cons]
            dsimp only
            rw [hb1, hz, ← h1]
            rfl
          have hcs : n = 0 ∨ n = 1 ∨ n = 2 ∨ n = 3 ∨ n = 4 ∨ n = 5 ∨ n = 6 := by omega
          rcases hcs with h0 | h0 | h0 | h0 | h0 | h0 | h0 <;> subst h0
          · have : ns = [] := List.length_eq_zero_iff.1 hlen
            subst this
            subst e
            exact fin2 [] ⟨I64_0, by decide, I64_0, I64_0, I64_0, I64_0, I64_0, I64_0⟩ (no_n (n := 0) (by omega)) rfl rfl rfl
          · obtain ⟨a, rfl⟩ := len1 hlen
            subst e
            have ha := fit_u (h2 (sToken, 8, a) (List.mem_cons_self)) (by dsimp only; omega)
            exact fin2 [(sToken, 8, a)] ⟨I64_1, ha, I64_0, I64_0, I64_0, I64_0, I64_0, I64_0⟩ (no_n (n := 1) (by omega)) rfl rfl rfl
          · obtain ⟨a, b, c, rfl⟩ := len3 hlen
            subst e
            have ha := fit_u (h2 (sToken, 8, a) (List.mem_cons_self)) (by dsimp only; omega)
            have hb := fit_u (h2 (sUnit, 1, b) (List.mem_cons_of_mem _ List.mem_cons_self)) (by dsimp only; omega)
            have hc := fit_u (h2 (sDir, 1, c) (List.mem_cons_of_mem _ (List.mem_cons_of_mem _ List.mem_cons_self))) (by dsimp only; omega)
            refine fin2 [(sToken, 8, a), (sUnit, 1, b), (sDir, 1, c)] ⟨I64_2, ha, i64_I b, i64_I c, I64_0, I64_0, I64_0, I64_0⟩ (no_n (n := 2) (by omega)) rfl ?_ rfl
            show [(sOp, 1, u64 2), (sToken, 8, a), (sUnit, 1, u64 (i64 b)), (sDir, 1, u64 (i64 c))] = _
            rw [u64_i64 hb, u64_i64 hc]
            rfl
          · obtain ⟨a, rfl⟩ := len1 hlen
            subst e
            have ha := fit_u (h2 (sToken, 8, a) (List.mem_cons_self)) (by dsimp only; omega)
            exact fin2 [(sToken, 8, a)] ⟨I64_n (n := 3) (by omega), ha, I64_0, I64_0, I64_0, I64_0, I64_0, I64_0⟩ (no_n (n := 3) (by omega)) rfl rfl rfl
          · obtain ⟨a, b, c, d, f, rfl⟩ := len5 hlen
            subst e
            have ha := fit_u (h2 (sToken, 8, a) (List.mem_cons_self)) (by dsimp only; omega)
            have hb := fit_u (h2 (sFrom, 2, b) (List.mem_cons_of_mem _ List.mem_cons_self)) (by dsimp only; omega)
            have hc := fit_u (h2 (sFrom, 2, c) (List.mem_cons_of_mem _ (List.mem_cons_of_mem _ List.mem_cons_self))) (by dsimp only; omega)
            have hd := fit_u (h2 (sTo, 2, d) (List.mem_cons_of_mem _ (List.mem_cons_of_mem _ (List.mem_cons_of_mem _ List.mem_cons_self)))) (by dsimp only; omega)
            have hf := fit_u (h2 (sTo, 2, f) (List.mem_cons_of_mem _ (List.mem_cons_of_mem _ (List.mem_cons_of_mem _ (List.mem_cons_of_mem _ List.mem_cons_self))))) (by dsimp only; omega)
            refine fin2 [(sToken, 8, a), (sFrom, 2, b), (sFrom, 2, c), (sTo, 2, d), (sTo, 2, f)] ⟨I64_n (n := 4) (by omega), ha, I64_0, I64_0, i64_I b, i64_I c, i64_I d, i64_I f⟩ (no_n (n := 4) (by omega)) rfl ?_ rfl
            show [(sOp, 1, u64 4), (sToken, 8, a), (sFrom, 2, u64 (i64 b)), (sFrom, 2, u64 (i64 c)), (sTo, 2, u64 (i64 d)), (sTo, 2, u64 (i64 f))] = _
            rw [u64_i64 hb, u64_i64 hc, u64_i64 hd, u64_i64 hf]
            rfl
          · obtain ⟨a, b, c, d, f, rfl⟩ := len5 hlen
            subst e
            have ha := fit_u (h2 (sToken, 8, a) (List.mem_cons_self)) (by dsimp only; omega)
            have hb := fit_u (h2 (sFrom, 2, b) (List.mem_cons_of_mem _ List.mem_cons_self)) (by dsimp only; omega)
            have hc := fit_u (h2 (sFrom, 2, c) (List.mem_cons_of_mem _ (List.mem_cons_of_mem _ List.mem_cons_self))) (by dsimp only; omega)
            have hd := fit_u (h2 (sTo, 2, d) (List.mem_cons_of_mem _ (List.mem_cons_of_mem _ (List.mem_cons_of_mem _ List.mem_cons_self)))) (by dsimp only; omega)
            have hf := fit_u (h2 (sTo, 2, f) (List.mem_cons_of_mem _ (List.mem_cons_of_mem _ (List.mem_cons_of_mem _ (List.mem_cons_of_mem _ List.mem_cons_self))))) (by dsimp only; omega)
            refine fin2 [(sToken, 8, a), (sFrom, 2, b), (sFrom, 2, c), (sTo, 2, d), (sTo, 2, f)] ⟨I64_n (n := 5) (by omega), ha, I64_0, I64_0, i64_I b, i64_I c, i64_I d, i64_I f⟩ (no_n (n := 5) (by omega)) rfl ?_ rfl
            show [(sOp, 1, u64 5), (sToken, 8, a), (sFrom, 2, u64 (i64 b)), (sFrom, 2, u64 (i64 c)), (sTo, 2, u64 (i64 d)), (sTo, 2, u64 (i64 f))] = _
            rw [u64_i64 hb, u64_i64 hc, u64_i64 hd, u64_i64 hf]
            rfl
          · obtain ⟨a, rfl⟩ := len1 hlen
            subst e
            have ha := fit_u (h2 (sToken, 8, a) (List.mem_cons_self)) (by dsimp only; omega)
            exact fin2 [(sToken, 8, a)] ⟨I64_n (n := 6) (by omega), ha, I64_0, I64_0, I64_0, I64_0, I64_0, I64_0⟩ (no_n (n := 6) (by omega)) rfl rfl rfl
      · simp at e
    · rw [rDec_cons n l1 hn, if_pos (by omega)] at e
      simp at e
end Go.Proofs.YtnaclkdjchnbpaaDoor
end
section
namespace Go.Proofs.YtnaclkdjchnbpaaDoor
open Go Go.K

theorem bes_split {l : List Nat} {s : Nat} (h : s ≤ l.length) (hB : Byt l) : l = bes (num (l.take s)) s s ++ l.drop s := by
  rw [bes_num (by rw [List.length_take]; exact Nat.min_eq_left h) (hB.take _), List.take_append_drop]
theorem num_fit {l : List Nat} {s : Nat} (h : s ≤ l.length) (hB : Byt l) : num (l.take s) < 2 ^ (8 * s) := by
  have := num_lt s (l.take s) (by rw [List.length_take]; exact Nat.min_eq_left h) (hB.take _)
  rwa [show (256 : Nat) = 2 ^ 8 by decide, ← Nat.pow_mul] at this
theorem num_take_bes {n s : Nat} (h : n < 2 ^ (8 * s)) (l : List Nat) : num ((bes n s s ++ l).take s) = n := by
  rw [List.take_left' (bes_len _ _ _), num_bes' h]
theorem drop_bes (n s : Nat) (l : List Nat) : (bes n s s ++ l).drop s = l := List.drop_left' (bes_len _ _ _)
theorem one_inv (w : RowT) (ws : List RowT) (l : List Nat) (r : Rs) (ms : List Nat) (q : Rs) (ns : List Nat) (hB : Byt l) (hm : w.many = 1) (hh : w.name ≠ sHit) (hv : w.name ≠ sMoves) (h : refPG (fun _ => true) (w :: ws) l r ms = (none, q, ns)) :
    ∃ n l', l = bes n w.size w.size ++ l' ∧ n < 2 ^ (8 * w.size) ∧ Byt l' ∧ refPG (fun _ => true) ws l' (setS r w.name [n]) ms = (none, q, ns) := by
  rw [refPG, if_pos rfl, hm, Nat.mul_one] at h
  by_cases hl : l.length < w.size
  · rw [if_pos hl] at h; simp at h
  · rw [if_neg hl, if_neg (fun x => hh x.1), if_neg hv, rdN_1] at h
    exact ⟨_, _, bes_split (by omega) hB, num_fit (by omega) hB, hB.drop _, h⟩
theorem two_inv (w : RowT) (ws : List RowT) (l : List Nat) (r : Rs) (ms : List Nat) (q : Rs) (ns : List Nat) (hB : Byt l) (hm : w.many = 2) (hh : w.name ≠ sHit) (hv : w.name ≠ sMoves) (h : refPG (fun _ => true) (w :: ws) l r ms = (none, q, ns)) :
    ∃ n m l', l = bes n w.size w.size ++ (bes m w.size w.size ++ l') ∧ n < 2 ^ (8 * w.size) ∧ m < 2 ^ (8 * w.size) ∧ Byt l' ∧ refPG (fun _ => true) ws l' (setS r w.name [n, m]) ms = (none, q, ns) := by
  rw [refPG, if_pos rfl, hm] at h
  by_cases hl : l.length < w.size * 2
  · rw [if_pos hl] at h; simp at h
  · rw [if_neg hl, if_neg (fun x => hh x.1), if_neg hv, rdN_2] at h
    have h2 : w.size ≤ (l.drop w.size).length := by rw [List.length_drop]; omega
    refine ⟨_, _, (l.drop w.size).drop w.size, ?_, num_fit (by omega) hB, num_fit h2 (hB.drop _), (hB.drop _).drop _, ?_⟩
    · rw [← bes_split h2 (hB.drop _)]
      exact bes_split (by omega) hB
    · rw [List.drop_drop, show w.size + w.size = w.size * 2 from by omega]
      exact h
theorem hit_inv (ops : List Nat) (ws : List RowT) (l : List Nat) (r : Rs) (ms : List Nat) (q : Rs) (ns : List Nat) (hB : Byt l) (h : refPG (fun _ => true) (⟨sHit, 1, 1, ops⟩ :: ws) l r ms = (none, q, ns)) :
    ∃ n l', l = bes n 1 1 ++ l' ∧ n ≤ 1 ∧ Byt l' ∧ refPG (fun _ => true) ws l' (setS r sHit [n]) ms = (none, q, ns) := by
  rw [refPG, if_pos rfl] at h
  dsimp only at h
  rw [Nat.mul_one] at h
  by_cases hl : l.length < 1
  · rw [if_pos hl] at h; simp at h
  · rw [if_neg hl, rdN_1] at h
    have hg : ([num (l.take 1)] : List Nat).getD 0 0 = num (l.take 1) := rfl
    rw [hg] at h
    by_cases h2 : 1 < num (l.take 1)
    · rw [if_pos ⟨rfl, h2⟩] at h; simp at h
    · rw [if_neg (fun x => h2 x.2), if_neg (by decide)] at h
      exact ⟨_, _, bes_split (by omega) hB, by omega, hB.drop _, h⟩
theorem mov_inv (ops : List Nat) (l : List Nat) (r : Rs) (q : Rs) (ns : List Nat) (hB : Byt l) (h : refPG (fun _ => true) [⟨sMoves, 4, 1, ops⟩] l r [] = (none, q, ns)) :
    l = bes ns.length 4 4 ++ ns ∧ ns.length ≤ 65535 ∧ ns.all (fun m => decide (m ≤ 3)) = true ∧ q = r := by
  rw [refPG, if_pos rfl] at h
  dsimp only at h
  rw [Nat.mul_one] at h
  by_cases hl : l.length < 4
  · rw [if_pos hl] at h; simp at h
  rw [if_neg hl, if_neg (fun x => absurd x.1 (by decide)), if_pos rfl, rdN_1] at h
  have hg : ([num (l.take 4)] : List Nat).getD 0 0 = num (l.take 4) := rfl
  rw [hg, setS_sMoves] at h
  have hs := bes_split (s := 4) (by omega) hB
  obtain ⟨n, hn⟩ : ∃ n, n = num (l.take 4) := ⟨_, rfl⟩
  rw [← hn] at h hs
  obtain ⟨m, hm⟩ : ∃ m, m = l.drop 4 := ⟨_, rfl⟩
  rw [← hm] at h hs
  by_cases h1 : 65535 < n
  · rw [if_pos h1] at h; simp at h
  rw [if_neg h1] at h
  by_cases h2 : m.length < n
  · rw [if_pos h2] at h; simp at h
  rw [if_neg h2] at h
  by_cases h3 : (m.take n).all (fun m => decide (m ≤ 3)) = true
  · rw [if_pos h3, List.nil_append, refPG] at h
    by_cases h4 : 0 < (m.drop n).length
    · rw [if_pos h4] at h; simp at h
    · rw [if_neg h4] at h
      simp only [Prod.mk.injEq, true_and] at h
      obtain ⟨rfl, rfl⟩ := h
      rw [List.length_drop] at h4
      have hlen : m.length = n := by omega
      subst hlen
      rw [List.take_length] at h3 ⊢
      exact ⟨hs, by omega, h3, rfl⟩
  · rw [if_neg h3] at h; simp at h
theorem nil_inv (l : List Nat) (r : Rs) (ms : List Nat) (q : Rs) (ns : List Nat) (h : refPG (fun _ => true) [] l r ms = (none, q, ns)) : l = [] ∧ q = r ∧ ns = ms := by
  rw [refPG] at h
  by_cases h4 : 0 < l.length
  · rw [if_pos h4] at h; simp at h
  · rw [if_neg h4] at h
    simp only [Prod.mk.injEq, true_and] at h
    exact ⟨List.length_eq_zero_iff.1 (by omega), h.1.symm, h.2.symm⟩
theorem par_one (w : RowT) (ws : List RowT) (l : List Nat) (r : Rs) (ms : List Nat) (n : Nat) (hm : w.many = 1) (hh : w.name ≠ sHit) (hv : w.name ≠ sMoves) (hn : n < 2 ^ (8 * w.size)) :
    refPG (fun _ => true) (w :: ws) (bes n w.size w.size ++ l) r ms = refPG (fun _ => true) ws l (setS r w.name [n]) ms := by
  rw [refPG, if_pos rfl, hm, Nat.mul_one, if_neg (by rw [List.length_append, bes_len]; omega), if_neg (fun x => hh x.1), if_neg hv, rdN_1, num_take_bes hn, drop_bes]
theorem par_two (w : RowT) (ws : List RowT) (l : List Nat) (r : Rs) (ms : List Nat) (n m : Nat) (hw : w.many = 2) (hh : w.name ≠ sHit) (hv : w.name ≠ sMoves) (hn : n < 2 ^ (8 * w.size)) (hm : m < 2 ^ (8 * w.size)) :
    refPG (fun _ => true) (w :: ws) (bes n w.size w.size ++ (bes m w.size w.size ++ l)) r ms = refPG (fun _ => true) ws l (setS r w.name [n, m]) ms := by
  rw [refPG, if_pos rfl, hw, if_neg (by rw [List.length_append, List.length_append, bes_len, bes_len]; omega), if_neg (fun x => hh x.1), if_neg hv, rdN_2, num_take_bes hn, drop_bes, num_take_bes hm, show w.size * 2 = w.size + w.size from by omega, ← List.drop_drop, drop_bes, drop_bes]
theorem par_hit (ops : List Nat) (ws : List RowT) (l : List Nat) (r : Rs) (ms : List Nat) (n : Nat) (hn : n ≤ 1) :
    refPG (fun _ => true) (⟨sHit, 1, 1, ops⟩ :: ws) (bes n 1 1 ++ l) r ms = refPG (fun _ => true) ws l (setS r sHit [n]) ms := by
  have h2 : n < 2 ^ (8 * 1) := by omega
  rw [refPG, if_pos rfl]
  dsimp only
  rw [Nat.mul_one, if_neg (by rw [List.length_append, bes_len]; omega), rdN_1, num_take_bes h2, drop_bes]
  have hg : ([n] : List Nat).getD 0 0 = n := rfl
  rw [hg, if_neg (fun x => absurd x.2 (by omega)), if_neg (by decide)]
theorem par_mov (ops : List Nat) (r : Rs) (ms : List Nat) (hn : ms.length ≤ 65535) (h3 : ms.all (fun m => decide (m ≤ 3)) = true) :
    refPG (fun _ => true) [⟨sMoves, 4, 1, ops⟩] (bes ms.length 4 4 ++ ms) r [] = (none, r, ms) := by
  have h2 : ms.length < 2 ^ (8 * 4) := by
    have : (2 : Nat) ^ (8 * 4) = 4294967296 := by decide
    omega
  rw [refPG, if_pos rfl]
  dsimp only
  rw [Nat.mul_one, if_neg (by rw [List.length_append, bes_len]; omega), rdN_1, num_take_bes h2, drop_bes]
  have hg : ([ms.length] : List Nat).getD 0 0 = ms.length := rfl
  rw [hg, if_neg (fun x => absurd x.1 (by decide)), if_pos rfl, if_neg (by omega), if_neg (by omega), List.take_length, if_pos h3, setS_sMoves, List.drop_length, refPG, if_neg (by simp), List.nil_append]
theorem fit_div {n s : Nat} (h : n < 2 ^ (8 * s)) : n / 2 ^ (8 * s) = 0 := Nat.div_eq_of_lt h
theorem div_fit {n s : Nat} (h : n / 2 ^ (8 * s) = 0) : n < 2 ^ (8 * s) := by
  have hp : 0 < 2 ^ (8 * s) := Nat.pow_pos (by decide)
  exact (Nat.div_eq_zero_iff.1 h).resolve_left (by omega)
theorem wri_one (nums : RowT → List Nat) (ms : List Nat) (w : RowT) (ws : List RowT) (out : List Nat) {n : Nat} (hn : nums w = [n]) (hf : n < 2 ^ (8 * w.size)) (hv : w.name ≠ sMoves) : refW (fun _ => true) nums ms (w :: ws) out = refW (fun _ => true) nums ms ws (out ++ bes n w.size w.size) := by
  rw [refW, if_pos rfl, if_neg (fun e => hv e.1), hn]
  unfold layL
  rw [if_pos (fit_div hf)]
  dsimp only [layL]
  rw [if_neg hv]
theorem wri_two (nums : RowT → List Nat) (ms : List Nat) (w : RowT) (ws : List RowT) (out : List Nat) {n m : Nat} (hn : nums w = [n, m]) (hf : n < 2 ^ (8 * w.size)) (hg : m < 2 ^ (8 * w.size)) (hv : w.name ≠ sMoves) : refW (fun _ => true) nums ms (w :: ws) out = refW (fun _ => true) nums ms ws (out ++ bes n w.size w.size ++ bes m w.size w.size) := by
  rw [refW, if_pos rfl, if_neg (fun e => hv e.1), hn]
  unfold layL
  rw [if_pos (fit_div hf)]
  unfold layL
  rw [if_pos (fit_div hg)]
  dsimp only [layL]
  rw [if_neg hv]
theorem wri_mov (nums : RowT → List Nat) (ms : List Nat) (ops out : List Nat) (hn : nums ⟨sMoves, 4, 1, ops⟩ = [ms.length]) (h6 : ms.length ≤ 65535) (h3 : ms.all (fun m => decide (m ≤ 3)) = true) : refW (fun _ => true) nums ms [⟨sMoves, 4, 1, ops⟩] out = (none, out ++ bes ms.length 4 4 ++ ms) := by
  have h2 : ms.length < 2 ^ (8 * 4) := by
    have : (2 : Nat) ^ (8 * 4) = 4294967296 := by decide
    omega
  rw [refW, if_pos rfl, hn]
  dsimp only
  rw [if_neg (fun e => absurd e.2 (by omega))]
  unfold layL
  rw [if_pos (fit_div h2)]
  dsimp only [layL]
  rw [if_pos rfl, if_pos h3]
  rfl
theorem wri_one_inv {nums : RowT → List Nat} {ms : List Nat} {w : RowT} {ws : List RowT} {out o : List Nat} {n : Nat} (hn : nums w = [n]) (hv : w.name ≠ sMoves) (h : refW (fun _ => true) nums ms (w :: ws) out = (none, o)) : n < 2 ^ (8 * w.size) ∧ refW (fun _ => true) nums ms ws (out ++ bes n w.size w.size) = (none, o) := by
  have h' := h
  rw [refW, if_pos rfl, if_neg (fun e => hv e.1), hn] at h
  unfold layL at h
  by_cases hf : n / 2 ^ (8 * w.size) = 0
  · refine ⟨div_fit hf, ?_⟩
    rw [wri_one _ _ _ _ _ hn (div_fit hf) hv] at h'
    exact h'
  · rw [if_neg hf] at h; simp at h
theorem wri_two_inv {nums : RowT → List Nat} {ms : List Nat} {w : RowT} {ws : List RowT} {out o : List Nat} {n m : Nat} (hn : nums w = [n, m]) (hv : w.name ≠ sMoves) (h : refW (fun _ => true) nums ms (w :: ws) out = (none, o)) : n < 2 ^ (8 * w.size) ∧ m < 2 ^ (8 * w.size) ∧ refW (fun _ => true) nums ms ws (out ++ bes n w.size w.size ++ bes m w.size w.size) = (none, o) := by
  have h' := h
  rw [refW, if_pos rfl, if_neg (fun e => hv e.1), hn] at h
  unfold layL at h
  by_cases hf : n / 2 ^ (8 * w.size) = 0
  · rw [if_pos hf] at h
    unfold layL at h
    by_cases hg : m / 2 ^ (8 * w.size) = 0
    · refine ⟨div_fit hf, div_fit hg, ?_⟩
      rw [wri_two _ _ _ _ _ hn (div_fit hf) (div_fit hg) hv] at h'
      exact h'
    · rw [if_neg hg] at h; simp at h
  · rw [if_neg hf] at h; simp at h
theorem wri_mov_inv {nums : RowT → List Nat} {ms : List Nat} {ops out o : List Nat} (hn : nums ⟨sMoves, 4, 1, ops⟩ = [ms.length]) (h : refW (fun _ => true) nums ms [⟨sMoves, 4, 1, ops⟩] out = (none, o)) : ms.length ≤ 65535 ∧ ms.all (fun m => decide (m ≤ 3)) = true ∧ o = out ++ bes ms.length 4 4 ++ ms := by
  have h' := h
  rw [refW, if_pos rfl, hn] at h
  dsimp only at h
  by_cases h6 : 65535 < ms.length
  · rw [if_pos ⟨rfl, h6⟩] at h; simp at h
  rw [if_neg (fun e => h6 e.2)] at h
  have h2 : ms.length < 2 ^ (8 * 4) := by
    have : (2 : Nat) ^ (8 * 4) = 4294967296 := by decide
    omega
  unfold layL at h
  rw [if_pos (fit_div h2)] at h
  dsimp only [layL] at h
  rw [if_pos rfl] at h
  by_cases h3 : ms.all (fun m => decide (m ≤ 3)) = true
  · refine ⟨by omega, h3, ?_⟩
    rw [wri_mov _ _ _ _ hn (by omega) h3] at h'
    simp only [Prod.mk.injEq, true_and] at h'
    exact h'.symm
  · rw [if_neg h3] at h; simp at h
theorem iI_u64 {x : Int} (h : I64 x) : iI (u64 x) = x := by
  unfold I64 at h
  unfold iI u64
  rw [IntKind.wrap_i64]
  omega
theorem u64_iI {x : Nat} (h : x < 18446744073709551616) : u64 (iI x) = x := u64_i64 h
theorem iI_I (x : Nat) : I64 (iI x) := i64_I x
theorem lt64 {x s : Nat} (h : x < 2 ^ (8 * s)) (hs : s ≤ 8) : x < 18446744073709551616 := by
  have h2 : 2 ^ (8 * s) ≤ 2 ^ (8 * 8) := Nat.pow_le_pow_right (by decide) (by omega)
  have h3 : (2 : Nat) ^ (8 * 8) = 18446744073709551616 := by decide
  omega
theorem bit_le (b : Bool) : bit b ≤ 1 := by cases b <;> decide
theorem bit_dec (b : Bool) : decide (bit b = 1) = b := by cases b <;> rfl
theorem dec_bit {n : Nat} (h : n ≤ 1) : bit (decide (n = 1)) = n := by
  have : n = 0 ∨ n = 1 := by omega
  rcases this with rfl | rfl <;> rfl
theorem I64_s {n : Nat} (h : n < 256) : I64 (n : Int) := by unfold I64; omega
theorem I64_z : I64 0 := by unfold I64; omega
set_option maxHeartbeats 2000000 in
theorem wp0 (st : Int) (r : Rs) (hr : r.Ok) (ms out o : List Nat) (h : refW (fun _ => true) (numsT r ms) ms [⟨sToken, 8, 1, [48]⟩] out = (none, o)) : ∃ B, o = out ++ B ∧ refPG (fun _ => true) [⟨sToken, 8, 1, [48]⟩] B (Rs.head st 0) [] = (none, { Rs.head st 0 with tok := r.tok }, []) := by
  obtain ⟨g0, h⟩ := wri_one_inv (w := ⟨sToken, 8, 1, [48]⟩) (ns_tok _ _) (by decide) h
  rw [refW] at h
  simp only [Prod.mk.injEq, true_and] at h
  refine ⟨bes (r.tok) 8 8 ++ ([]), by rw [← h]; simp only [List.append_assoc, List.append_nil], ?_⟩
  rw [par_one ⟨sToken, 8, 1, [48]⟩ _ _ _ _ _ rfl (by decide) (by decide) g0, setS_sToken]
  rfl
set_option maxHeartbeats 2000000 in
theorem wp1 (st : Int) (r : Rs) (hr : r.Ok) (ms out o : List Nat) (h : refW (fun _ => true) (numsT r ms) ms [] out = (none, o)) : ∃ B, o = out ++ B ∧ refPG (fun _ => true) [] B (Rs.head st 1) [] = (none, Rs.head st 1, []) := by
  rw [refW] at h
  simp only [Prod.mk.injEq, true_and] at h
  refine ⟨[], by rw [← h]; simp only [List.append_assoc, List.append_nil], ?_⟩
  rfl
set_option maxHeartbeats 2000000 in
theorem wp2 (st : Int) (r : Rs) (hr : r.Ok) (ms out o : List Nat) (h : refW (fun _ => true) (numsT r ms) ms [⟨sUnit, 1, 1, [50]⟩, ⟨sAt, 2, 2, [50]⟩, ⟨sNew, 4, 1, [50, 51]⟩, ⟨sVer, 4, 1, [50, 51, 54]⟩] out = (none, o)) : ∃ B, o = out ++ B ∧ refPG (fun _ => true) [⟨sUnit, 1, 1, [50]⟩, ⟨sAt, 2, 2, [50]⟩, ⟨sNew, 4, 1, [50, 51]⟩, ⟨sVer, 4, 1, [50, 51, 54]⟩] B (Rs.head st 2) [] = (none, { Rs.head st 2 with unit := r.unit, ax := r.ax, ay := r.ay, new := r.new, ver := r.ver }, []) := by
  obtain ⟨g0, h⟩ := wri_one_inv (w := ⟨sUnit, 1, 1, [50]⟩) (ns_1 _ _) (by decide) h
  obtain ⟨g1, k1, h⟩ := wri_two_inv (w := ⟨sAt, 2, 2, [50]⟩) (ns_2 _ _) (by decide) h
  obtain ⟨g2, h⟩ := wri_one_inv (w := ⟨sNew, 4, 1, [50, 51]⟩) (ns_3 _ _) (by decide) h
  obtain ⟨g3, h⟩ := wri_one_inv (w := ⟨sVer, 4, 1, [50, 51, 54]⟩) (ns_5 _ _) (by decide) h
  rw [refW] at h
  simp only [Prod.mk.injEq, true_and] at h
  refine ⟨bes (u64 r.unit) 1 1 ++ (bes (u64 r.ax) 2 2 ++ (bes (u64 r.ay) 2 2 ++ (bes (u64 r.new) 4 4 ++ (bes (u64 r.ver) 4 4 ++ ([]))))), by rw [← h]; simp only [List.append_assoc, List.append_nil], ?_⟩
  rw [par_one ⟨sUnit, 1, 1, [50]⟩ _ _ _ _ _ rfl (by decide) (by decide) g0, setS_sUnit, iI_u64 hr.unit]
  rw [par_two ⟨sAt, 2, 2, [50]⟩ _ _ _ _ _ _ rfl (by decide) (by decide) g1 k1, setS_sAt, iI_u64 hr.ax, iI_u64 hr.ay]
  rw [par_one ⟨sNew, 4, 1, [50, 51]⟩ _ _ _ _ _ rfl (by decide) (by decide) g2, setS_sNew, iI_u64 hr.new]
  rw [par_one ⟨sVer, 4, 1, [50, 51, 54]⟩ _ _ _ _ _ rfl (by decide) (by decide) g3, setS_sVer, iI_u64 hr.ver]
  rfl
set_option maxHeartbeats 2000000 in
theorem wp3 (st : Int) (r : Rs) (hr : r.Ok) (ms out o : List Nat) (h : refW (fun _ => true) (numsT r ms) ms [⟨sNew, 4, 1, [50, 51]⟩, ⟨sExpl, 4, 1, [51, 54]⟩, ⟨sVer, 4, 1, [50, 51, 54]⟩] out = (none, o)) : ∃ B, o = out ++ B ∧ refPG (fun _ => true) [⟨sNew, 4, 1, [50, 51]⟩, ⟨sExpl, 4, 1, [51, 54]⟩, ⟨sVer, 4, 1, [50, 51, 54]⟩] B (Rs.head st 3) [] = (none, { Rs.head st 3 with new := r.new, expl := r.expl, ver := r.ver }, []) := by
  obtain ⟨g0, h⟩ := wri_one_inv (w := ⟨sNew, 4, 1, [50, 51]⟩) (ns_3 _ _) (by decide) h
  obtain ⟨g1, h⟩ := wri_one_inv (w := ⟨sExpl, 4, 1, [51, 54]⟩) (ns_4 _ _) (by decide) h
  obtain ⟨g2, h⟩ := wri_one_inv (w := ⟨sVer, 4, 1, [50, 51, 54]⟩) (ns_5 _ _) (by decide) h
  rw [refW] at h
  simp only [Prod.mk.injEq, true_and] at h
  refine ⟨bes (u64 r.new) 4 4 ++ (bes (u64 r.expl) 4 4 ++ (bes (u64 r.ver) 4 4 ++ ([]))), by rw [← h]; simp only [List.append_assoc, List.append_nil], ?_⟩
  rw [par_one ⟨sNew, 4, 1, [50, 51]⟩ _ _ _ _ _ rfl (by decide) (by decide) g0, setS_sNew, iI_u64 hr.new]
  rw [par_one ⟨sExpl, 4, 1, [51, 54]⟩ _ _ _ _ _ rfl (by decide) (by decide) g1, setS_sExpl, iI_u64 hr.expl]
  rw [par_one ⟨sVer, 4, 1, [50, 51, 54]⟩ _ _ _ _ _ rfl (by decide) (by decide) g2, setS_sVer, iI_u64 hr.ver]
  rfl
set_option maxHeartbeats 2000000 in
theorem wp4 (st : Int) (r : Rs) (hr : r.Ok) (ms out o : List Nat) (h : refW (fun _ => true) (numsT r ms) ms [⟨sHit, 1, 1, [52, 53]⟩, ⟨sCost, 8, 1, [52, 53]⟩, ⟨sSettled, 4, 1, [52, 53]⟩, ⟨sLeft, 4, 1, [52, 53, 54]⟩, ⟨sMoves, 4, 1, [52, 53]⟩] out = (none, o)) : ∃ B, o = out ++ B ∧ refPG (fun _ => true) [⟨sHit, 1, 1, [52, 53]⟩, ⟨sCost, 8, 1, [52, 53]⟩, ⟨sSettled, 4, 1, [52, 53]⟩, ⟨sLeft, 4, 1, [52, 53, 54]⟩, ⟨sMoves, 4, 1, [52, 53]⟩] B (Rs.head st 4) [] = (none, { Rs.head st 4 with hit := r.hit, cost := r.cost, settled := r.settled, left := r.left }, ms) := by
  obtain ⟨g0, h⟩ := wri_one_inv (w := ⟨sHit, 1, 1, [52, 53]⟩) (ns_6 _ _) (by decide) h
  obtain ⟨g1, h⟩ := wri_one_inv (w := ⟨sCost, 8, 1, [52, 53]⟩) (ns_7 _ _) (by decide) h
  obtain ⟨g2, h⟩ := wri_one_inv (w := ⟨sSettled, 4, 1, [52, 53]⟩) (ns_8 _ _) (by decide) h
  obtain ⟨g3, h⟩ := wri_one_inv (w := ⟨sLeft, 4, 1, [52, 53, 54]⟩) (ns_9 _ _) (by decide) h
  obtain ⟨h6, h3, he⟩ := wri_mov_inv (ns_10 _ _) h
  refine ⟨bes (bit r.hit) 1 1 ++ (bes (r.cost) 8 8 ++ (bes (u64 r.settled) 4 4 ++ (bes (u64 r.left) 4 4 ++ (bes (ms.length) 4 4 ++ (ms))))), by rw [he]; simp only [List.append_assoc], ?_⟩
  rw [par_hit _ _ _ _ _ _ (bit_le _), setS_sHit, bit_dec]
  rw [par_one ⟨sCost, 8, 1, [52, 53]⟩ _ _ _ _ _ rfl (by decide) (by decide) g1, setS_sCost]
  rw [par_one ⟨sSettled, 4, 1, [52, 53]⟩ _ _ _ _ _ rfl (by decide) (by decide) g2, setS_sSettled, iI_u64 hr.settled]
  rw [par_one ⟨sLeft, 4, 1, [52, 53, 54]⟩ _ _ _ _ _ rfl (by decide) (by decide) g3, setS_sLeft, iI_u64 hr.left]
  exact par_mov _ _ _ h6 h3
set_option maxHeartbeats 2000000 in
theorem wp5 (st : Int) (r : Rs) (hr : r.Ok) (ms out o : List Nat) (h : refW (fun _ => true) (numsT r ms) ms [⟨sHit, 1, 1, [52, 53]⟩, ⟨sCost, 8, 1, [52, 53]⟩, ⟨sSettled, 4, 1, [52, 53]⟩, ⟨sLeft, 4, 1, [52, 53, 54]⟩, ⟨sMoves, 4, 1, [52, 53]⟩] out = (none, o)) : ∃ B, o = out ++ B ∧ refPG (fun _ => true) [⟨sHit, 1, 1, [52, 53]⟩, ⟨sCost, 8, 1, [52, 53]⟩, ⟨sSettled, 4, 1, [52, 53]⟩, ⟨sLeft, 4, 1, [52, 53, 54]⟩, ⟨sMoves, 4, 1, [52, 53]⟩] B (Rs.head st 5) [] = (none, { Rs.head st 5 with hit := r.hit, cost := r.cost, settled := r.settled, left := r.left }, ms) := by
  obtain ⟨g0, h⟩ := wri_one_inv (w := ⟨sHit, 1, 1, [52, 53]⟩) (ns_6 _ _) (by decide) h
  obtain ⟨g1, h⟩ := wri_one_inv (w := ⟨sCost, 8, 1, [52, 53]⟩) (ns_7 _ _) (by decide) h
  obtain ⟨g2, h⟩ := wri_one_inv (w := ⟨sSettled, 4, 1, [52, 53]⟩) (ns_8 _ _) (by decide) h
  obtain ⟨g3, h⟩ := wri_one_inv (w := ⟨sLeft, 4, 1, [52, 53, 54]⟩) (ns_9 _ _) (by decide) h
  obtain ⟨h6, h3, he⟩ := wri_mov_inv (ns_10 _ _) h
  refine ⟨bes (bit r.hit) 1 1 ++ (bes (r.cost) 8 8 ++ (bes (u64 r.settled) 4 4 ++ (bes (u64 r.left) 4 4 ++ (bes (ms.length) 4 4 ++ (ms))))), by rw [he]; simp only [List.append_assoc], ?_⟩
  rw [par_hit _ _ _ _ _ _ (bit_le _), setS_sHit, bit_dec]
  rw [par_one ⟨sCost, 8, 1, [52, 53]⟩ _ _ _ _ _ rfl (by decide) (by decide) g1, setS_sCost]
  rw [par_one ⟨sSettled, 4, 1, [52, 53]⟩ _ _ _ _ _ rfl (by decide) (by decide) g2, setS_sSettled, iI_u64 hr.settled]
  rw [par_one ⟨sLeft, 4, 1, [52, 53, 54]⟩ _ _ _ _ _ rfl (by decide) (by decide) g3, setS_sLeft, iI_u64 hr.left]
  exact par_mov _ _ _ h6 h3
set_option maxHeartbeats 2000000 in
theorem wp6 (st : Int) (r : Rs) (hr : r.Ok) (ms out o : List Nat) (h : refW (fun _ => true) (numsT r ms) ms [⟨sExpl, 4, 1, [51, 54]⟩, ⟨sVer, 4, 1, [50, 51, 54]⟩, ⟨sLeft, 4, 1, [52, 53, 54]⟩, ⟨sUnits, 1, 1, [54]⟩, ⟨sCache, 1, 1, [54]⟩, ⟨sSess, 1, 1, [54]⟩] out = (none, o)) : ∃ B, o = out ++ B ∧ refPG (fun _ => true) [⟨sExpl, 4, 1, [51, 54]⟩, ⟨sVer, 4, 1, [50, 51, 54]⟩, ⟨sLeft, 4, 1, [52, 53, 54]⟩, ⟨sUnits, 1, 1, [54]⟩, ⟨sCache, 1, 1, [54]⟩, ⟨sSess, 1, 1, [54]⟩] B (Rs.head st 6) [] = (none, { Rs.head st 6 with expl := r.expl, ver := r.ver, left := r.left, units := r.units, cache := r.cache, sess := r.sess }, []) := by
  obtain ⟨g0, h⟩ := wri_one_inv (w := ⟨sExpl, 4, 1, [51, 54]⟩) (ns_4 _ _) (by decide) h
  obtain ⟨g1, h⟩ := wri_one_inv (w := ⟨sVer, 4, 1, [50, 51, 54]⟩) (ns_5 _ _) (by decide) h
  obtain ⟨g2, h⟩ := wri_one_inv (w := ⟨sLeft, 4, 1, [52, 53, 54]⟩) (ns_9 _ _) (by decide) h
  obtain ⟨g3, h⟩ := wri_one_inv (w := ⟨sUnits, 1, 1, [54]⟩) (ns_11 _ _) (by decide) h
  obtain ⟨g4, h⟩ := wri_one_inv (w := ⟨sCache, 1, 1, [54]⟩) (ns_12 _ _) (by decide) h
  obtain ⟨g5, h⟩ := wri_one_inv (w := ⟨sSess, 1, 1, [54]⟩) (ns_13 _ _) (by decide) h
  rw [refW] at h
  simp only [Prod.mk.injEq, true_and] at h
  refine ⟨bes (u64 r.expl) 4 4 ++ (bes (u64 r.ver) 4 4 ++ (bes (u64 r.left) 4 4 ++ (bes (u64 r.units) 1 1 ++ (bes (u64 r.cache) 1 1 ++ (bes (u64 r.sess) 1 1 ++ ([])))))), by rw [← h]; simp only [List.append_assoc, List.append_nil], ?_⟩
  rw [par_one ⟨sExpl, 4, 1, [51, 54]⟩ _ _ _ _ _ rfl (by decide) (by decide) g0, setS_sExpl, iI_u64 hr.expl]
  rw [par_one ⟨sVer, 4, 1, [50, 51, 54]⟩ _ _ _ _ _ rfl (by decide) (by decide) g1, setS_sVer, iI_u64 hr.ver]
  rw [par_one ⟨sLeft, 4, 1, [52, 53, 54]⟩ _ _ _ _ _ rfl (by decide) (by decide) g2, setS_sLeft, iI_u64 hr.left]
  rw [par_one ⟨sUnits, 1, 1, [54]⟩ _ _ _ _ _ rfl (by decide) (by decide) g3, setS_sUnits, iI_u64 hr.units]
  rw [par_one ⟨sCache, 1, 1, [54]⟩ _ _ _ _ _ rfl (by decide) (by decide) g4, setS_sCache, iI_u64 hr.cache]
  rw [par_one ⟨sSess, 1, 1, [54]⟩ _ _ _ _ _ rfl (by decide) (by decide) g5, setS_sSess, iI_u64 hr.sess]
  rfl
set_option maxHeartbeats 2000000 in
theorem pw0 (st : Nat) (hst : st < 256) (hb : bodyR st 0 = true) (l : List Nat) (hB : Byt l) (q : Rs) (ns out : List Nat) (h : refPG (fun _ => true) [⟨sToken, 8, 1, [48]⟩] l (Rs.head st 0) [] = (none, q, ns)) : q.Ok ∧ q.st = st ∧ q.op = 0 ∧ q.mv = .slice none 0 0 ∧ refW (fun _ => true) (numsT q ns) ns [⟨sToken, 8, 1, [48]⟩] out = (none, out ++ l) ∧ refE2 (hasS q) (numsT q ns) tolds = false := by
  obtain ⟨n0, l0, rfl, g0, hB0, h⟩ := one_inv ⟨sToken, 8, 1, [48]⟩ _ _ _ _ _ _ hB rfl (by decide) (by decide) h
  rw [setS_sToken] at h
  obtain ⟨rfl, rfl, rfl⟩ := nil_inv _ _ _ _ _ h
  refine ⟨⟨I64_s hst, by show I64 0; unfold I64; omega, lt64 g0 (by decide), I64_z, I64_z, I64_z, I64_z, I64_z, I64_z, by show (0 : Nat) < _; decide, I64_z, I64_z, I64_z, I64_z, I64_z⟩, rfl, rfl, rfl, ?_, ?_⟩
  · refine (wri_one _ _ ⟨sToken, 8, 1, [48]⟩ _ _ (n := n0) (ns_tok _ _) g0 (by decide)).trans ?_
    exact congrArg (Prod.mk none) (by simp only [List.append_assoc, List.append_nil])
  · have hsp : ∀ (q : Rs) w, hasS q w = (bodyR q.st q.op && hasR w.ops q.op) := fun _ _ => rfl
    simp only [refE2, hsp, tolds, List.any_cons, List.any_nil, numsT, noughts, ns_tok, ns_1, ns_2, ns_3, ns_4, ns_5, ns_6, ns_7, ns_8, ns_9, ns_10, ns_11, ns_12, ns_13, Rs.head, hb]
    simp [hasR, u64, bit]
set_option maxHeartbeats 2000000 in
theorem pw1 (st : Nat) (hst : st < 256) (hb : bodyR st 1 = true) (l : List Nat) (hB : Byt l) (q : Rs) (ns out : List Nat) (h : refPG (fun _ => true) [] l (Rs.head st 1) [] = (none, q, ns)) : q.Ok ∧ q.st = st ∧ q.op = 1 ∧ q.mv = .slice none 0 0 ∧ refW (fun _ => true) (numsT q ns) ns [] out = (none, out ++ l) ∧ refE2 (hasS q) (numsT q ns) tolds = false := by
  obtain ⟨rfl, rfl, rfl⟩ := nil_inv _ _ _ _ _ h
  refine ⟨⟨I64_s hst, by show I64 1; unfold I64; omega, by show (0 : Nat) < _; decide, I64_z, I64_z, I64_z, I64_z, I64_z, I64_z, by show (0 : Nat) < _; decide, I64_z, I64_z, I64_z, I64_z, I64_z⟩, rfl, rfl, rfl, ?_, ?_⟩
  · exact congrArg (Prod.mk none) (by simp only [List.append_assoc, List.append_nil])
  · have hsp : ∀ (q : Rs) w, hasS q w = (bodyR q.st q.op && hasR w.ops q.op) := fun _ _ => rfl
    simp only [refE2, hsp, tolds, List.any_cons, List.any_nil, numsT, noughts, ns_tok, ns_1, ns_2, ns_3, ns_4, ns_5, ns_6, ns_7, ns_8, ns_9, ns_10, ns_11, ns_12, ns_13, Rs.head, hb]
    simp [hasR, u64, bit]
set_option maxHeartbeats 2000000 in
theorem pw2 (st : Nat) (hst : st < 256) (hb : bodyR st 2 = true) (l : List Nat) (hB : Byt l) (q : Rs) (ns out : List Nat) (h : refPG (fun _ => true) [⟨sUnit, 1, 1, [50]⟩, ⟨sAt, 2, 2, [50]⟩, ⟨sNew, 4, 1, [50, 51]⟩, ⟨sVer, 4, 1, [50, 51, 54]⟩] l (Rs.head st 2) [] = (none, q, ns)) : q.Ok ∧ q.st = st ∧ q.op = 2 ∧ q.mv = .slice none 0 0 ∧ refW (fun _ => true) (numsT q ns) ns [⟨sUnit, 1, 1, [50]⟩, ⟨sAt, 2, 2, [50]⟩, ⟨sNew, 4, 1, [50, 51]⟩, ⟨sVer, 4, 1, [50, 51, 54]⟩] out = (none, out ++ l) ∧ refE2 (hasS q) (numsT q ns) tolds = false := by
  obtain ⟨n0, l0, rfl, g0, hB0, h⟩ := one_inv ⟨sUnit, 1, 1, [50]⟩ _ _ _ _ _ _ hB rfl (by decide) (by decide) h
  rw [setS_sUnit] at h
  obtain ⟨n1, m1, l1, rfl, g1, k1, hB1, h⟩ := two_inv ⟨sAt, 2, 2, [50]⟩ _ _ _ _ _ _ hB0 rfl (by decide) (by decide) h
  rw [setS_sAt] at h
  obtain ⟨n2, l2, rfl, g2, hB2, h⟩ := one_inv ⟨sNew, 4, 1, [50, 51]⟩ _ _ _ _ _ _ hB1 rfl (by decide) (by decide) h
  rw [setS_sNew] at h
  obtain ⟨n3, l3, rfl, g3, hB3, h⟩ := one_inv ⟨sVer, 4, 1, [50, 51, 54]⟩ _ _ _ _ _ _ hB2 rfl (by decide) (by decide) h
  rw [setS_sVer] at h
  obtain ⟨rfl, rfl, rfl⟩ := nil_inv _ _ _ _ _ h
  refine ⟨⟨I64_s hst, by show I64 2; unfold I64; omega, by show (0 : Nat) < _; decide, iI_I n0, iI_I n1, iI_I m1, iI_I n2, I64_z, iI_I n3, by show (0 : Nat) < _; decide, I64_z, I64_z, I64_z, I64_z, I64_z⟩, rfl, rfl, rfl, ?_, ?_⟩
  · refine (wri_one _ _ ⟨sUnit, 1, 1, [50]⟩ _ _ (n := n0) ((ns_1 _ _).trans (by dsimp only; rw [u64_iI (lt64 g0 (by decide))])) g0 (by decide)).trans ?_
    refine (wri_two _ _ ⟨sAt, 2, 2, [50]⟩ _ _ (n := n1) (m := m1) ((ns_2 _ _).trans (by dsimp only; rw [u64_iI (lt64 g1 (by decide)), u64_iI (lt64 k1 (by decide))])) g1 k1 (by decide)).trans ?_
    refine (wri_one _ _ ⟨sNew, 4, 1, [50, 51]⟩ _ _ (n := n2) ((ns_3 _ _).trans (by dsimp only; rw [u64_iI (lt64 g2 (by decide))])) g2 (by decide)).trans ?_
    refine (wri_one _ _ ⟨sVer, 4, 1, [50, 51, 54]⟩ _ _ (n := n3) ((ns_5 _ _).trans (by dsimp only; rw [u64_iI (lt64 g3 (by decide))])) g3 (by decide)).trans ?_
    exact congrArg (Prod.mk none) (by simp only [List.append_assoc, List.append_nil])
  · have hsp : ∀ (q : Rs) w, hasS q w = (bodyR q.st q.op && hasR w.ops q.op) := fun _ _ => rfl
    simp only [refE2, hsp, tolds, List.any_cons, List.any_nil, numsT, noughts, ns_tok, ns_1, ns_2, ns_3, ns_4, ns_5, ns_6, ns_7, ns_8, ns_9, ns_10, ns_11, ns_12, ns_13, Rs.head, hb]
    simp [hasR, u64, bit]
set_option maxHeartbeats 2000000 in
theorem pw3 (st : Nat) (hst : st < 256) (hb : bodyR st 3 = true) (l : List Nat) (hB : Byt l) (q : Rs) (ns out : List Nat) (h : refPG (fun _ => true) [⟨sNew, 4, 1, [50, 51]⟩, ⟨sExpl, 4, 1, [51, 54]⟩, ⟨sVer, 4, 1, [50, 51, 54]⟩] l (Rs.head st 3) [] = (none, q, ns)) : q.Ok ∧ q.st = st ∧ q.op = 3 ∧ q.mv = .slice none 0 0 ∧ refW (fun _ => true) (numsT q ns) ns [⟨sNew, 4, 1, [50, 51]⟩, ⟨sExpl, 4, 1, [51, 54]⟩, ⟨sVer, 4, 1, [50, 51, 54]⟩] out = (none, out ++ l) ∧ refE2 (hasS q) (numsT q ns) tolds = false := by
  obtain ⟨n0, l0, rfl, g0, hB0, h⟩ := one_inv ⟨sNew, 4, 1, [50, 51]⟩ _ _ _ _ _ _ hB rfl (by decide) (by decide) h
  rw [setS_sNew] at h
  obtain ⟨n1, l1, rfl, g1, hB1, h⟩ := one_inv ⟨sExpl, 4, 1, [51, 54]⟩ _ _ _ _ _ _ hB0 rfl (by decide) (by decide) h
  rw [setS_sExpl] at h
  obtain ⟨n2, l2, rfl, g2, hB2, h⟩ := one_inv ⟨sVer, 4, 1, [50, 51, 54]⟩ _ _ _ _ _ _ hB1 rfl (by decide) (by decide) h
  rw [setS_sVer] at h
  obtain ⟨rfl, rfl, rfl⟩ := nil_inv _ _ _ _ _ h
  refine ⟨⟨I64_s hst, by show I64 3; unfold I64; omega, by show (0 : Nat) < _; decide, I64_z, I64_z, I64_z, iI_I n0, iI_I n1, iI_I n2, by show (0 : Nat) < _; decide, I64_z, I64_z, I64_z, I64_z, I64_z⟩, rfl, rfl, rfl, ?_, ?_⟩
  · refine (wri_one _ _ ⟨sNew, 4, 1, [50, 51]⟩ _ _ (n := n0) ((ns_3 _ _).trans (by dsimp only; rw [u64_iI (lt64 g0 (by decide))])) g0 (by decide)).trans ?_
    refine (wri_one _ _ ⟨sExpl, 4, 1, [51, 54]⟩ _ _ (n := n1) ((ns_4 _ _).trans (by dsimp only; rw [u64_iI (lt64 g1 (by decide))])) g1 (by decide)).trans ?_
    refine (wri_one _ _ ⟨sVer, 4, 1, [50, 51, 54]⟩ _ _ (n := n2) ((ns_5 _ _).trans (by dsimp only; rw [u64_iI (lt64 g2 (by decide))])) g2 (by decide)).trans ?_
    exact congrArg (Prod.mk none) (by simp only [List.append_assoc, List.append_nil])
  · have hsp : ∀ (q : Rs) w, hasS q w = (bodyR q.st q.op && hasR w.ops q.op) := fun _ _ => rfl
    simp only [refE2, hsp, tolds, List.any_cons, List.any_nil, numsT, noughts, ns_tok, ns_1, ns_2, ns_3, ns_4, ns_5, ns_6, ns_7, ns_8, ns_9, ns_10, ns_11, ns_12, ns_13, Rs.head, hb]
    simp [hasR, u64, bit]
set_option maxHeartbeats 2000000 in
theorem pw4 (st : Nat) (hst : st < 256) (hb : bodyR st 4 = true) (l : List Nat) (hB : Byt l) (q : Rs) (ns out : List Nat) (h : refPG (fun _ => true) [⟨sHit, 1, 1, [52, 53]⟩, ⟨sCost, 8, 1, [52, 53]⟩, ⟨sSettled, 4, 1, [52, 53]⟩, ⟨sLeft, 4, 1, [52, 53, 54]⟩, ⟨sMoves, 4, 1, [52, 53]⟩] l (Rs.head st 4) [] = (none, q, ns)) : q.Ok ∧ q.st = st ∧ q.op = 4 ∧ q.mv = .slice none 0 0 ∧ refW (fun _ => true) (numsT q ns) ns [⟨sHit, 1, 1, [52, 53]⟩, ⟨sCost, 8, 1, [52, 53]⟩, ⟨sSettled, 4, 1, [52, 53]⟩, ⟨sLeft, 4, 1, [52, 53, 54]⟩, ⟨sMoves, 4, 1, [52, 53]⟩] out = (none, out ++ l) ∧ refE2 (hasS q) (numsT q ns) tolds = false := by
  obtain ⟨n0, l0, rfl, g0, hB0, h⟩ := hit_inv _ _ _ _ _ _ _ hB h
  rw [setS_sHit] at h
  obtain ⟨n1, l1, rfl, g1, hB1, h⟩ := one_inv ⟨sCost, 8, 1, [52, 53]⟩ _ _ _ _ _ _ hB0 rfl (by decide) (by decide) h
  rw [setS_sCost] at h
  obtain ⟨n2, l2, rfl, g2, hB2, h⟩ := one_inv ⟨sSettled, 4, 1, [52, 53]⟩ _ _ _ _ _ _ hB1 rfl (by decide) (by decide) h
  rw [setS_sSettled] at h
  obtain ⟨n3, l3, rfl, g3, hB3, h⟩ := one_inv ⟨sLeft, 4, 1, [52, 53, 54]⟩ _ _ _ _ _ _ hB2 rfl (by decide) (by decide) h
  rw [setS_sLeft] at h
  obtain ⟨rfl, h6, h3, rfl⟩ := mov_inv _ _ _ _ _ hB3 h
  refine ⟨⟨I64_s hst, by show I64 4; unfold I64; omega, by show (0 : Nat) < _; decide, I64_z, I64_z, I64_z, I64_z, I64_z, I64_z, lt64 g1 (by decide), iI_I n2, iI_I n3, I64_z, I64_z, I64_z⟩, rfl, rfl, rfl, ?_, ?_⟩
  · refine (wri_one _ _ ⟨sHit, 1, 1, [52, 53]⟩ _ _ (n := n0) ((ns_6 _ _).trans (by dsimp only; rw [dec_bit g0])) (by show n0 < 2 ^ (8 * 1); omega) (by decide)).trans ?_
    refine (wri_one _ _ ⟨sCost, 8, 1, [52, 53]⟩ _ _ (n := n1) (ns_7 _ _) g1 (by decide)).trans ?_
    refine (wri_one _ _ ⟨sSettled, 4, 1, [52, 53]⟩ _ _ (n := n2) ((ns_8 _ _).trans (by dsimp only; rw [u64_iI (lt64 g2 (by decide))])) g2 (by decide)).trans ?_
    refine (wri_one _ _ ⟨sLeft, 4, 1, [52, 53, 54]⟩ _ _ (n := n3) ((ns_9 _ _).trans (by dsimp only; rw [u64_iI (lt64 g3 (by decide))])) g3 (by decide)).trans ?_
    exact (wri_mov _ _ _ _ (ns_10 _ _) h6 h3).trans (by simp only [List.append_assoc])
  · have hsp : ∀ (q : Rs) w, hasS q w = (bodyR q.st q.op && hasR w.ops q.op) := fun _ _ => rfl
    simp only [refE2, hsp, tolds, List.any_cons, List.any_nil, numsT, noughts, ns_tok, ns_1, ns_2, ns_3, ns_4, ns_5, ns_6, ns_7, ns_8, ns_9, ns_10, ns_11, ns_12, ns_13, Rs.head, hb]
    simp [hasR, u64, bit]
set_option maxHeartbeats 2000000 in
theorem pw5 (st : Nat) (hst : st < 256) (hb : bodyR st 5 = true) (l : List Nat) (hB : Byt l) (q : Rs) (ns out : List Nat) (h : refPG (fun _ => true) [⟨sHit, 1, 1, [52, 53]⟩, ⟨sCost, 8, 1, [52, 53]⟩, ⟨sSettled, 4, 1, [52, 53]⟩, ⟨sLeft, 4, 1, [52, 53, 54]⟩, ⟨sMoves, 4, 1, [52, 53]⟩] l (Rs.head st 5) [] = (none, q, ns)) : q.Ok ∧ q.st = st ∧ q.op = 5 ∧ q.mv = .slice none 0 0 ∧ refW (fun _ => true) (numsT q ns) ns [⟨sHit, 1, 1, [52, 53]⟩, ⟨sCost, 8, 1, [52, 53]⟩, ⟨sSettled, 4, 1, [52, 53]⟩, ⟨sLeft, 4, 1, [52, 53, 54]⟩, ⟨sMoves, 4, 1, [52, 53]⟩] out = (none, out ++ l) ∧ refE2 (hasS q) (numsT q ns) tolds = false := by
  obtain ⟨n0, l0, rfl, g0, hB0, h⟩ := hit_inv _ _ _ _ _ _ _ hB h
  rw [setS_sHit] at h
  obtain ⟨n1, l1, rfl, g1, hB1, h⟩ := one_inv ⟨sCost, 8, 1, [52, 53]⟩ _ _ _ _ _ _ hB0 rfl (by decide) (by decide) h
  rw [setS_sCost] at h
  obtain ⟨n2, l2, rfl, g2, hB2, h⟩ := one_inv ⟨sSettled, 4, 1, [52, 53]⟩ _ _ _ _ _ _ hB1 rfl (by decide) (by decide) h
  rw [setS_sSettled] at h
  obtain ⟨n3, l3, rfl, g3, hB3, h⟩ := one_inv ⟨sLeft, 4, 1, [52, 53, 54]⟩ _ _ _ _ _ _ hB2 rfl (by decide) (by decide) h
  rw [setS_sLeft] at h
  obtain ⟨rfl, h6, h3, rfl⟩ := mov_inv _ _ _ _ _ hB3 h
  refine ⟨⟨I64_s hst, by show I64 5; unfold I64; omega, by show (0 : Nat) < _; decide, I64_z, I64_z, I64_z, I64_z, I64_z, I64_z, lt64 g1 (by decide), iI_I n2, iI_I n3, I64_z, I64_z, I64_z⟩, rfl, rfl, rfl, ?_, ?_⟩
  · refine (wri_one _ _ ⟨sHit, 1, 1, [52, 53]⟩ _ _ (n := n0) ((ns_6 _ _).trans (by dsimp only; rw [dec_bit g0])) (by show n0 < 2 ^ (8 * 1); omega) (by decide)).trans ?_
    refine (wri_one _ _ ⟨sCost, 8, 1, [52, 53]⟩ _ _ (n := n1) (ns_7 _ _) g1 (by decide)).trans ?_
    refine (wri_one _ _ ⟨sSettled, 4, 1, [52, 53]⟩ _ _ (n := n2) ((ns_8 _ _).trans (by dsimp only; rw [u64_iI (lt64 g2 (by decide))])) g2 (by decide)).trans ?_
    refine (wri_one _ _ ⟨sLeft, 4, 1, [52, 53, 54]⟩ _ _ (n := n3) ((ns_9 _ _).trans (by dsimp only; rw [u64_iI (lt64 g3 (by decide))])) g3 (by decide)).trans ?_
    exact (wri_mov _ _ _ _ (ns_10 _ _) h6 h3).trans (by simp only [List.append_assoc])
  · have hsp : ∀ (q : Rs) w, hasS q w = (bodyR q.st q.op && hasR w.ops q.op) := fun _ _ => rfl
    simp only [refE2, hsp, tolds, List.any_cons, List.any_nil, numsT, noughts, ns_tok, ns_1, ns_2, ns_3, ns_4, ns_5, ns_6, ns_7, ns_8, ns_9, ns_10, ns_11, ns_12, ns_13, Rs.head, hb]
    simp [hasR, u64, bit]
set_option maxHeartbeats 2000000 in
theorem pw6 (st : Nat) (hst : st < 256) (hb : bodyR st 6 = true) (l : List Nat) (hB : Byt l) (q : Rs) (ns out : List Nat) (h : refPG (fun _ => true) [⟨sExpl, 4, 1, [51, 54]⟩, ⟨sVer, 4, 1, [50, 51, 54]⟩, ⟨sLeft, 4, 1, [52, 53, 54]⟩, ⟨sUnits, 1, 1, [54]⟩, ⟨sCache, 1, 1, [54]⟩, ⟨sSess, 1, 1, [54]⟩] l (Rs.head st 6) [] = (none, q, ns)) : q.Ok ∧ q.st = st ∧ q.op = 6 ∧ q.mv = .slice none 0 0 ∧ refW (fun _ => true) (numsT q ns) ns [⟨sExpl, 4, 1, [51, 54]⟩, ⟨sVer, 4, 1, [50, 51, 54]⟩, ⟨sLeft, 4, 1, [52, 53, 54]⟩, ⟨sUnits, 1, 1, [54]⟩, ⟨sCache, 1, 1, [54]⟩, ⟨sSess, 1, 1, [54]⟩] out = (none, out ++ l) ∧ refE2 (hasS q) (numsT q ns) tolds = false := by
  obtain ⟨n0, l0, rfl, g0, hB0, h⟩ := one_inv ⟨sExpl, 4, 1, [51, 54]⟩ _ _ _ _ _ _ hB rfl (by decide) (by decide) h
  rw [setS_sExpl] at h
  obtain ⟨n1, l1, rfl, g1, hB1, h⟩ := one_inv ⟨sVer, 4, 1, [50, 51, 54]⟩ _ _ _ _ _ _ hB0 rfl (by decide) (by decide) h
  rw [setS_sVer] at h
  obtain ⟨n2, l2, rfl, g2, hB2, h⟩ := one_inv ⟨sLeft, 4, 1, [52, 53, 54]⟩ _ _ _ _ _ _ hB1 rfl (by decide) (by decide) h
  rw [setS_sLeft] at h
  obtain ⟨n3, l3, rfl, g3, hB3, h⟩ := one_inv ⟨sUnits, 1, 1, [54]⟩ _ _ _ _ _ _ hB2 rfl (by decide) (by decide) h
  rw [setS_sUnits] at h
  obtain ⟨n4, l4, rfl, g4, hB4, h⟩ := one_inv ⟨sCache, 1, 1, [54]⟩ _ _ _ _ _ _ hB3 rfl (by decide) (by decide) h
  rw [setS_sCache] at h
  obtain ⟨n5, l5, rfl, g5, hB5, h⟩ := one_inv ⟨sSess, 1, 1, [54]⟩ _ _ _ _ _ _ hB4 rfl (by decide) (by decide) h
  rw [setS_sSess] at h
  obtain ⟨rfl, rfl, rfl⟩ := nil_inv _ _ _ _ _ h
  refine ⟨⟨I64_s hst, by show I64 6; unfold I64; omega, by show (0 : Nat) < _; decide, I64_z, I64_z, I64_z, I64_z, iI_I n0, iI_I n1, by show (0 : Nat) < _; decide, I64_z, iI_I n2, iI_I n3, iI_I n4, iI_I n5⟩, rfl, rfl, rfl, ?_, ?_⟩
  · refine (wri_one _ _ ⟨sExpl, 4, 1, [51, 54]⟩ _ _ (n := n0) ((ns_4 _ _).trans (by dsimp only; rw [u64_iI (lt64 g0 (by decide))])) g0 (by decide)).trans ?_
    refine (wri_one _ _ ⟨sVer, 4, 1, [50, 51, 54]⟩ _ _ (n := n1) ((ns_5 _ _).trans (by dsimp only; rw [u64_iI (lt64 g1 (by decide))])) g1 (by decide)).trans ?_
    refine (wri_one _ _ ⟨sLeft, 4, 1, [52, 53, 54]⟩ _ _ (n := n2) ((ns_9 _ _).trans (by dsimp only; rw [u64_iI (lt64 g2 (by decide))])) g2 (by decide)).trans ?_
    refine (wri_one _ _ ⟨sUnits, 1, 1, [54]⟩ _ _ (n := n3) ((ns_11 _ _).trans (by dsimp only; rw [u64_iI (lt64 g3 (by decide))])) g3 (by decide)).trans ?_
    refine (wri_one _ _ ⟨sCache, 1, 1, [54]⟩ _ _ (n := n4) ((ns_12 _ _).trans (by dsimp only; rw [u64_iI (lt64 g4 (by decide))])) g4 (by decide)).trans ?_
    refine (wri_one _ _ ⟨sSess, 1, 1, [54]⟩ _ _ (n := n5) ((ns_13 _ _).trans (by dsimp only; rw [u64_iI (lt64 g5 (by decide))])) g5 (by decide)).trans ?_
    exact congrArg (Prod.mk none) (by simp only [List.append_assoc, List.append_nil])
  · have hsp : ∀ (q : Rs) w, hasS q w = (bodyR q.st q.op && hasR w.ops q.op) := fun _ _ => rfl
    simp only [refE2, hsp, tolds, List.any_cons, List.any_nil, numsT, noughts, ns_tok, ns_1, ns_2, ns_3, ns_4, ns_5, ns_6, ns_7, ns_8, ns_9, ns_10, ns_11, ns_12, ns_13, Rs.head, hb]
    simp [hasR, u64, bit]
end Go.Proofs.YtnaclkdjchnbpaaDoor
end
section
namespace Go.Proofs.YtnaclkdjchnbpaaDoor
open Go Go.K

theorem rPar_cons (s o : Nat) (l : List Nat) : rPar (s :: o :: l) = if opensE (s : Int) (o : Int) ≠ 0 then (some (sOp, opensE (s : Int) (o : Int)), zR, []) else refPG (hasP (s : Int) (o : Int)) tolds l (Rs.head s o) [] := by
  unfold rPar
  rw [if_neg (by simp), if_neg (by simp)]
  rfl
theorem filt0 (st op : Int) (hb : bodyR st op = false) : tolds.filter (hasP st op) = [] := by
  rw [List.filter_eq_nil_iff]
  intro w _ h
  unfold hasP at h
  rw [hb] at h
  cases h
theorem op06 {st : Int} {o : Nat} (h0 : opensE st o = 0) (hb : bodyR st o = true) : o = 0 ∨ o = 1 ∨ o = 2 ∨ o = 3 ∨ o = 4 ∨ o = 5 ∨ o = 6 := by
  have h1 : (o : Int) ≤ 6 := by unfold bodyR at hb; simp at hb; omega
  omega
set_option maxHeartbeats 8000000 in
theorem wri_par (r : Rs) (hr : r.Ok) (ms o : List Nat) (h : wri r ms = (none, o)) : rPar o = (none, { r with mv := .slice none 0 0 }, ms) := by
  rw [wri_same r ms hr] at h
  unfold rWri at h
  by_cases h1 : u64 r.st / 2 ^ (8 * 1) ≠ 0
  · rw [if_pos h1] at h; simp at h
  rw [if_neg h1] at h
  by_cases h2 : opensE r.st r.op ≠ 0
  · rw [if_pos h2] at h; simp at h
  rw [if_neg h2] at h
  have h0 : opensE r.st r.op = 0 := Decidable.not_not.1 h2
  obtain ⟨s, hs, es⟩ : ∃ s : Nat, s < 256 ∧ r.st = s := by
    have h3 := hr.st
    have h4 : u64 r.st / 2 ^ (8 * 1) = 0 := Decidable.not_not.1 h1
    unfold I64 at h3
    unfold u64 at h4
    exact ⟨r.st.toNat, by omega, by omega⟩
  obtain ⟨p, hp, ep⟩ : ∃ p : Nat, p < 256 ∧ r.op = p := by
    have h3 := h0
    unfold opensE at h3
    by_cases h4 : r.op < 0 ∨ (6 < r.op ∧ r.op ≠ 255)
    · rw [if_pos h4] at h3; cases h3
    · exact ⟨r.op.toNat, by omega, by omega⟩
  have e0 : bes (u64 r.st) 1 1 ++ [(r.op % 256).toNat] = [s, p] := by
    have e1 : u64 r.st = s := by rw [es]; unfold u64; omega
    have e2 : (r.op % 256).toNat = p := by rw [ep]; omega
    rw [e1, e2, bes1 hs]
    rfl
  rw [e0] at h
  rcases hW : refW (hasS r) (numsT r ms) ms tolds [s, p] with ⟨x, o'⟩
  rw [hW] at h
  rcases x with _ | y
  rotate_left
  · simp [fin] at h
  rcases hL : refE2 (hasS r) (numsT r ms) tolds with _ | _
  rotate_left
  · rw [hL] at h; simp [fin] at h
  rw [hL] at h
  have ho : o' = o := by simpa [fin] using h
  subst ho
  rw [refW_filter] at hW
  have hfe : tolds.filter (hasS r) = tolds.filter (hasP r.st r.op) := rfl
  rw [hfe] at hW
  have hsp : ∀ w, hasS r w = (bodyR r.st r.op && hasR w.ops r.op) := fun _ => rfl
  have z1 := u64_zero hr.unit
  have z2 := u64_zero hr.ax
  have z3 := u64_zero hr.ay
  have z4 := u64_zero hr.new
  have z5 := u64_zero hr.expl
  have z6 := u64_zero hr.ver
  have z7 := u64_zero hr.settled
  have z8 := u64_zero hr.left
  have z9 := u64_zero hr.units
  have zA := u64_zero hr.cache
  have zB := u64_zero hr.sess
  have zC := bit_zero r.hit
  simp only [refE2, hsp, tolds, List.any_cons, List.any_nil, numsT, noughts, ns_tok, ns_1, ns_2, ns_3, ns_4, ns_5, ns_6, ns_7, ns_8, ns_9, ns_10, ns_11, ns_12, ns_13] at hL
  rcases hb : bodyR r.st r.op with _ | _
  · rw [filt0 _ _ hb] at hW
    simp only [refW, Prod.mk.injEq, true_and] at hW
    rw [← hW, rPar_cons, if_neg (by rw [← es, ← ep]; exact h2), refPG_filter, ← es, ← ep, filt0 _ _ hb, refPG, if_neg (by simp)]
    rw [hb] at hL
    simp [z1, z2, z3, z4, z5, z6, z7, z8, z9, zA, zB, zC] at hL
    rcases r with ⟨st, op, tok, unit, ax, ay, new, expl, ver, hit, cost, settled, left, mv, units, cache, sess⟩
    simp_all [Rs.head]
  · rw [filt _ _ hb, ep] at hW
    rw [hb, ep] at hL
    have h6 := op06 (by rw [← ep]; exact h0) (by rw [← ep]; exact hb)
    have hR : ∀ B, rPar (s :: p :: B) = refPG (fun _ => true) (tolds.filter (hasO p)) B (Rs.head s p) [] := by
      intro B
      rw [rPar_cons, if_neg (by rw [← es, ← ep]; exact h2), refPG_filter, ← es, ← ep, filt _ _ hb]
    rcases h6 with rfl | rfl | rfl | rfl | rfl | rfl | rfl
    · obtain ⟨B, rfl, hB⟩ := wp0 (s : Int) r hr ms _ _ hW
      refine (hR B).trans (hB.trans ?_)
      simp [hasR, z1, z2, z3, z4, z5, z6, z7, z8, z9, zA, zB, zC] at hL
      rcases r with ⟨st, op, tok, unit, ax, ay, new, expl, ver, hit, cost, settled, left, mv, units, cache, sess⟩
      simp_all [Rs.head]
    · obtain ⟨B, rfl, hB⟩ := wp1 (s : Int) r hr ms _ _ hW
      refine (hR B).trans (hB.trans ?_)
      simp [hasR, z1, z2, z3, z4, z5, z6, z7, z8, z9, zA, zB, zC] at hL
      rcases r with ⟨st, op, tok, unit, ax, ay, new, expl, ver, hit, cost, settled, left, mv, units, cache, sess⟩
      simp_all [Rs.head]
    · obtain ⟨B, rfl, hB⟩ := wp2 (s : Int) r hr ms _ _ hW
      refine (hR B).trans (hB.trans ?_)
      simp [hasR, z1, z2, z3, z4, z5, z6, z7, z8, z9, zA, zB, zC] at hL
      rcases r with ⟨st, op, tok, unit, ax, ay, new, expl, ver, hit, cost, settled, left, mv, units, cache, sess⟩
      simp_all [Rs.head]
    · obtain ⟨B, rfl, hB⟩ := wp3 (s : Int) r hr ms _ _ hW
      refine (hR B).trans (hB.trans ?_)
      simp [hasR, z1, z2, z3, z4, z5, z6, z7, z8, z9, zA, zB, zC] at hL
      rcases r with ⟨st, op, tok, unit, ax, ay, new, expl, ver, hit, cost, settled, left, mv, units, cache, sess⟩
      simp_all [Rs.head]
    · obtain ⟨B, rfl, hB⟩ := wp4 (s : Int) r hr ms _ _ hW
      refine (hR B).trans (hB.trans ?_)
      simp [hasR, z1, z2, z3, z4, z5, z6, z7, z8, z9, zA, zB, zC] at hL
      rcases r with ⟨st, op, tok, unit, ax, ay, new, expl, ver, hit, cost, settled, left, mv, units, cache, sess⟩
      simp_all [Rs.head]
    · obtain ⟨B, rfl, hB⟩ := wp5 (s : Int) r hr ms _ _ hW
      refine (hR B).trans (hB.trans ?_)
      simp [hasR, z1, z2, z3, z4, z5, z6, z7, z8, z9, zA, zB, zC] at hL
      rcases r with ⟨st, op, tok, unit, ax, ay, new, expl, ver, hit, cost, settled, left, mv, units, cache, sess⟩
      simp_all [Rs.head]
    · obtain ⟨B, rfl, hB⟩ := wp6 (s : Int) r hr ms _ _ hW
      refine (hR B).trans (hB.trans ?_)
      simp [hasR, z1, z2, z3, z4, z5, z6, z7, z8, z9, zA, zB, zC] at hL
      rcases r with ⟨st, op, tok, unit, ax, ay, new, expl, ver, hit, cost, settled, left, mv, units, cache, sess⟩
      simp_all [Rs.head]
theorem Rs.Ok.mv {r : Rs} (h : r.Ok) (v : Value) : ({ r with mv := v } : Rs).Ok := ⟨h.st, h.op, h.tok, h.unit, h.ax, h.ay, h.new, h.expl, h.ver, h.cost, h.settled, h.left, h.units, h.cache, h.sess⟩
theorem wri_mv (r : Rs) (h : r.Ok) (v : Value) (ms : List Nat) : wri { r with mv := v } ms = wri r ms := by
  rw [wri_same _ _ (h.mv v), wri_same _ _ h]
  rfl
theorem par_wri (l : List Nat) (hB : Byt l) (q : Rs) (ns : List Nat) (h : rPar l = (none, q, ns)) : q.Ok ∧ q.mv = .slice none 0 0 ∧ wri q ns = (none, l) := by
  match l, hB, h with
  | [], _, h => simp [rPar] at h
  | [s], _, h => simp [rPar] at h
  | s :: o :: l, hB, h =>
    have hs : s < 256 := hB s List.mem_cons_self
    have ho : o < 256 := hB o (List.mem_cons_of_mem _ List.mem_cons_self)
    have hBl : Byt l := fun x hx => hB x (List.mem_cons_of_mem _ (List.mem_cons_of_mem _ hx))
    rw [rPar_cons] at h
    by_cases h2 : opensE (s : Int) (o : Int) ≠ 0
    · rw [if_pos h2] at h; simp at h
    rw [if_neg h2, refPG_filter] at h
    have h0 : opensE (s : Int) (o : Int) = 0 := Decidable.not_not.1 h2
    have fin2 : ∀ (q : Rs) (ns : List Nat), q.Ok → q.st = s → q.op = o → q.mv = .slice none 0 0 → refW (fun _ => true) (numsT q ns) ns (tolds.filter (hasP (s : Int) (o : Int))) [s, o] = (none, [s, o] ++ l) → refE2 (hasS q) (numsT q ns) tolds = false → q.Ok ∧ q.mv = .slice none 0 0 ∧ wri q ns = (none, s :: o :: l) := by
      intro q ns h3 h4 h5 h6 h7 h8
      refine ⟨h3, h6, ?_⟩
      rw [wri_same _ _ h3]
      unfold rWri
      have e1 : u64 q.st = s := by rw [h4]; unfold u64; omega
      have e2 : (q.op % 256).toNat = o := by rw [h5]; omega
      rw [h8, e1, e2, bes1 hs, if_neg (fun h => h (Nat.div_eq_of_lt hs)), h4, h5, if_neg h2, refW_filter]
      have hfe : tolds.filter (hasS q) = tolds.filter (hasP (s : Int) (o : Int)) := by rw [← h4, ← h5]; rfl
      rw [hfe]
      show fin (refW (fun _ => true) (numsT q ns) ns (tolds.filter (hasP (s : Int) (o : Int))) [s, o]) false = _
      rw [h7]
      rfl
    rcases hb : bodyR (s : Int) (o : Int) with _ | _
    · rw [filt0 _ _ hb] at h fin2
      obtain ⟨rfl, rfl, rfl⟩ := nil_inv _ _ _ _ _ h
      refine fin2 _ _ ⟨I64_s hs, I64_s ho, by show (0 : Nat) < _; decide, I64_z, I64_z, I64_z, I64_z, I64_z, I64_z, by show (0 : Nat) < _; decide, I64_z, I64_z, I64_z, I64_z, I64_z⟩ rfl rfl rfl rfl ?_
      have hsp : ∀ (q : Rs) w, hasS q w = (bodyR q.st q.op && hasR w.ops q.op) := fun _ _ => rfl
      simp only [refE2, hsp, tolds, List.any_cons, List.any_nil, numsT, noughts, ns_tok, ns_1, ns_2, ns_3, ns_4, ns_5, ns_6, ns_7, ns_8, ns_9, ns_10, ns_11, ns_12, ns_13, Rs.head, hb]
      simp [u64, bit]
    · rw [filt _ _ hb] at h fin2
      rcases op06 h0 hb with rfl | rfl | rfl | rfl | rfl | rfl | rfl
      · obtain ⟨a1, a2, a3, a4, a5, a6⟩ := pw0 s hs hb l hBl q ns [s, 0] h
        exact fin2 q ns a1 a2 a3 a4 a5 a6
      · obtain ⟨a1, a2, a3, a4, a5, a6⟩ := pw1 s hs hb l hBl q ns [s, 1] h
        exact fin2 q ns a1 a2 a3 a4 a5 a6
      · obtain ⟨a1, a2, a3, a4, a5, a6⟩ := pw2 s hs hb l hBl q ns [s, 2] h
        exact fin2 q ns a1 a2 a3 a4 a5 a6
      · obtain ⟨a1, a2, a3, a4, a5, a6⟩ := pw3 s hs hb l hBl q ns [s, 3] h
        exact fin2 q ns a1 a2 a3 a4 a5 a6
      · obtain ⟨a1, a2, a3, a4, a5, a6⟩ := pw4 s hs hb l hBl q ns [s, 4] h
        exact fin2 q ns a1 a2 a3 a4 a5 a6
      · obtain ⟨a1, a2, a3, a4, a5, a6⟩ := pw5 s hs hb l hBl q ns [s, 5] h
        exact fin2 q ns a1 a2 a3 a4 a5 a6
      · obtain ⟨a1, a2, a3, a4, a5, a6⟩ := pw6 s hs hb l hBl q ns [s, 6] h
        exact fin2 q ns a1 a2 a3 a4 a5 a6
/-- What was read of the first bytes. -/
theorem rdN_take {s m k : Nat} {l : List Nat} (h : s * m ≤ k) : rdN s m (l.take k) = rdN s m l := by
  unfold rdN
  apply List.map_congr_left
  intro j hj
  have hj2 : j + 1 ≤ m := List.mem_range.1 hj
  have h2 : (j + 1) * s ≤ s * m := by rw [Nat.mul_comm]; exact Nat.mul_le_mul_left _ hj2
  rw [Nat.succ_mul] at h2
  rw [List.drop_take, List.take_take, Nat.min_eq_left (by omega)]
theorem rdN_app {s m : Nat} {l x : List Nat} (h : s * m ≤ l.length) : rdN s m (l ++ x) = rdN s m l := by
  have := rdN_take (s := s) (m := m) (k := l.length) (l := l ++ x) h
  rw [← this, List.take_left]
theorem refPG_short (has : RowT → Bool) : ∀ (ws : List RowT) (l : List Nat) (r : Rs) (ms : List Nat) (q : Rs) (ns : List Nat) (k : Nat), refPG has ws l r ms = (none, q, ns) → k < l.length → ∃ n, refPG has ws (l.take k) r ms = (some (n, 17), zR, [])
  | [], l, r, ms, q, ns, k, h, hk => by
    rw [refPG, if_pos (by omega)] at h
    simp at h
  | w :: ws, l, r, ms, q, ns, k, h, hk => by
    rw [refPG] at h ⊢
    by_cases hh : has w = true
    rotate_left
    · rw [if_neg hh] at h ⊢
      exact refPG_short has ws _ _ _ _ _ _ h hk
    rw [if_pos hh] at h ⊢
    have hlk : (l.take k).length = k := by rw [List.length_take]; omega
    by_cases h1 : l.length < w.size * w.many
    · rw [if_pos h1] at h; simp at h
    rw [if_neg h1] at h
    by_cases h2 : k < w.size * w.many
    · rw [if_pos (by omega)]; exact ⟨_, rfl⟩
    rw [if_neg (by omega), rdN_take (by omega)]
    by_cases h3 : w.name = sHit ∧ 1 < (rdN w.size w.many l).getD 0 0
    · rw [if_pos h3] at h; simp at h
    rw [if_neg h3] at h ⊢
    by_cases h4 : w.name = sMoves
    rotate_left
    · rw [if_neg h4] at h ⊢
      rw [List.drop_take]
      exact refPG_short has ws _ _ _ _ _ _ h (by rw [List.length_drop]; omega)
    rw [if_pos h4] at h ⊢
    obtain ⟨a, ha⟩ : ∃ a, a = (rdN w.size w.many l).getD 0 0 := ⟨_, rfl⟩
    rw [← ha] at h ⊢
    by_cases h5 : 65535 < a
    · rw [if_pos h5] at h; simp at h
    rw [if_neg h5] at h ⊢
    by_cases h6 : (l.drop (w.size * w.many)).length < a
    · rw [if_pos h6] at h; simp at h
    rw [if_neg h6] at h
    rw [List.drop_take]
    have hd : (l.drop (w.size * w.many)).length = l.length - w.size * w.many := List.length_drop
    have hdk : ((l.drop (w.size * w.many)).take (k - w.size * w.many)).length = k - w.size * w.many := by rw [List.length_take]; omega
    by_cases h7 : k - w.size * w.many < a
    · rw [if_pos (by omega)]; exact ⟨_, rfl⟩
    rw [if_neg (by omega), List.take_take, Nat.min_eq_left (by omega)]
    by_cases h8 : ((l.drop (w.size * w.many)).take a).all (fun m => decide (m ≤ 3)) = true
    rotate_left
    · rw [if_neg h8] at h; simp at h
    rw [if_pos h8] at h ⊢
    rw [List.drop_take]
    exact refPG_short has ws _ _ _ _ _ _ h (by rw [List.length_drop]; omega)
theorem refPG_long (has : RowT → Bool) (x : List Nat) (hx : 0 < x.length) : ∀ (ws : List RowT) (l : List Nat) (r : Rs) (ms : List Nat) (q : Rs) (ns : List Nat), refPG has ws l r ms = (none, q, ns) → refPG has ws (l ++ x) r ms = (some (sEnd, 12), zR, [])
  | [], l, r, ms, q, ns, h => by
    rw [refPG, if_pos (by rw [List.length_append]; omega)]
  | w :: ws, l, r, ms, q, ns, h => by
    rw [refPG] at h ⊢
    by_cases hh : has w = true
    rotate_left
    · rw [if_neg hh] at h ⊢
      exact refPG_long has x hx ws _ _ _ _ _ h
    rw [if_pos hh] at h ⊢
    by_cases h1 : l.length < w.size * w.many
    · rw [if_pos h1] at h; simp at h
    rw [if_neg h1] at h
    rw [if_neg (by rw [List.length_append]; omega), rdN_app (by omega), List.drop_append_of_le_length (by omega)]
    by_cases h3 : w.name = sHit ∧ 1 < (rdN w.size w.many l).getD 0 0
    · rw [if_pos h3] at h; simp at h
    rw [if_neg h3] at h ⊢
    by_cases h4 : w.name = sMoves
    rotate_left
    · rw [if_neg h4] at h ⊢
      exact refPG_long has x hx ws _ _ _ _ _ h
    rw [if_pos h4] at h ⊢
    obtain ⟨a, ha⟩ : ∃ a, a = (rdN w.size w.many l).getD 0 0 := ⟨_, rfl⟩
    rw [← ha] at h ⊢
    by_cases h5 : 65535 < a
    · rw [if_pos h5] at h; simp at h
    rw [if_neg h5] at h ⊢
    by_cases h6 : (l.drop (w.size * w.many)).length < a
    · rw [if_pos h6] at h; simp at h
    rw [if_neg h6] at h
    rw [if_neg (by rw [List.length_append]; omega), List.take_append_of_le_length (by omega), List.drop_append_of_le_length (by omega)]
    by_cases h8 : ((l.drop (w.size * w.many)).take a).all (fun m => decide (m ≤ 3)) = true
    rotate_left
    · rw [if_neg h8] at h; simp at h
    rw [if_pos h8] at h ⊢
    exact refPG_long has x hx ws _ _ _ _ _ h
theorem rPar_short (l : List Nat) (q : Rs) (ns : List Nat) (k : Nat) (h : rPar l = (none, q, ns)) (hk : k < l.length) : ∃ n, rPar (l.take k) = (some (n, 17), zR, []) := by
  match l, h, hk with
  | [], _, hk => simp at hk
  | [s], h, _ => simp [rPar] at h
  | s :: o :: l, h, hk =>
    rw [rPar_cons] at h
    by_cases h2 : opensE (s : Int) (o : Int) ≠ 0
    · rw [if_pos h2] at h; simp at h
    rw [if_neg h2] at h
    match k, hk with
    | 0, _ => exact ⟨sStat, rfl⟩
    | 1, _ => exact ⟨sOp, rfl⟩
    | k + 2, hk =>
      rw [List.take_succ_cons, List.take_succ_cons, rPar_cons, if_neg h2]
      exact refPG_short _ _ _ _ _ _ _ _ h (by simpa using hk)
theorem rPar_long (l : List Nat) (q : Rs) (ns : List Nat) (x : List Nat) (hx : 0 < x.length) (h : rPar l = (none, q, ns)) : rPar (l ++ x) = (some (sEnd, 12), zR, []) := by
  match l, h with
  | [], h => simp [rPar] at h
  | [s], h => simp [rPar] at h
  | s :: o :: l, h =>
    rw [rPar_cons] at h
    by_cases h2 : opensE (s : Int) (o : Int) ≠ 0
    · rw [if_pos h2] at h; simp at h
    rw [if_neg h2] at h
    rw [List.cons_append, List.cons_append, rPar_cons, if_neg h2]
    exact refPG_long _ x hx _ _ _ _ _ _ h
theorem refG_short : ∀ (ws : List RowT) (i : Nat) (l : List Nat) (r q : Rq) (k : Nat), refG ws i l r = (none, q) → k < l.length → ∃ n, refG ws i (l.take k) r = (some (n, 17), Rq.zero)
  | [], i, l, r, q, k, h, hk => by
    rw [refG, if_pos (by omega)] at h
    simp at h
  | w :: ws, i, l, r, q, k, h, hk => by
    rw [refG] at h ⊢
    by_cases hh : 0 < i ∧ hasR w.ops r.op = false
    · rw [if_pos hh] at h ⊢
      exact refG_short ws _ _ _ _ _ h hk
    rw [if_neg hh] at h ⊢
    have hlk : (l.take k).length = k := by rw [List.length_take]; omega
    by_cases h1 : l.length < w.size * w.many
    · rw [if_pos h1] at h; simp at h
    rw [if_neg h1] at h
    by_cases h2 : k < w.size * w.many
    · rw [if_pos (by omega)]; exact ⟨_, rfl⟩
    rw [if_neg (by omega), rdN_take (by omega)]
    by_cases h3 : w.name = sOp ∧ 6 < (setR r w (rdN w.size w.many l)).op
    · rw [if_pos h3] at h; simp at h
    rw [if_neg h3] at h ⊢
    rw [List.drop_take]
    exact refG_short ws _ _ _ _ _ h (by rw [List.length_drop]; omega)
theorem refG_long (x : List Nat) (hx : 0 < x.length) : ∀ (ws : List RowT) (i : Nat) (l : List Nat) (r q : Rq), refG ws i l r = (none, q) → refG ws i (l ++ x) r = (some (sEnd, 12), Rq.zero)
  | [], i, l, r, q, h => by
    rw [refG, if_pos (by rw [List.length_append]; omega)]
  | w :: ws, i, l, r, q, h => by
    rw [refG] at h ⊢
    by_cases hh : 0 < i ∧ hasR w.ops r.op = false
    · rw [if_pos hh] at h ⊢
      exact refG_long x hx ws _ _ _ _ h
    rw [if_neg hh] at h ⊢
    by_cases h1 : l.length < w.size * w.many
    · rw [if_pos h1] at h; simp at h
    rw [if_neg h1] at h
    rw [if_neg (by rw [List.length_append]; omega), rdN_app (by omega), List.drop_append_of_le_length (by omega)]
    by_cases h3 : w.name = sOp ∧ 6 < (setR r w (rdN w.size w.many l)).op
    · rw [if_pos h3] at h; simp at h
    rw [if_neg h3] at h ⊢
    exact refG_long x hx ws _ _ _ _ h
theorem parF_of {l : List Nat} {y : ByteArray × Int} {r : Rs} {ms : List Nat} (hB : Byt l) (h : rPar l = (some y, r, ms)) : parF l = some y := by
  rw [← par_same l hB, par_F] at h
  rcases hp : parF l with _ | z
  · rw [hp] at h; simp at h
  · rw [hp] at h
    simp only [Prod.mk.injEq, Option.some.injEq] at h
    rw [h.1]
theorem parF_none {l : List Nat} (hB : Byt l) (h : parF l = none) : rPar l = (none, (toldT (l, none)).2.1, (toldT (l, none)).2.2) := by
  rw [← par_same l hB, par_F, h]
theorem parF_ok {l : List Nat} {r : Rs} {ms : List Nat} (hB : Byt l) (h : rPar l = (none, r, ms)) : parF l = none ∧ (toldT (l, none)).2.1 = r ∧ (toldT (l, none)).2.2 = ms := by
  rw [← par_same l hB, par_F] at h
  rcases hp : parF l with _ | z
  · rw [hp] at h
    simp only [Prod.mk.injEq, true_and] at h
    exact ⟨rfl, h.1, h.2⟩
  · rw [hp] at h; simp at h
theorem decF_of {l : List Nat} {y : ByteArray × Int} {q : Rq} (hB : Byt l) (h : rDec l = (some y, q)) : decF l = some y := by
  rw [← dec_same l hB] at h
  unfold dec at h
  rcases hp : decF l with _ | z
  · rw [hp] at h; simp at h
  · rw [hp] at h
    simp only [Prod.mk.injEq, Option.some.injEq] at h
    rw [h.1]
theorem decF_none {l : List Nat} (hB : Byt l) (h : decF l = none) : rDec l = (none, (decS l).2.2) := by
  rw [← dec_same l hB]
  unfold dec
  rw [h]
theorem decF_short {l : List Nat} (hB : Byt l) (h : decF l = none) {k : Nat} (hk : k < l.length) : ∃ n, decF (l.take k) = some (n, 17) := by
  obtain ⟨n, hn⟩ := refG_short asked 0 l Rq.zero _ k (decF_none hB h) hk
  exact ⟨n, decF_of (hB.take _) hn⟩
theorem Byt.app {l x : List Nat} (h1 : Byt l) (h2 : Byt x) : Byt (l ++ x) := fun z hz => (List.mem_append.1 hz).elim (h1 z) (h2 z)
theorem decF_long {l x : List Nat} (hB : Byt l) (hBx : Byt x) (hx : 0 < x.length) (h : decF l = none) : decF (l ++ x) = some (sEnd, 12) :=
  decF_of (Byt.app hB hBx) (refG_long x hx asked 0 l Rq.zero _ (decF_none hB h))
theorem parF_short {l : List Nat} (hB : Byt l) (h : parF l = none) {k : Nat} (hk : k < l.length) : ∃ n, parF (l.take k) = some (n, 17) := by
  obtain ⟨n, hn⟩ := rPar_short l _ _ k (parF_none hB h) hk
  exact ⟨n, parF_of (hB.take _) hn⟩
theorem parF_long {l x : List Nat} (hB : Byt l) (hBx : Byt x) (hx : 0 < x.length) (h : parF l = none) : parF (l ++ x) = some (sEnd, 12) :=
  parF_of (Byt.app hB hBx) (rPar_long l _ _ x hx (parF_none hB h))
end Go.Proofs.YtnaclkdjchnbpaaDoor
end
section
namespace Go.Proofs.YtnaclkdjchnbpaaDoor
open Go Go.K

/-- Whether two responses are one, but for their moves; and the moves. -/
def Rs.eqC (a b : Rs) (m : Bool) : Bool :=
  decide (a.st = b.st) && decide (a.op = b.op) && decide ((a.tok : Int) = (b.tok : Int)) && decide (a.unit = b.unit) && (decide (a.ax = b.ax) && decide (a.ay = b.ay)) && decide (a.new = b.new) && decide (a.expl = b.expl) && decide (a.ver = b.ver) && (a.hit == b.hit) && decide ((a.cost : Int) = (b.cost : Int)) && decide (a.settled = b.settled) && decide (a.left = b.left) && m && decide (a.units = b.units) && decide (a.cache = b.cache) && decide (a.sess = b.sess)
theorem Rs.eqC_B (a b : Rs) (m : Bool) : a.eqC b m = a.eqB b m := by
  unfold Rs.eqC Rs.eqB
  cases m <;> simp
theorem Rs.eqC_self (a : Rs) : a.eqC a true = true := by
  unfold Rs.eqC
  simp
set_option maxRecDepth 8000 in
set_option maxHeartbeats 8000000 in
theorem one_p (β : Nat → Option Obj) (σ : Heap) (a b : Rs) (l1 l2 : List Nat) (p q : Option Addr) (c d m n : Nat) (ha : a.mv = .slice p m c) (hb : b.mv = .slice q n d) (hm : l1.length = m) (hn : l2.length = n) (hp : SL β σ 1 m (by8 l1) p) (hq : SL β σ 1 n (by8 l2) q) (hb1 : m ≤ 1000000) :
    Go.K.Tr Tryd.prog 20 [.agg a.cells.toArray, .agg b.cells.toArray] β σ (fun v s => v = .bool (a.eqC b (decide (l1 = l2))) ∧ s = σ) := by
  refine Tr.sub ?_
  refine Tr.of_body Tryd.tt (args := [.agg a.cells.toArray, .agg b.cells.toArray]) (fr := [(0, true, .agg a.cells.toArray), (1, true, .agg b.cells.toArray)]) Tryd.func20 rfl (by decide) rfl Tryd.ntmps20 rfl rfl ?_
  intro E hE
  subst hE
  dsimp only [Rs.cells]
  rw [ha, hb]
  obtain ⟨z, hz⟩ : ∃ z, z = decide (l1 = l2) := ⟨_, rfl⟩
  have hS := fun (σ' : Heap) (h : ∀ q ∈ σ, q ∈ σ') => same_p E.β σ' l1 l2 p q c d m n hm hn (hp.mono h) (hq.mono h) hb1
  rw [← hz] at hS ⊢
  repeat' (first | refine KW.seq ?_ | refine KW.region ?_ | refine KO.nil ?_ | refine At.then_normal ?_ | refine KW.skip ?_ | refine KW.ret ?_ | refine At.then_ret ?_ | refine KW.block ?_ | refine KW.exit ?_ | refine At.block_normal ?_ | refine At.block_ret ?_ | refine At.loop_ret ?_ | refine At.then_exit ?_ | refine At.block_here rfl ?_ | refine At.block_there rfl ?_ | refine At.loop_exit ?_ | refine At.cut_ret ?_ | refine At.cutA_ret ?_ | refine At.cutA_exit ?_ | refine At.cut_exit ?_ | (refine At.cut_same ?_; repeat' (first | exact FLe.nil _ | refine FLe.cons rfl rfl ?_)) | refine KW.cond_t rfl (by first | with_reducible rfl | decide) ?_ | refine KW.cond_f rfl (by first | with_reducible rfl | decide) ?_ | refine KW.scope ?_ | refine KW.label ?_ | refine At.scope_normal ?_ | refine At.scope_ret ?_ | refine At.scope_exit ?_ | refine KO.skip' rfl (by first | with_reducible rfl | decide) rfl rfl ?_ | refine KO.skip0' rfl (by first | with_reducible rfl | decide) rfl ?_ | refine KO.skipIn rfl (by first | with_reducible rfl | decide) rfl rfl ?_ | ((first | apply KO.val rfl rfl rfl ?kq ?_ | apply KO.valIn rfl rfl rfl ?kq ?_); (case kq => ((first | apply qt_ev rfl ?hi | ((first | apply qt_load1 rfl rfl ?hi rfl rfl ?hm ?hc | apply qt_loadN rfl rfl ?hi rfl rfl rfl ?hm ?hc); (case hm => repeat (first | exact List.Mem.head _ | apply List.Mem.tail _ | apply List.mem_append_right _)); (case hc => rfl)) | refine qt_callQ rfl rfl ?hi (fun hg => hS _ (fun q h => List.mem_cons_of_mem _ (List.mem_cons_of_mem _ h))) | apply qt_pick_t rfl rfl (by first | with_reducible rfl | decide) rfl ?hi | apply qt_pick_f rfl rfl (by first | with_reducible rfl | decide) rfl ?hi | ((first | apply qt_pick_and rfl rfl rfl ?hi ?pj | apply qt_pick_or rfl rfl rfl ?hi ?pj); (case pj => (intro h h2; first | with_reducible exact h2 | with_reducible exact andi h h2 | (rw [h2]; rfl) | (rw [h, h2]; rfl) | with_reducible rfl | (simp [h2]; done) | (simp_all; done)))) | apply qt_cap rfl rfl ?hi rfl | apply qt_eqs rfl rfl rfl ?hi rfl (Or.inl rfl) | apply qt_nes rfl rfl rfl ?hi rfl (Or.inl rfl)); (case hi => (intro h; (repeat' (first | with_reducible exact alln | with_reducible refine allc ?_ ?_ | with_reducible refine andi ?_ ?_)); all_goals (first | with_reducible rfl | with_reducible exact h | with_reducible exact andl h | with_reducible exact andr h | with_reducible exact andl (andl h) | (simp only [h, Bool.and_self]; done) | (simp [h]; done) | (simp_all; done))))))) | (refine KO.box rfl rfl rfl rfl rfl rfl ?_; intro _ _) | (refine KW.cond rfl ?_ ?_ <;> (intro hc; try simp only [kBool] at hc)) | exact absurd trivial ‹¬True› | fail)
  ((first | apply At.done_ret | apply At.done_normal); (focus (repeat' (first | exact ResVs.nil' | apply ResVs.cons' | exact ResV.tmp' rfl | (apply ResV.cell1 rfl ?hm rfl rfl ?hc; (case hm => repeat (first | exact List.Mem.head _ | apply List.Mem.tail _ | apply List.mem_append_right _)); (case hc => rfl)) | (apply ResV.cellN rfl ?hm rfl rfl rfl ?hc; (case hm => repeat (first | exact List.Mem.head _ | apply List.Mem.tail _ | apply List.mem_append_right _)); (case hc => rfl))))); dsimp only [resVal])
  exact ⟨σ, List.Sublist.cons _ (List.Sublist.cons _ (List.Sublist.refl _)), rfl, rfl⟩
end Go.Proofs.YtnaclkdjchnbpaaDoor
end
section
namespace Go.K
section
variable {C : Cx} {L : Look} {ops : List Oper} {Q : KQ} {o : Oper} {rest : List Oper} {fr : Fr} {σ : Heap} {d : Nat} {g : Bool}
/-- Whatever 'β2' lets read is what 'β' lets read, or is tracked. -/
def Below (β β2 : Nat → Option Obj) (φ : Heap) : Prop := ∀ b o, β2 b = some o → β b = some o ∨ (b, o) ∈ φ
theorem eo_callX {x : Operand} {f : FuncId} {first cap : List Value} {args : Array Operand} {ts : Array TypeId} {gs : List Bool} {vs : List Value} {R : (Nat → Option Obj) → Value → Heap → Prop} (σf φ : Heap) (hp : List.Perm σ (σf ++ φ))
    (ho : o.op = .call ⟨.value x, args, ts⟩) (hx : opnd L x = some (true, .func (.func f) first.toArray cap.toArray)) (ha : opnds L args.toList = some (gs, vs)) (hi : gs.all id = true)
    (hT : ∀ β', (∀ b o, C.E.β b = some o → β' b = some o) → (∀ p ∈ φ, β' p.1 = some p.2) → Tr C.P f (first ++ vs ++ cap) β' σf (R β')) : EO C L σ o (fun v s => ∃ β' σ', Below C.E.β β' φ ∧ R β' v σ' ∧ s = σ' ++ φ) := fun a w hL hO => .inr (.inr (by
  have hsub := Sub.perm hp hO.has
  have hh := hO.has.sub hsub
  have hnd := hh.nodup
  rw [keys_append] at hnd
  obtain ⟨hn1, hn2, hn3⟩ := List.nodup_append.1 hnd
  have hhf : Has σf w := ⟨fun p hp => hh.has p (List.mem_append_left _ hp), hn1⟩
  have hb0 : ∀ b o, C.E.β b = some o → b ∉ keys φ := fun b o hb hm => (hO.ro hb).2 (hsub.keys b (by rw [keys_append]; exact List.mem_append_right _ hm))
  have hT' := hT (Go.K.frz C.E.β φ) (fun b o hb => by rw [frz_not _ (hb0 b o hb)]; exact hb) (fun p hp => frz_mem _ hn2 hp)
  refine ⟨f, _, run_call hT'.1 ho (opnd_ev hL hx rfl) (opnds_ok hL ha hi), ?_⟩
  have e : (first.toArray ++ vs.toArray) ++ cap.toArray = (first ++ vs ++ cap).toArray := by simp
  rw [e]
  refine (hT'.2 w (fun b o hb => ?_) hhf).mono ?_
  · rcases frz_of _ hb with h1 | ⟨_, h1⟩
    · exact ⟨hh.has _ (List.mem_append_right _ h1), fun hm => hn3 b hm b (List.mem_map.2 ⟨_, h1, rfl⟩) rfl⟩
    · exact ⟨(hO.ro h1).1, fun hm => (hO.ro h1).2 (hsub.keys b (by rw [keys_append]; exact List.mem_append_left _ hm))⟩
  rintro e w' ⟨v, σ', h1, h2, h3⟩
  have h4 := h3.frame hh
  exact ⟨v, h1, σ' ++ φ, ⟨_, σ', fun b o hb => (frz_of _ hb).elim .inr (fun h => .inl h.2), h2, rfl⟩, ⟨h4.os, h4.tape, h4.output, h4.size, fun b hb hnb => h4.old b hb (fun hm => hnb (hsub.keys b hm)), h4.has, fun b hb => (h4.new b hb).imp (hsub.keys b) id⟩⟩))
/-- The callee is handed σf, and may read φ; its answer may point into φ. -/
theorem KO.callX {x : Operand} {f : FuncId} {first cap : List Value} {args : Array Operand} {ts : Array TypeId} {gs : List Bool} {vs : List Value} {R : (Nat → Option Obj) → Value → Heap → Prop} (σf φ : Heap) (hp : List.Perm σ (σf ++ φ))
    (hg : guardOf ops (look fr) o = some true) (hd : o.dst = some d) (hn : Nat.blt d C.N = true) (ho : o.op = .call ⟨.value x, args, ts⟩) (hx : opnd (look fr) x = some (true, .func (.func f) first.toArray cap.toArray)) (ha : opnds (look fr) args.toList = some (gs, vs)) (hi : gs.all id = true)
    (hT : ∀ β', (∀ b o, C.E.β b = some o → β' b = some o) → (∀ p ∈ φ, β' p.1 = some p.2) → Tr C.P f (first ++ vs ++ cap) β' σf (R β')) (h : ∀ β' v σ', Below C.E.β β' φ → R β' v σ' → KO C ops Q rest ((d, true, v) :: fr) (σ' ++ φ)) : KO C ops Q (o :: rest) fr σ :=
  KO.ofEO hg hd hn (eo_callX σf φ hp ho hx ha hi hT) (fun v s ⟨β', σ', h0, h1, h2⟩ => by subst h2; exact h β' v σ' h0 h1)
end
theorem Cel.unfrz {β β' : Nat → Option Obj} {φ μ : Heap} {b off : Nat} {u : Value} (h1 : Below β β' φ) (h2 : ∀ q ∈ φ, ∃ cs e, q.2 = cl cs e) (h : Cel β' μ b off u) : Cel β (μ ++ φ) b off u := by
  rcases h with ⟨cs, e, h3, h4⟩ | ⟨c, e, fz, h3, h4⟩
  · exact .inl ⟨cs, e, List.mem_append_left _ h3, h4⟩
  · rcases h1 _ _ h3 with h5 | h5
    · exact .inr ⟨c, e, fz, h5, h4⟩
    · obtain ⟨cs, e', h6⟩ := h2 _ h5
      dsimp only at h6
      rw [h6] at h5
      refine .inl ⟨cs, e', List.mem_append_right _ h5, ?_⟩
      simp only [cl, Obj.cells.injEq] at h6
      rw [h6.1] at h4
      simpa using h4
theorem SL.unfrz {β β' : Nat → Option Obj} {φ μ : Heap} {n m : Nat} {xs : List Value} {p : Option Addr} (h1 : Below β β' φ) (h2 : ∀ q ∈ φ, ∃ cs e, q.2 = cl cs e) (h : SL β' μ n m xs p) : SL β (μ ++ φ) n m xs p :=
  ⟨h.1, fun hm => by obtain ⟨b, off, h3, h4⟩ := h.2 hm; exact ⟨b, off, h3, fun j u hj => (h4 j u hj).unfrz h1 h2⟩⟩
end Go.K
end
section
namespace Go.Proofs.YtnaclkdjchnbpaaDoor
open Go Go.K

theorem movT_byt {z : List Nat × Flt} (h : Byt z.1) (n : ByteArray) : Byt (movT z n).2 := by
  have hq := tkF1_byt h (n, 4)
  unfold movT
  dsimp only
  split
  · exact fun x hx => by cases hx
  · split
    · exact fun x hx => by cases hx
    · split
      · exact fun x hx => by cases hx
      · exact hq.take _
theorem tellT_byt (r : Rs) {z : List Nat × Flt} (h : Byt z.1) : Byt (tellT r z).2.2 := by
  have h0 : Byt ([] : List Nat) := fun x hx => by cases hx
  unfold tellT
  split
  · exact h0
  · split
    · exact h0
    · split
      · exact h0
      · split
        · exact movT_byt (tkF1_byt (tkF1_byt (tkF1_byt (flgF_byt h _) _) _) _) _
        · split
          · exact h0
          · exact h0
theorem toldT_byt {z : List Nat × Flt} (h : Byt z.1) : Byt (toldT z).2.2 := by
  have h0 : Byt ([] : List Nat) := fun x hx => by cases hx
  have h1 := tkF1_byt (tkF1_byt h (sStat, 1)) (sOp, 1)
  unfold toldT toldT2
  dsimp only
  split
  · exact h0
  · split
    · exact h0
    · split
      · exact h0
      · split
        · exact tellT_byt _ h1
        · exact h0
theorem movT_65 (z : List Nat × Flt) (n : ByteArray) : (movT z n).2.length ≤ 65535 := by
  unfold movT
  dsimp only
  split
  · exact Nat.zero_le _
  · split
    · exact Nat.zero_le _
    · split
      · exact Nat.zero_le _
      · dsimp only; rw [List.length_take]; omega
theorem tellT_65 (r : Rs) (z : List Nat × Flt) : (tellT r z).2.2.length ≤ 65535 := by
  unfold tellT
  split
  · exact Nat.zero_le _
  · split
    · exact Nat.zero_le _
    · split
      · exact Nat.zero_le _
      · split
        · exact movT_65 _ _
        · split
          · exact Nat.zero_le _
          · exact Nat.zero_le _
theorem toldT_65 (z : List Nat × Flt) : (toldT z).2.2.length ≤ 65535 := by
  unfold toldT toldT2
  dsimp only
  split
  · exact Nat.zero_le _
  · split
    · exact Nat.zero_le _
    · split
      · exact Nat.zero_le _
      · split
        · exact tellT_65 _ _
        · exact Nat.zero_le _
theorem layL_byt (s : Nat) : ∀ (ns out o : List Nat), layL s out ns = some o → Byt out → Byt o
  | [], out, o, h, hB => by
    simp only [layL, Option.some.injEq] at h
    subst h; exact hB
  | n :: ns, out, o, h, hB => by
    unfold layL at h
    split at h
    · exact layL_byt s ns _ _ h (Byt.app hB (bes_byt _ _ _))
    · simp at h
theorem layL_len (s : Nat) : ∀ (ns out o : List Nat), layL s out ns = some o → o.length = out.length + s * ns.length
  | [], out, o, h => by
    simp only [layL, Option.some.injEq] at h
    subst h; simp
  | n :: ns, out, o, h => by
    unfold layL at h
    split at h
    · have := layL_len s ns _ _ h
      rw [List.length_append, bes_len] at this
      rw [this, List.length_cons, Nat.mul_succ]; omega
    · simp at h
theorem refW_byt (has : RowT → Bool) (nums : RowT → List Nat) (ms : List Nat) (hM : Byt ms) : ∀ (ws : List RowT) (out o : List Nat), refW has nums ms ws out = (none, o) → Byt out → Byt o
  | [], out, o, h, hB => by
    simp only [refW, Prod.mk.injEq, true_and] at h
    subst h; exact hB
  | w :: ws, out, o, h, hB => by
    rw [refW] at h
    split at h
    · split at h
      · simp at h
      · split at h
        · simp at h
        · rename_i o1 h1
          have h2 := layL_byt _ _ _ _ h1 hB
          split at h
          · split at h
            · exact refW_byt has nums ms hM ws _ _ h (Byt.app h2 hM)
            · simp at h
          · exact refW_byt has nums ms hM ws _ _ h h2
    · exact refW_byt has nums ms hM ws _ _ h hB
theorem wri_byt (r : Rs) (hr : r.Ok) (ms o : List Nat) (hM : Byt ms) (h : wri r ms = (none, o)) : Byt o := by
  rw [wri_same r ms hr] at h
  unfold rWri at h
  split at h
  · simp at h
  · split at h
    · simp at h
    · rcases hW : refW (hasS r) (numsT r ms) ms tolds (bes (u64 r.st) 1 1 ++ [(r.op % 256).toNat]) with ⟨x, o'⟩
      rw [hW] at h
      rcases x with _ | y
      rotate_left
      · simp [fin] at h
      rcases hL : refE2 (hasS r) (numsT r ms) tolds with _ | _
      rotate_left
      · rw [hL] at h; simp [fin] at h
      rw [hL] at h
      have ho : o' = o := by simpa [fin] using h
      subst ho
      refine refW_byt _ _ ms hM _ _ _ hW (Byt.app (bes_byt _ _ _) ?_)
      intro x hx
      simp only [List.mem_singleton] at hx
      omega
theorem ite_len {c : Prop} [Decidable c] {a b : List Nat} (h1 : a.length ≤ 2) (h2 : b.length ≤ 2) : (if c then a else b).length ≤ 2 := by
  by_cases h : c
  · rw [if_pos h]; exact h1
  · rw [if_neg h]; exact h2
theorem numsT_len (r : Rs) (ms : List Nat) (w : RowT) : (numsT r ms w).length ≤ 2 := by
  unfold numsT numsS
  repeat' (first | exact Nat.le_refl 2 | exact Nat.succ_le_succ (Nat.zero_le 1) | apply ite_len)
theorem refW_len (r : Rs) (has : RowT → Bool) (ms : List Nat) : ∀ (ws : List RowT) (out o : List Nat), (∀ w ∈ ws, w.size ≤ 8) → refW has (numsT r ms) ms ws out = (none, o) → o.length ≤ out.length + ws.length * (16 + ms.length)
  | [], out, o, _, h => by
    simp only [refW, Prod.mk.injEq, true_and] at h
    subst h; simp
  | w :: ws, out, o, hs, h => by
    have h8 := hs w List.mem_cons_self
    have hs' := fun v hv => hs v (List.mem_cons_of_mem _ hv)
    rw [refW] at h
    rw [List.length_cons, Nat.succ_mul]
    split at h
    · split at h
      · simp at h
      · split at h
        · simp at h
        · rename_i o1 h1
          have h2 := layL_len _ _ _ _ h1
          have h3 := numsT_len r ms w
          have h4 : w.size * (numsT r ms w).length ≤ 8 * 2 := Nat.mul_le_mul h8 h3
          split at h
          · split at h
            · have := refW_len r has ms ws _ _ hs' h
              rw [List.length_append] at this
              omega
            · simp at h
          · have := refW_len r has ms ws _ _ hs' h
            omega
    · have := refW_len r has ms ws _ _ hs' h
      omega
theorem wri_len2 (r : Rs) (hr : r.Ok) (ms o : List Nat) (h : wri r ms = (none, o)) : o.length ≤ 2 + 14 * (16 + ms.length) := by
  rw [wri_same r ms hr] at h
  unfold rWri at h
  split at h
  · simp at h
  · split at h
    · simp at h
    · rcases hW : refW (hasS r) (numsT r ms) ms tolds (bes (u64 r.st) 1 1 ++ [(r.op % 256).toNat]) with ⟨x, o'⟩
      rw [hW] at h
      rcases x with _ | y
      rotate_left
      · simp [fin] at h
      rcases hL : refE2 (hasS r) (numsT r ms) tolds with _ | _
      rotate_left
      · rw [hL] at h; simp [fin] at h
      rw [hL] at h
      have ho : o' = o := by simpa [fin] using h
      subst ho
      have := refW_len r _ ms _ _ _ (by decide) hW
      rw [List.length_append, bes_len] at this
      exact this
theorem Rs.eqB_iff (a b : Rs) (m : Bool) : a.eqB b m = true ↔ ({ a with mv := .slice none 0 0 } : Rs) = { b with mv := .slice none 0 0 } ∧ m = true := by
  rcases a with ⟨st, op, tok, unit, ax, ay, new, expl, ver, hit, cost, settled, left, mv, units, cache, sess⟩
  rcases b with ⟨st', op', tok', unit', ax', ay', new', expl', ver', hit', cost', settled', left', mv', units', cache', sess'⟩
  unfold Rs.eqB
  simp only [Rs.mk.injEq, Bool.and_eq_true, decide_eq_true_eq, beq_iff_eq, true_and, Int.natCast_inj]
  constructor
  · rintro ⟨⟨⟨⟨⟨⟨⟨⟨⟨⟨⟨⟨⟨⟨⟨h1, h2⟩, h3⟩, h4⟩, h5⟩, h6, h7⟩, h8⟩, h9⟩, hA⟩, hB⟩, hC⟩, hD⟩, hE⟩, hF⟩, hG⟩, hH⟩
    exact ⟨⟨h2, h3, h4, h5, h6, h7, h8, h9, hA, hB, hC, hD, hE, hF, hG, hH⟩, h1⟩
  · rintro ⟨⟨h2, h3, h4, h5, h6, h7, h8, h9, hA, hB, hC, hD, hE, hF, hG, hH⟩, h1⟩
    exact ⟨⟨⟨⟨⟨⟨⟨⟨⟨⟨⟨⟨⟨⟨⟨h1, h2⟩, h3⟩, h4⟩, h5⟩, h6, h7⟩, h8⟩, h9⟩, hA⟩, hB⟩, hC⟩, hD⟩, hE⟩, hF⟩, hG⟩, hH⟩
theorem wri_iff (r x : Rs) (hr : r.Ok) (hx : x.Ok) (ms ns o u : List Nat) (h : wri r ms = (none, o)) (h' : wri x ns = (none, u)) : decide (o = u) = r.eqB x (decide (ms = ns)) := by
  rw [Bool.eq_iff_iff, Rs.eqB_iff, decide_eq_true_eq, decide_eq_true_eq]
  constructor
  · intro e
    have h1 := wri_par r hr ms o h
    have h2 := wri_par x hx ns u h'
    rw [e, h2] at h1
    simp only [Prod.mk.injEq, true_and] at h1
    exact ⟨h1.1.symm, h1.2.symm⟩
  · rintro ⟨e1, e2⟩
    rw [← wri_mv r hr (.slice none 0 0)] at h
    rw [← wri_mv x hx (.slice none 0 0), ← e1, ← e2, h] at h'
    simpa using h'
theorem SameT_p (β : Nat → Option Obj) (σ : Heap) (a b : Rs) (l1 l2 : List Nat) (p q : Option Addr) (c d m n : Nat) (ha : a.mv = .slice p m c) (hb : b.mv = .slice q n d) (hm : l1.length = m) (hn : l2.length = n) (hp : SL β σ 1 m (by8 l1) p) (hq : SL β σ 1 n (by8 l2) q) (hb1 : m ≤ 1000000) (hb2 : n ≤ 1000000) :
    Go.K.Tr Tryd.prog 19 [.agg a.cells.toArray, .agg b.cells.toArray] β σ (fun v s => v = .bool (a.eqB b (decide (l1 = l2))) ∧ s = σ) :=
  Tr.frzQ (Same_p β zR zR [] [] none none 0 0 0 0 rfl rfl rfl rfl (SL.nil8 _ _) (SL.nil8 _ _) (by omega) (by omega)).ok (fun β' g1 g2 => Same_p β' a b l1 l2 p q c d m n ha hb hm hn (SL.frz (φ := σ) g1 g2 hp) (SL.frz (φ := σ) g1 g2 hq) hb1 hb2)
end Go.Proofs.YtnaclkdjchnbpaaDoor
end
section
namespace Go.Proofs.YtnaclkdjchnbpaaDoor
open Go Go.K Go.ChangeShapes Go.WideShapes Go.ChangeAt Go.RowKit

def laidL : List (String × DataW Unit) := [("errors.errorType", Rows.laid_errors_errorType)]
def TB (β : Nat → Option Obj) : Prop := TBE β
theorem door_met (os : Os) (args : Array Value) : laidMetH Tryd.prog laidL ((World.doorLaid Tryd.prog 400 os).forCall (fun _ _ => 0) ⟨#[], args, []⟩).memory :=
  laidMetH_of_parts (laidMet_nil _ _) (by kernel_rfl)
theorem oneRow : ((List.range Tryd.prog.types.size).filter fun t => Tryd.prog.rowNamed t [101, 114, 114, 111, 114]) = [29] := by kernel_rfl
theorem tb_of (W : World) (h : laidMetH Tryd.prog laidL W) : TB (fun b => W.heap[b]?) := by
  have h' : laidMet Tryd.prog [] W ∧ handlesMet Tryd.prog laidL W := h
  obtain ⟨name, u, ty, e1, e2, e3, e4, e5⟩ := h'.2 _ (List.mem_singleton.2 rfl)
  have en : name = [101, 114, 114, 111, 114] := (Option.some.inj e1).symm
  subst en
  obtain rfl := Option.some.inj ((show (Tryd.prog.cutTypes.find? (·.1 == "internal/reflectlite.rtype")).map (·.2) = some 151 by kernel_rfl).symm.trans e2)
  have hm : ty ∈ (List.range Tryd.prog.types.size).filter fun t => Tryd.prog.rowNamed t [101, 114, 114, 111, 114] := List.mem_filter.2 ⟨List.mem_range.2 e3, e4⟩
  rw [oneRow] at hm
  obtain rfl := List.mem_singleton.1 hm
  have hh : typeHandle Tryd.prog 29 = hdl 29 := by kernel_rfl
  rw [hh] at e5
  have h3 := World.var?_cell (show Tryd.prog.globalNamed "errors.errorType" = some 0 by kernel_rfl) e5 0
  exact .inr (rc_of_cell (by rw [rt]; simpa using h3))
end Go.Proofs.YtnaclkdjchnbpaaDoor
end
section
namespace Go.Proofs.YtnaclkdjchnbpaaDoor
open Go Go.K

def Rs.c : Rs := ⟨19, 1, 0, 0, 0, 0, 0, 0, 0, false, 0, 0, 0, .slice none 0 0, 0, 0, 0⟩
theorem wri_c : wri Rs.c [] = (none, [19, 1]) := by rfl
theorem Rs.c_ok : Rs.c.Ok := by
  have h0 : I64 0 := by unfold I64; omega
  exact ⟨by show I64 19; unfold I64; omega, by show I64 1; unfold I64; omega, by decide, h0, h0, h0, h0, h0, h0, by decide, h0, h0, h0, h0, h0⟩
theorem WriteD_p (β : Nat → Option Obj) : Go.K.Tr Tryd.prog 16 [.agg #[.int .i64 19, .int .i64 1, .int .u64 0, .int .i64 0, .int .i64 0, .int .i64 0, .int .i64 0, .int .i64 0, .int .i64 0, .bool false, .int .u64 0, .int .i64 0, .int .i64 0, .slice none 0 0, .int .i64 0, .int .i64 0, .int .i64 0]] β [] (fun v σ => ∃ b, v = .tuple #[.slice (some ⟨b, 0, none⟩) 2 2, .nilIface] ∧ σ = [(b, cl (by8 [19, 1]) 5)]) := by
  refine (Write_p β Rs.c Rs.c_ok [] none 0 0 rfl rfl (fun x hx => by cases hx) (SL.nil8 _ _) (by omega)).mono ?_
  intro v σ h
  unfold WriR at h
  rw [wri_c] at h
  exact h
theorem awakeW_p (β : Nat → Option Obj) : Go.K.Tr Tryd.prog 15 [] β [] (fun z σ => z = .bool true ∧ σ = []) := awake_of β WriteD_p
theorem isBadT_p (β : Nat → Option Obj) (σ : Heap) (hty : TBE β) (b c : Nat) (what n : ByteArray) (e : Int) (he : e ≠ 0) (hL : (ErrF b c what n e).Lies β σ) :
    Go.K.Tr Tryd.prog 13 [.iface 100 (.pointer (some ⟨b, 0, none⟩)), .agg #[.int .i64 e, .string n], .string what] β σ (fun v s => v = .bool true ∧ s = σ) :=
  Tr.frzQ (isOk_p β n what).ok (fun β' g1 g2 => isBad_p β' (TBE.up g1 hty) b c what n e he (ErrT.Lies.frz (φ := σ) g1 g2 hL))
theorem CodeT_p (β : Nat → Option Obj) (σ : Heap) (hty : TBE β) (b c : Nat) (what n : ByteArray) (e : Int) (hL : (ErrF b c what n e).Lies β σ) :
    Go.K.Tr Tryd.prog 23 [.iface 100 (.pointer (some ⟨b, 0, none⟩))] β σ (fun v s => v = .int .i64 e ∧ s = σ) :=
  Tr.frzQ (CodeNil_p β).ok (fun β' g1 g2 => Code_p β' (TBE.up g1 hty) (ErrF b c what n e) (ErrT.Lies.frz (φ := σ) g1 g2 hL))
end Go.Proofs.YtnaclkdjchnbpaaDoor
end

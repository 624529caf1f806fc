/- Masks: the same, their size. -/
import Derived.Test.YthmiiamcmnciiaaDoorM3
namespace Go.Proofs.YthmiiamcmnciiaaDoor
open Go Go.K

theorem by64_inj {a b : List Nat} (h : by64 a = by64 b) : a = b := by
  unfold by64 at h
  refine (List.map_inj_right (fun x y e => ?_)).1 h
  simp only [Value.int.injEq, true_and] at e
  omega
theorem cel64 {β : Nat → Option Obj} {σ : Heap} {f : Nat → Bool} {nw b k : Nat} (h : ∀ (j : Nat) v, (by64 (words f nw))[j]? = some v → Cel β σ b (0 + j) v) (hk : k < nw) : Cel β σ b (0 + (k : Int).toNat * 1) (.int .u64 (W f k : Int)) := by
  rw [show (k : Int).toNat * 1 = k by omega]; exact h _ _ (by64_get hk)
theorem Equal_p (β : Nat → Option Obj) (σ : Heap) (n1 n2 b1 b2 : Nat) (f g : Nat → Bool) (h1 : ∀ (j : Nat) v, (by64 (words f n1))[j]? = some v → Cel β σ b1 (0 + j) v) (h2 : ∀ (j : Nat) v, (by64 (words g n2))[j]? = some v → Cel β σ b2 (0 + j) v) (hn1 : n1 ≤ 65536) (hn2 : n2 ≤ 65536) :
    Go.K.Tr Tryd.prog 43 [.slice (some ⟨b1, 0, none⟩) n1 n1, .slice (some ⟨b2, 0, none⟩) n2 n2] β σ (fun v σ' => v = .bool (decide (words f n1 = words g n2)) ∧ σ' = σ) := by
  refine Tr.of_body Tryd.tt (args := [.slice (some ⟨b1, 0, none⟩) n1 n1, .slice (some ⟨b2, 0, none⟩) n2 n2]) (fr := [(0, true, .slice (some ⟨b1, 0, none⟩) n1 n1), (1, true, .slice (some ⟨b2, 0, none⟩) n2 n2)]) Tryd.func43 rfl (by decide) rfl Tryd.ntmps43 rfl rfl ?_
  intro E hE
  subst hE
  by_cases hn : n1 = n2
  · subst hn
    have htr := trivial
    repeat' (first
      | refine KW.seq ?_
      | refine KW.region ?_
      | refine KO.nil ?_
      | refine At.then_normal ?_
      | refine KW.skip ?_
      | refine KW.ret ?_
      | refine At.then_ret ?_
      | refine KW.block ?_
      | refine KW.exit ?_
      | refine At.block_normal ?_
      | refine At.block_ret ?_
      | refine At.loop_ret ?_
      | refine At.then_exit ?_
      | refine At.block_here rfl ?_
      | refine At.block_there rfl ?_
      | refine At.loop_exit ?_
      | refine At.cut_ret ?_
      | refine At.cutA_ret ?_
      | refine At.cutA_exit ?_
      | refine At.cut_exit ?_
      | (refine At.cut_same ?_; repeat' (first | exact FLe.nil _ | refine FLe.cons rfl rfl ?_))
      | refine KW.cond_t rfl (by first | with_reducible rfl | decide) ?_
      | refine KW.cond_f rfl (by first | with_reducible rfl | decide) ?_
      | refine KW.draw 0 (by decide +kernel) ?_
      | refine KW.drawU rfl (by decide +kernel) ?_
      | refine KD.zero ?_
      | ((first | apply KO.val rfl rfl rfl ?kq ?_ | apply KD.val rfl rfl rfl ?kq ?_); (case kq => ((first | ((first | apply qt_add rfl rfl rfl ?hi ?om | apply qt_addU rfl rfl rfl ?hi ?om | apply qt_indexAddr_arr rfl rfl rfl ?hi rfl rfl ?om | apply qt_indexAddr_slice rfl rfl rfl ?hi rfl rfl ?om); (case om => (intro hg; first | omega | (simp only [Bool.or_eq_false_iff, Bool.or_eq_true, Bool.and_eq_true, Bool.and_eq_false_iff, Bool.not_eq_true', Bool.not_eq_false', Bool.not_eq_true, Bool.not_eq_false, decide_eq_true_eq, decide_eq_false_iff_not, Bool.not_not, beq_iff_eq, bne_iff_ne, Bool.beq_eq_decide_eq] at hg; omega)))) | apply qt_ev rfl ?hi | ((first | apply qt_load1 rfl rfl ?hi rfl rfl ?hm ?hc | apply qt_loadN rfl rfl ?hi rfl rfl rfl ?hm ?hc); (case hm => repeat (first | exact List.Mem.head _ | apply List.Mem.tail _ | apply List.mem_append_right _)); (case hc => rfl)) | apply qt_eqs rfl rfl rfl ?hi rfl (Or.inl rfl) | apply qt_nes rfl rfl rfl ?hi rfl (Or.inl rfl)); (case hi => (intro h; (repeat' (first | with_reducible exact alln | with_reducible refine allc ?_ ?_ | with_reducible refine andi ?_ ?_)); all_goals (first | with_reducible rfl | with_reducible exact h | with_reducible exact andl h | with_reducible exact andr h | with_reducible exact andl (andl h) | (simp only [h, Bool.and_self]; done) | (simp [h]; done) | (simp_all; done)))))))
      | (refine KW.cond rfl ?_ ?_ <;> (intro hc; try simp only [Bool.or_eq_false_iff, Bool.or_eq_true, Bool.and_eq_true, Bool.and_eq_false_iff, Bool.not_eq_true', Bool.not_eq_false', Bool.not_eq_true, Bool.not_eq_false, decide_eq_true_eq, decide_eq_false_iff_not, Bool.not_not, beq_iff_eq, bne_iff_ne, Bool.beq_eq_decide_eq] at hc))
      | exact absurd trivial ‹¬True›
      | (exfalso; omega)
      | fail)
    refine KW.loop (fun j : Nat => j ≤ n1 ∧ (words f n1).take j = (words g n1).take j) (fun j => ([(13, true, .int .i64 (j : Int)), (12, true, .int .i64 (n1 : Int)), (0, true, .slice (some ⟨b1, 0, none⟩) n1 n1), (1, true, .slice (some ⟨b2, 0, none⟩) n1 n1)], σ)) (fun j => n1 - j) 0
      ⟨Nat.zero_le _, by simp⟩ (Le.perm (by repeat' (first | exact FLe.nil _ | refine FLe.cons rfl rfl ?_)) (by classical exact List.perm_iff_count.2 (fun _ => by first | (simp only [List.count_append, List.count_cons, List.count_nil, List.append_assoc, List.cons_append, List.nil_append]; done) | (simp only [List.count_append, List.count_cons, List.count_nil, List.append_assoc, List.cons_append, List.nil_append]; omega)))) ?_
    rintro j ⟨hj, he⟩
    dsimp only
    by_cases hjn : j < n1
    · have h3 := cel64 h1 hjn
      have h4 := cel64 h2 hjn
      obtain ⟨A, hA⟩ : ∃ A, A = W f j := ⟨_, rfl⟩
      obtain ⟨B, hB⟩ : ∃ B, B = W g j := ⟨_, rfl⟩
      rw [← hA] at h3
      rw [← hB] at h4
      repeat' (first
        | refine KW.seq ?_
        | refine KW.region ?_
        | refine KO.nil ?_
        | refine At.then_normal ?_
        | refine KW.skip ?_
        | refine KW.ret ?_
        | refine At.then_ret ?_
        | refine KW.block ?_
        | refine KW.exit ?_
        | refine At.block_normal ?_
        | refine At.block_ret ?_
        | refine At.loop_ret ?_
        | refine At.then_exit ?_
        | refine At.block_here rfl ?_
        | refine At.block_there rfl ?_
        | refine At.loop_exit ?_
        | refine At.cut_ret ?_
        | refine At.cutA_ret ?_
        | refine At.cutA_exit ?_
        | refine At.cut_exit ?_
        | (refine At.cut_same ?_; repeat' (first | exact FLe.nil _ | refine FLe.cons rfl rfl ?_))
        | refine KW.cond_t rfl (by first | with_reducible rfl | decide) ?_
        | refine KW.cond_f rfl (by first | with_reducible rfl | decide) ?_
        | refine KW.draw 0 (by decide +kernel) ?_
        | refine KW.drawU rfl (by decide +kernel) ?_
        | refine KD.zero ?_
        | ((first | apply KO.val rfl rfl rfl ?kq ?_ | apply KD.val rfl rfl rfl ?kq ?_); (case kq => ((first | ((first | apply qt_add rfl rfl rfl ?hi ?om | apply qt_addU rfl rfl rfl ?hi ?om | apply qt_indexAddr_arr rfl rfl rfl ?hi rfl rfl ?om | apply qt_indexAddr_slice rfl rfl rfl ?hi rfl rfl ?om); (case om => (intro hg; first | omega | (simp only [Bool.or_eq_false_iff, Bool.or_eq_true, Bool.and_eq_true, Bool.and_eq_false_iff, Bool.not_eq_true', Bool.not_eq_false', Bool.not_eq_true, Bool.not_eq_false, decide_eq_true_eq, decide_eq_false_iff_not, Bool.not_not, beq_iff_eq, bne_iff_ne, Bool.beq_eq_decide_eq] at hg; omega)))) | apply qt_ev rfl ?hi | ((first | apply qt_load1 rfl rfl ?hi rfl rfl ?hm ?hc | apply qt_loadN rfl rfl ?hi rfl rfl rfl ?hm ?hc); (case hm => repeat (first | exact List.Mem.head _ | apply List.Mem.tail _ | apply List.mem_append_right _)); (case hc => rfl)) | apply qt_eqs rfl rfl rfl ?hi rfl (Or.inl rfl) | apply qt_nes rfl rfl rfl ?hi rfl (Or.inl rfl)); (case hi => (intro h; (repeat' (first | with_reducible exact alln | with_reducible refine allc ?_ ?_ | with_reducible refine andi ?_ ?_)); all_goals (first | with_reducible rfl | with_reducible exact h | with_reducible exact andl h | with_reducible exact andr h | with_reducible exact andl (andl h) | (simp only [h, Bool.and_self]; done) | (simp [h]; done) | (simp_all; done)))))))
        | (refine KW.cond rfl ?_ ?_ <;> (intro hc; try simp only [Bool.or_eq_false_iff, Bool.or_eq_true, Bool.and_eq_true, Bool.and_eq_false_iff, Bool.not_eq_true', Bool.not_eq_false', Bool.not_eq_true, Bool.not_eq_false, decide_eq_true_eq, decide_eq_false_iff_not, Bool.not_not, beq_iff_eq, bne_iff_ne, Bool.beq_eq_decide_eq] at hc))
        | exact absurd trivial ‹¬True›
        | (exfalso; omega)
        | ((first | apply KO.val (g := true) rfl rfl rfl | apply KD.val (g := true) rfl rfl rfl | apply KDE.val (g := true) rfl rfl rfl | apply KDE.val rfl rfl rfl | apply KDH.val0 (g := true) rfl rfl rfl | apply KDH.val1 (g := true) rfl rfl rfl | apply KD.val rfl rfl rfl | apply KDH.val0 rfl rfl rfl); (apply qt_loadN_cel rfl rfl ?hi rfl rfl rfl ?hl ?hc); (case hc => first | exact fun _ => (h3) | exact fun _ => (h4) | exact fun hg => (h3) | exact fun hg => (h4)); (case hl => rfl); (case hi => (first | exact fun _ => rfl | (intro h; first | rfl | exact h | (simp [h]; done) | (simp_all; done)))))
        | ((first | apply KO.val (g := true) rfl rfl rfl | apply KD.val (g := true) rfl rfl rfl | apply KDE.val (g := true) rfl rfl rfl | apply KDE.val rfl rfl rfl | apply KDH.val0 (g := true) rfl rfl rfl | apply KDH.val1 (g := true) rfl rfl rfl | apply KD.val rfl rfl rfl | apply KDH.val0 rfl rfl rfl); (apply qt_load1_cel rfl rfl ?hi rfl rfl ?hc); (case hc => first | exact fun _ => (h3) | exact fun _ => (h4) | exact fun hg => (h3) | exact fun hg => (h4)); (case hi => (first | exact fun _ => rfl | (intro h; first | rfl | exact h | (simp [h]; done) | (simp_all; done)))))
        | fail)
      · ((first | apply At.done_ret | apply At.done_normal); (focus (repeat' (first | exact ResVs.nil' | apply ResVs.cons' | exact ResV.tmp' rfl | (apply ResV.cell1 rfl ?hm rfl rfl ?hc; (case hm => repeat (first | exact List.Mem.head _ | apply List.Mem.tail _ | apply List.mem_append_right _)); (case hc => rfl)) | (apply ResV.cellN rfl ?hm rfl rfl rfl ?hc; (case hm => repeat (first | exact List.Mem.head _ | apply List.Mem.tail _ | apply List.mem_append_right _)); (case hc => rfl))))); dsimp only [resVal])
        have : words f n1 ≠ words g n1 := fun e => by
          have h5 := words_get (f := f) hjn
          rw [e, words_get hjn] at h5
          have := Option.some.inj h5
          omega
        simp [this]
      · refine At.loop_on (j + 1) ⟨by omega, ?_⟩ (by omega) (Le.perm (by repeat' (first | exact FLe.nil _ | refine FLe.cons rfl rfl ?_)) (by classical exact List.perm_iff_count.2 (fun _ => by first | (simp only [List.count_append, List.count_cons, List.count_nil, List.append_assoc, List.cons_append, List.nil_append]; done) | (simp only [List.count_append, List.count_cons, List.count_nil, List.append_assoc, List.cons_append, List.nil_append]; omega))))
        rw [List.take_add_one, List.take_add_one, he, words_get hjn, words_get hjn]
        have : W f j = W g j := by omega
        rw [this]
    · have htr := trivial
      repeat' (first
        | refine KW.seq ?_
        | refine KW.region ?_
        | refine KO.nil ?_
        | refine At.then_normal ?_
        | refine KW.skip ?_
        | refine KW.ret ?_
        | refine At.then_ret ?_
        | refine KW.block ?_
        | refine KW.exit ?_
        | refine At.block_normal ?_
        | refine At.block_ret ?_
        | refine At.loop_ret ?_
        | refine At.then_exit ?_
        | refine At.block_here rfl ?_
        | refine At.block_there rfl ?_
        | refine At.loop_exit ?_
        | refine At.cut_ret ?_
        | refine At.cutA_ret ?_
        | refine At.cutA_exit ?_
        | refine At.cut_exit ?_
        | (refine At.cut_same ?_; repeat' (first | exact FLe.nil _ | refine FLe.cons rfl rfl ?_))
        | refine KW.cond_t rfl (by first | with_reducible rfl | decide) ?_
        | refine KW.cond_f rfl (by first | with_reducible rfl | decide) ?_
        | refine KW.draw 0 (by decide +kernel) ?_
        | refine KW.drawU rfl (by decide +kernel) ?_
        | refine KD.zero ?_
        | ((first | apply KO.val rfl rfl rfl ?kq ?_ | apply KD.val rfl rfl rfl ?kq ?_); (case kq => ((first | ((first | apply qt_add rfl rfl rfl ?hi ?om | apply qt_addU rfl rfl rfl ?hi ?om | apply qt_indexAddr_arr rfl rfl rfl ?hi rfl rfl ?om | apply qt_indexAddr_slice rfl rfl rfl ?hi rfl rfl ?om); (case om => (intro hg; first | omega | (simp only [Bool.or_eq_false_iff, Bool.or_eq_true, Bool.and_eq_true, Bool.and_eq_false_iff, Bool.not_eq_true', Bool.not_eq_false', Bool.not_eq_true, Bool.not_eq_false, decide_eq_true_eq, decide_eq_false_iff_not, Bool.not_not, beq_iff_eq, bne_iff_ne, Bool.beq_eq_decide_eq] at hg; omega)))) | apply qt_ev rfl ?hi | ((first | apply qt_load1 rfl rfl ?hi rfl rfl ?hm ?hc | apply qt_loadN rfl rfl ?hi rfl rfl rfl ?hm ?hc); (case hm => repeat (first | exact List.Mem.head _ | apply List.Mem.tail _ | apply List.mem_append_right _)); (case hc => rfl)) | apply qt_eqs rfl rfl rfl ?hi rfl (Or.inl rfl) | apply qt_nes rfl rfl rfl ?hi rfl (Or.inl rfl)); (case hi => (intro h; (repeat' (first | with_reducible exact alln | with_reducible refine allc ?_ ?_ | with_reducible refine andi ?_ ?_)); all_goals (first | with_reducible rfl | with_reducible exact h | with_reducible exact andl h | with_reducible exact andr h | with_reducible exact andl (andl h) | (simp only [h, Bool.and_self]; done) | (simp [h]; done) | (simp_all; done)))))))
        | (refine KW.cond rfl ?_ ?_ <;> (intro hc; try simp only [Bool.or_eq_false_iff, Bool.or_eq_true, Bool.and_eq_true, Bool.and_eq_false_iff, Bool.not_eq_true', Bool.not_eq_false', Bool.not_eq_true, Bool.not_eq_false, decide_eq_true_eq, decide_eq_false_iff_not, Bool.not_not, beq_iff_eq, bne_iff_ne, Bool.beq_eq_decide_eq] at hc))
        | exact absurd trivial ‹¬True›
        | (exfalso; omega)
        | ((first | apply KO.val (g := true) rfl rfl rfl | apply KD.val (g := true) rfl rfl rfl | apply KDE.val (g := true) rfl rfl rfl | apply KDE.val rfl rfl rfl | apply KDH.val0 (g := true) rfl rfl rfl | apply KDH.val1 (g := true) rfl rfl rfl | apply KD.val rfl rfl rfl | apply KDH.val0 rfl rfl rfl); (apply qt_loadN_cel rfl rfl ?hi rfl rfl rfl ?hl ?hc); (case hc => first | exact fun _ => (h3) | exact fun _ => (h4) | exact fun hg => (h3) | exact fun hg => (h4)); (case hl => rfl); (case hi => (first | exact fun _ => rfl | (intro h; first | rfl | exact h | (simp [h]; done) | (simp_all; done)))))
        | ((first | apply KO.val (g := true) rfl rfl rfl | apply KD.val (g := true) rfl rfl rfl | apply KDE.val (g := true) rfl rfl rfl | apply KDE.val rfl rfl rfl | apply KDH.val0 (g := true) rfl rfl rfl | apply KDH.val1 (g := true) rfl rfl rfl | apply KD.val rfl rfl rfl | apply KDH.val0 rfl rfl rfl); (apply qt_load1_cel rfl rfl ?hi rfl rfl ?hc); (case hc => first | exact fun _ => (h3) | exact fun _ => (h4) | exact fun hg => (h3) | exact fun hg => (h4)); (case hi => (first | exact fun _ => rfl | (intro h; first | rfl | exact h | (simp [h]; done) | (simp_all; done)))))
        | fail)
      ((first | apply At.done_ret | apply At.done_normal); (focus (repeat' (first | exact ResVs.nil' | apply ResVs.cons' | exact ResV.tmp' rfl | (apply ResV.cell1 rfl ?hm rfl rfl ?hc; (case hm => repeat (first | exact List.Mem.head _ | apply List.Mem.tail _ | apply List.mem_append_right _)); (case hc => rfl)) | (apply ResV.cellN rfl ?hm rfl rfl rfl ?hc; (case hm => repeat (first | exact List.Mem.head _ | apply List.Mem.tail _ | apply List.mem_append_right _)); (case hc => rfl))))); dsimp only [resVal])
      have : j = n1 := by omega
      subst this
      rw [List.take_of_length_le (by rw [words_len]; omega), List.take_of_length_le (by rw [words_len]; omega)] at he
      simp [he]
  · have htr := trivial
    repeat' (first
      | refine KW.seq ?_
      | refine KW.region ?_
      | refine KO.nil ?_
      | refine At.then_normal ?_
      | refine KW.skip ?_
      | refine KW.ret ?_
      | refine At.then_ret ?_
      | refine KW.block ?_
      | refine KW.exit ?_
      | refine At.block_normal ?_
      | refine At.block_ret ?_
      | refine At.loop_ret ?_
      | refine At.then_exit ?_
      | refine At.block_here rfl ?_
      | refine At.block_there rfl ?_
      | refine At.loop_exit ?_
      | refine At.cut_ret ?_
      | refine At.cutA_ret ?_
      | refine At.cutA_exit ?_
      | refine At.cut_exit ?_
      | (refine At.cut_same ?_; repeat' (first | exact FLe.nil _ | refine FLe.cons rfl rfl ?_))
      | refine KW.cond_t rfl (by first | with_reducible rfl | decide) ?_
      | refine KW.cond_f rfl (by first | with_reducible rfl | decide) ?_
      | refine KW.draw 0 (by decide +kernel) ?_
      | refine KW.drawU rfl (by decide +kernel) ?_
      | refine KD.zero ?_
      | ((first | apply KO.val rfl rfl rfl ?kq ?_ | apply KD.val rfl rfl rfl ?kq ?_); (case kq => ((first | ((first | apply qt_add rfl rfl rfl ?hi ?om | apply qt_addU rfl rfl rfl ?hi ?om | apply qt_indexAddr_arr rfl rfl rfl ?hi rfl rfl ?om | apply qt_indexAddr_slice rfl rfl rfl ?hi rfl rfl ?om); (case om => (intro hg; first | omega | (simp only [Bool.or_eq_false_iff, Bool.or_eq_true, Bool.and_eq_true, Bool.and_eq_false_iff, Bool.not_eq_true', Bool.not_eq_false', Bool.not_eq_true, Bool.not_eq_false, decide_eq_true_eq, decide_eq_false_iff_not, Bool.not_not, beq_iff_eq, bne_iff_ne, Bool.beq_eq_decide_eq] at hg; omega)))) | apply qt_ev rfl ?hi | ((first | apply qt_load1 rfl rfl ?hi rfl rfl ?hm ?hc | apply qt_loadN rfl rfl ?hi rfl rfl rfl ?hm ?hc); (case hm => repeat (first | exact List.Mem.head _ | apply List.Mem.tail _ | apply List.mem_append_right _)); (case hc => rfl)) | apply qt_eqs rfl rfl rfl ?hi rfl (Or.inl rfl) | apply qt_nes rfl rfl rfl ?hi rfl (Or.inl rfl)); (case hi => (intro h; (repeat' (first | with_reducible exact alln | with_reducible refine allc ?_ ?_ | with_reducible refine andi ?_ ?_)); all_goals (first | with_reducible rfl | with_reducible exact h | with_reducible exact andl h | with_reducible exact andr h | with_reducible exact andl (andl h) | (simp only [h, Bool.and_self]; done) | (simp [h]; done) | (simp_all; done)))))))
      | (refine KW.cond rfl ?_ ?_ <;> (intro hc; try simp only [Bool.or_eq_false_iff, Bool.or_eq_true, Bool.and_eq_true, Bool.and_eq_false_iff, Bool.not_eq_true', Bool.not_eq_false', Bool.not_eq_true, Bool.not_eq_false, decide_eq_true_eq, decide_eq_false_iff_not, Bool.not_not, beq_iff_eq, bne_iff_ne, Bool.beq_eq_decide_eq] at hc))
      | exact absurd trivial ‹¬True›
      | (exfalso; omega)
      | ((first | apply KO.val (g := true) rfl rfl rfl | apply KD.val (g := true) rfl rfl rfl | apply KDE.val (g := true) rfl rfl rfl | apply KDE.val rfl rfl rfl | apply KDH.val0 (g := true) rfl rfl rfl | apply KDH.val1 (g := true) rfl rfl rfl | apply KD.val rfl rfl rfl | apply KDH.val0 rfl rfl rfl); (apply qt_loadN_cel rfl rfl ?hi rfl rfl rfl ?hl ?hc); (case hc => first | exact fun _ => (h3) | exact fun _ => (h4) | exact fun hg => (h3) | exact fun hg => (h4)); (case hl => rfl); (case hi => (first | exact fun _ => rfl | (intro h; first | rfl | exact h | (simp [h]; done) | (simp_all; done)))))
      | ((first | apply KO.val (g := true) rfl rfl rfl | apply KD.val (g := true) rfl rfl rfl | apply KDE.val (g := true) rfl rfl rfl | apply KDE.val rfl rfl rfl | apply KDH.val0 (g := true) rfl rfl rfl | apply KDH.val1 (g := true) rfl rfl rfl | apply KD.val rfl rfl rfl | apply KDH.val0 rfl rfl rfl); (apply qt_load1_cel rfl rfl ?hi rfl rfl ?hc); (case hc => first | exact fun _ => (h3) | exact fun _ => (h4) | exact fun hg => (h3) | exact fun hg => (h4)); (case hi => (first | exact fun _ => rfl | (intro h; first | rfl | exact h | (simp [h]; done) | (simp_all; done)))))
      | fail)
    ((first | apply At.done_ret | apply At.done_normal); (focus (repeat' (first | exact ResVs.nil' | apply ResVs.cons' | exact ResV.tmp' rfl | (apply ResV.cell1 rfl ?hm rfl rfl ?hc; (case hm => repeat (first | exact List.Mem.head _ | apply List.Mem.tail _ | apply List.mem_append_right _)); (case hc => rfl)) | (apply ResV.cellN rfl ?hm rfl rfl rfl ?hc; (case hm => repeat (first | exact List.Mem.head _ | apply List.Mem.tail _ | apply List.mem_append_right _)); (case hc => rfl))))); dsimp only [resVal])
    have : words f n1 ≠ words g n2 := fun e => by
      have := congrArg List.length e
      rw [words_len, words_len] at this
      exact hn this
    simp [this]
theorem Same_p (β : Nat → Option Obj) (σ : Heap) (w h u v : Int) (n1 n2 bm bw bn bx : Nat) (f g : Nat → Bool) (hm : MaskR β σ w h n1 f bm bw) (hn : MaskR β σ u v n2 g bn bx) (hn1 : n1 ≤ 65536) (hn2 : n2 ≤ 65536) :
    Go.K.Tr Tryd.prog 31 [.pointer (some ⟨bm, 0, none⟩), .pointer (some ⟨bn, 0, none⟩)] β σ (fun z σ' => z = .bool ((decide (w = u) && decide (h = v)) && decide (words f n1 = words g n2)) ∧ σ' = σ) := by
  refine Tr.of_body Tryd.tt (args := [.pointer (some ⟨bm, 0, none⟩), .pointer (some ⟨bn, 0, none⟩)]) (fr := [(0, true, .pointer (some ⟨bm, 0, none⟩)), (1, true, .pointer (some ⟨bn, 0, none⟩))]) Tryd.func31 rfl (by decide) rfl Tryd.ntmps31 rfl rfl ?_
  intro E hE
  subst hE
  repeat' (first
    | refine KW.seq ?_
    | refine KW.region ?_
    | refine KO.nil ?_
    | refine At.then_normal ?_
    | refine KW.skip ?_
    | refine KW.ret ?_
    | refine At.then_ret ?_
    | refine KW.block ?_
    | refine KW.exit ?_
    | refine At.block_normal ?_
    | refine At.block_ret ?_
    | refine At.loop_ret ?_
    | refine At.then_exit ?_
    | refine At.block_here rfl ?_
    | refine At.block_there rfl ?_
    | refine At.loop_exit ?_
    | refine At.cut_ret ?_
    | refine At.cutA_ret ?_
    | refine At.cutA_exit ?_
    | refine At.cut_exit ?_
    | (refine At.cut_same ?_; repeat' (first | exact FLe.nil _ | refine FLe.cons rfl rfl ?_))
    | refine KW.cond_t rfl (by first | with_reducible rfl | decide) ?_
    | refine KW.cond_f rfl (by first | with_reducible rfl | decide) ?_
    | refine KW.draw 0 (by decide +kernel) ?_
    | refine KW.drawU rfl (by decide +kernel) ?_
    | refine KD.zero ?_
    | refine KD.skip' rfl (by first | with_reducible rfl | decide) rfl rfl ?_
    | refine KO.skip' rfl (by first | with_reducible rfl | decide) rfl rfl ?_
    | refine KO.skip0' rfl (by first | with_reducible rfl | decide) rfl ?_
    | refine KO.skipIn rfl (by first | with_reducible rfl | decide) rfl rfl ?_
    | refine KD.skipIn rfl (by first | with_reducible rfl | decide) rfl rfl ?_
    | ((first | apply KO.val rfl rfl rfl ?kq ?_ | apply KO.valIn rfl rfl rfl ?kq ?_ | apply KD.val rfl rfl rfl ?kq ?_ | apply KD.valIn rfl rfl rfl ?kq ?_); (case kq => ((first | apply qt_ev rfl ?hi | ((first | apply qt_load1 rfl rfl ?hi rfl rfl ?hm ?hc | apply qt_loadN rfl rfl ?hi rfl rfl rfl ?hm ?hc); (case hm => repeat (first | exact List.Mem.head _ | apply List.Mem.tail _ | apply List.mem_append_right _)); (case hc => rfl)) | refine qt_callQ rfl rfl ?hi (fun hg => Equal_p _ _ n1 n2 bw bx f g hm.wd hn.wd hn1 hn2) | apply qt_pick_t rfl rfl (by first | with_reducible rfl | decide) rfl ?hi | apply qt_pick_f rfl rfl (by first | with_reducible rfl | decide) rfl ?hi | ((first | apply qt_pick_and rfl rfl rfl ?hi ?pj | apply qt_pick_or rfl rfl rfl ?hi ?pj); (case pj => (intro h h2; first | with_reducible exact h2 | with_reducible exact andi h h2 | (rw [h2]; rfl) | (rw [h, h2]; rfl) | with_reducible rfl | (simp [h2]; done) | (simp_all; done)))) | apply qt_eqs rfl rfl rfl ?hi rfl (Or.inl rfl) | apply qt_nes rfl rfl rfl ?hi rfl (Or.inl rfl)); (case hi => (intro h; (repeat' (first | with_reducible exact alln | with_reducible refine allc ?_ ?_ | with_reducible refine andi ?_ ?_)); all_goals (first | with_reducible rfl | with_reducible exact h | with_reducible exact andl h | with_reducible exact andr h | with_reducible exact andl (andl h) | (simp only [h, Bool.and_self]; done) | (simp [h]; done) | (simp_all; done)))))))
    | (refine KW.cond rfl ?_ ?_ <;> (intro hc; try simp only [Bool.or_eq_false_iff, Bool.or_eq_true, Bool.and_eq_true, Bool.and_eq_false_iff, Bool.not_eq_true', Bool.not_eq_false', Bool.not_eq_true, Bool.not_eq_false, decide_eq_true_eq, decide_eq_false_iff_not, Bool.not_not, beq_iff_eq, bne_iff_ne, Bool.beq_eq_decide_eq] at hc))
    | exact absurd trivial ‹¬True›
    | ((first | apply KO.val (g := true) rfl rfl rfl | apply KD.val (g := true) rfl rfl rfl | apply KDE.val (g := true) rfl rfl rfl | apply KDE.val rfl rfl rfl | apply KDH.val0 (g := true) rfl rfl rfl | apply KDH.val1 (g := true) rfl rfl rfl | apply KO.val rfl rfl rfl | apply KD.val rfl rfl rfl | apply KDH.val0 rfl rfl rfl | apply KO.valIn rfl rfl rfl | apply KD.valIn rfl rfl rfl); (apply qt_loadN_cel rfl rfl ?hi rfl rfl rfl ?hl ?hc); (case hc => first | exact fun _ => (hm.sz) | exact fun _ => (hn.sz) | exact fun _ => (hm.sl) | exact fun _ => (hn.sl) | exact fun hg => (hm.sz) | exact fun hg => (hn.sz) | exact fun hg => (hm.sl) | exact fun hg => (hn.sl)); (case hl => rfl); (case hi => (first | exact fun _ => rfl | (intro h; first | rfl | exact h | (simp [h]; done) | (simp_all; done)))))
    | ((first | apply KO.val (g := true) rfl rfl rfl | apply KD.val (g := true) rfl rfl rfl | apply KDE.val (g := true) rfl rfl rfl | apply KDE.val rfl rfl rfl | apply KDH.val0 (g := true) rfl rfl rfl | apply KDH.val1 (g := true) rfl rfl rfl | apply KO.val rfl rfl rfl | apply KD.val rfl rfl rfl | apply KDH.val0 rfl rfl rfl | apply KO.valIn rfl rfl rfl | apply KD.valIn rfl rfl rfl); (apply qt_load1_cel rfl rfl ?hi rfl rfl ?hc); (case hc => first | exact fun _ => (hm.sz) | exact fun _ => (hn.sz) | exact fun _ => (hm.sl) | exact fun _ => (hn.sl) | exact fun hg => (hm.sz) | exact fun hg => (hn.sz) | exact fun hg => (hm.sl) | exact fun hg => (hn.sl)); (case hi => (first | exact fun _ => rfl | (intro h; first | rfl | exact h | (simp [h]; done) | (simp_all; done)))))
    | fail)
  ((first | apply At.done_ret | apply At.done_normal); (focus (repeat' (first | exact ResVs.nil' | apply ResVs.cons' | exact ResV.tmp' rfl | (apply ResV.cell1 rfl ?hm rfl rfl ?hc; (case hm => repeat (first | exact List.Mem.head _ | apply List.Mem.tail _ | apply List.mem_append_right _)); (case hc => rfl)) | (apply ResV.cellN rfl ?hm rfl rfl rfl ?hc; (case hm => repeat (first | exact List.Mem.head _ | apply List.Mem.tail _ | apply List.mem_append_right _)); (case hc => rfl))))); dsimp only [resVal])
  exact ⟨rfl, rfl⟩
theorem Size_p (β : Nat → Option Obj) (σ : Heap) (w h : Int) (nw bm bw : Nat) (f : Nat → Bool) (hm : MaskR β σ w h nw f bm bw) :
    Go.K.Tr Tryd.prog 13 [.pointer (some ⟨bm, 0, none⟩)] β σ (fun z σ' => z = .agg #[.int .i64 w, .int .i64 h] ∧ σ' = σ) := by
  refine Tr.sub ?_
  refine Tr.of_body Tryd.tt (args := [.pointer (some ⟨bm, 0, none⟩)]) (fr := [(0, true, .pointer (some ⟨bm, 0, none⟩))]) Tryd.func13 rfl (by decide) rfl Tryd.ntmps13 rfl rfl ?_
  intro E hE
  subst hE
  repeat' (first
    | refine KW.seq ?_
    | refine KW.region ?_
    | refine KO.nil ?_
    | refine At.then_normal ?_
    | refine KW.skip ?_
    | refine KW.ret ?_
    | refine At.then_ret ?_
    | refine KW.block ?_
    | refine KW.exit ?_
    | refine At.block_normal ?_
    | refine At.block_ret ?_
    | refine At.loop_ret ?_
    | refine At.then_exit ?_
    | refine At.block_here rfl ?_
    | refine At.block_there rfl ?_
    | refine At.loop_exit ?_
    | refine At.cut_ret ?_
    | refine At.cutA_ret ?_
    | refine At.cutA_exit ?_
    | refine At.cut_exit ?_
    | (refine At.cut_same ?_; repeat' (first | exact FLe.nil _ | refine FLe.cons rfl rfl ?_))
    | refine KW.cond_t rfl (by first | with_reducible rfl | decide) ?_
    | refine KW.cond_f rfl (by first | with_reducible rfl | decide) ?_
    | ((first | apply KO.val rfl rfl rfl ?kq ?_); (case kq => ((first | apply qt_ev rfl ?hi | ((first | apply qt_load1 rfl rfl ?hi rfl rfl ?hm ?hc | apply qt_loadN rfl rfl ?hi rfl rfl rfl ?hm ?hc); (case hm => repeat (first | exact List.Mem.head _ | apply List.Mem.tail _ | apply List.mem_append_right _)); (case hc => rfl)) | apply qt_build rfl rfl ?hi rfl | apply qt_eqs rfl rfl rfl ?hi rfl (Or.inl rfl) | apply qt_nes rfl rfl rfl ?hi rfl (Or.inl rfl)); (case hi => (intro h; (repeat' (first | with_reducible exact alln | with_reducible refine allc ?_ ?_ | with_reducible refine andi ?_ ?_)); all_goals (first | with_reducible rfl | with_reducible exact h | with_reducible exact andl h | with_reducible exact andr h | with_reducible exact andl (andl h) | (simp only [h, Bool.and_self]; done) | (simp [h]; done) | (simp_all; done)))))))
    | (refine KO.alloc rfl rfl rfl rfl rfl rfl ?_; intro _ _)
    | ((first | apply KO.store (i := 0) rfl rfl rfl rfl rfl rfl rfl rfl ?hl rfl ?hw ?ho ?hs | apply KO.store (i := 1) rfl rfl rfl rfl rfl rfl rfl rfl ?hl rfl ?hw ?ho ?hs | apply KO.store (i := 2) rfl rfl rfl rfl rfl rfl rfl rfl ?hl rfl ?hw ?ho ?hs | apply KO.store (i := 3) rfl rfl rfl rfl rfl rfl rfl rfl ?hl rfl ?hw ?ho ?hs | apply KO.store (i := 4) rfl rfl rfl rfl rfl rfl rfl rfl ?hl rfl ?hw ?ho ?hs | apply KO.store (i := 5) rfl rfl rfl rfl rfl rfl rfl rfl ?hl rfl ?hw ?ho ?hs | apply KO.store (i := 6) rfl rfl rfl rfl rfl rfl rfl rfl ?hl rfl ?hw ?ho ?hs | apply KO.store (i := 7) rfl rfl rfl rfl rfl rfl rfl rfl ?hl rfl ?hw ?ho ?hs); (case hl => rfl); (case hw => rfl); (case ho => rfl); (case hs => rfl))
    | (refine KW.cond rfl ?_ ?_ <;> (intro hc; try simp only [Bool.or_eq_false_iff, Bool.or_eq_true, Bool.and_eq_true, Bool.and_eq_false_iff, Bool.not_eq_true', Bool.not_eq_false', Bool.not_eq_true, Bool.not_eq_false, decide_eq_true_eq, decide_eq_false_iff_not, Bool.not_not, beq_iff_eq, bne_iff_ne, Bool.beq_eq_decide_eq] at hc))
    | exact absurd trivial ‹¬True›
    | ((first | apply KO.val (g := true) rfl rfl rfl); (apply qt_loadN_cel rfl rfl ?hi rfl rfl rfl ?hl ?hc); (case hc => first | exact fun _ => ((fun j v hv => (hm.sz j v hv).mono (fun _ hq => List.mem_cons_of_mem _ hq))) | exact fun hg => ((fun j v hv => (hm.sz j v hv).mono (fun _ hq => List.mem_cons_of_mem _ hq)))); (case hl => rfl); (case hi => (first | exact fun _ => rfl | (intro h; first | rfl | exact h | (simp [h]; done) | (simp_all; done)))))
    | ((first | apply KO.val (g := true) rfl rfl rfl); (apply qt_load1_cel rfl rfl ?hi rfl rfl ?hc); (case hc => first | exact fun _ => ((fun j v hv => (hm.sz j v hv).mono (fun _ hq => List.mem_cons_of_mem _ hq))) | exact fun hg => ((fun j v hv => (hm.sz j v hv).mono (fun _ hq => List.mem_cons_of_mem _ hq)))); (case hi => (first | exact fun _ => rfl | (intro h; first | rfl | exact h | (simp [h]; done) | (simp_all; done)))))
    | fail)
  ((first | apply At.done_ret | apply At.done_normal); (focus (repeat' (first | exact ResVs.nil' | apply ResVs.cons' | exact ResV.tmp' rfl | (apply ResV.cell1 rfl ?hm rfl rfl ?hc; (case hm => repeat (first | exact List.Mem.head _ | apply List.Mem.tail _ | apply List.mem_append_right _)); (case hc => rfl)) | (apply ResV.cellN rfl ?hm rfl rfl rfl ?hc; (case hm => repeat (first | exact List.Mem.head _ | apply List.Mem.tail _ | apply List.mem_append_right _)); (case hc => rfl))))); dsimp only [resVal])
  exact ⟨σ, List.sublist_cons_self _ _, rfl, rfl⟩
end Go.Proofs.YthmiiamcmnciiaaDoor

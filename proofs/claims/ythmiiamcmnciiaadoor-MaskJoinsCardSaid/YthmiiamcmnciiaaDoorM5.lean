/- Masks: added to. -/
import Derived.Test.YthmiiamcmnciiaaDoorM3
namespace Go.Proofs.YthmiiamcmnciiaaDoor
open Go Go.K

theorem celW {β : Nat → Option Obj} {σ : Heap} {f : Nat → Bool} {nw b k : Nat} (h : ∀ (j : Nat) v, (by64 (words f nw))[j]? = some v → Cel β σ b (0 + j) v) (hk : k < nw) : Cel β σ b (0 + (k : Int).toNat * 1) (.int .u64 (W f k : Int)) := by
  rw [show (k : Int).toNat * 1 = k by omega]; exact h _ _ (by64_get hk)
/-- The words of one set up to a place, of another one behind it. -/
def mixW (f g : Nat → Bool) (k : Nat) : Nat → Bool := fun i => if i < 64 * k then g i else f i
theorem mixW_step (f g : Nat → Bool) (k nw : Nat) : (by64 (words (mixW f g k) nw)).set k (.int .u64 (W g k : Int)) = by64 (words (mixW f g (k + 1)) nw) := by
  apply List.ext_getElem?
  intro j
  rw [List.getElem?_set]
  by_cases hjn : j < nw
  · by_cases h : k = j
    · subst h
      rw [if_pos rfl, if_pos (by rw [by64_len, words_len]; exact hjn), by64_get hjn]
      have : W (mixW f g (k + 1)) k = W g k := W_congr fun i hi => by rw [mixW, if_pos (by omega)]
      rw [this]
    · rw [if_neg h, by64_get hjn, by64_get hjn]
      have : W (mixW f g k) j = W (mixW f g (k + 1)) j := W_congr fun i hi => by
        unfold mixW
        rcases Nat.lt_or_gt_of_ne h with h2 | h2
        · rw [if_neg (by omega), if_neg (by omega)]
        · rw [if_pos (by omega), if_pos (by omega)]
      rw [this]
  · rw [List.getElem?_eq_none (l := by64 (words (mixW f g (k + 1)) nw)) (by rw [by64_len, words_len]; omega)]
    split
    · rw [if_neg (by rw [by64_len, words_len]; omega)]
    · rw [List.getElem?_eq_none (by rw [by64_len, words_len]; omega)]
theorem mixW_zero (f g : Nat → Bool) : mixW f g 0 = f := by funext i; simp [mixW]
theorem mixW_full (f g : Nat → Bool) (nw : Nat) : words (mixW f g nw) nw = words g nw := words_congr fun i hi => by rw [mixW, if_pos hi]
theorem mixW_W (f g : Nat → Bool) (k : Nat) : W (mixW f g k) k = W f k := W_congr fun i hi => by rw [mixW, if_neg (by omega)]
theorem cntB_congr {f g : Nat → Bool} : ∀ n, (∀ i, i < n → f i = g i) → cntB f n = cntB g n
  | 0, _ => rfl
  | n + 1, h => by rw [cntB, cntB, cntB_congr n (fun i hi => h i (by omega)), h n (by omega)]
theorem or_p (a b : Nat) (ha : a < 18446744073709551616) (hb : b < 18446744073709551616) (β : Nat → Option Obj) (σ : Heap) : Go.K.Tr Tryd.prog 45 [.int .u64 (a : Int), .int .u64 (b : Int)] β σ (fun v σ' => v = .int .u64 ((a ||| b : Nat) : Int) ∧ σ' = σ) := by
  refine Tr.of_body Tryd.tt (args := [.int .u64 (a : Int), .int .u64 (b : Int)]) (fr := [(0, true, .int .u64 (a : Int)), (1, true, .int .u64 (b : Int))]) Tryd.func45 rfl (by decide) rfl Tryd.ntmps45 rfl rfl ?_
  intro E _
  repeat' (first
    | refine KW.seq ?_
    | refine KW.region ?_
    | refine KO.nil ?_
    | refine At.then_normal ?_
    | refine KW.skip ?_
    | refine KW.ret ?_
    | refine At.then_ret ?_
    | refine KW.block ?_
    | refine KW.exit ?_
    | refine At.block_normal ?_
    | refine At.block_ret ?_
    | refine At.loop_ret ?_
    | refine At.then_exit ?_
    | refine At.block_here rfl ?_
    | refine At.block_there rfl ?_
    | refine At.loop_exit ?_
    | refine At.cut_ret ?_
    | refine At.cutA_ret ?_
    | refine At.cutA_exit ?_
    | refine At.cut_exit ?_
    | (refine At.cut_same ?_; repeat' (first | exact FLe.nil _ | refine FLe.cons rfl rfl ?_))
    | refine KW.cond_t rfl (by first | with_reducible rfl | decide) ?_
    | refine KW.cond_f rfl (by first | with_reducible rfl | decide) ?_
    | ((first | apply KO.val rfl rfl rfl ?kq ?_); (case kq => ((first | apply qt_ev rfl ?hi | apply qt_eqs rfl rfl rfl ?hi rfl (Or.inl rfl) | apply qt_nes rfl rfl rfl ?hi rfl (Or.inl rfl)); (case hi => (intro h; (repeat' (first | with_reducible exact alln | with_reducible refine allc ?_ ?_ | with_reducible refine andi ?_ ?_)); all_goals (first | with_reducible rfl | with_reducible exact h | with_reducible exact andl h | with_reducible exact andr h | with_reducible exact andl (andl h) | (simp only [h, Bool.and_self]; done) | (simp [h]; done) | (simp_all; done)))))))
    | (refine KW.cond rfl ?_ ?_ <;> (intro hc; try simp only [Bool.or_eq_false_iff, Bool.or_eq_true, Bool.and_eq_true, Bool.and_eq_false_iff, Bool.not_eq_true', Bool.not_eq_false', Bool.not_eq_true, Bool.not_eq_false, decide_eq_true_eq, decide_eq_false_iff_not, Bool.not_not, beq_iff_eq, bne_iff_ne, Bool.beq_eq_decide_eq] at hc))
    | exact absurd trivial ‹¬True›
    | fail)
  ((first | apply At.done_ret | apply At.done_normal); (focus (repeat' (first | exact ResVs.nil' | apply ResVs.cons' | exact ResV.tmp' rfl | (apply ResV.cell1 rfl ?hm rfl rfl ?hc; (case hm => repeat (first | exact List.Mem.head _ | apply List.Mem.tail _ | apply List.mem_append_right _)); (case hc => rfl)) | (apply ResV.cellN rfl ?hm rfl rfl rfl ?hc; (case hm => repeat (first | exact List.Mem.head _ | apply List.Mem.tail _ | apply List.mem_append_right _)); (case hc => rfl))))); dsimp only [resVal])
  rw [or_b ha hb]
  exact ⟨rfl, rfl⟩
theorem W_or2 (f g : Nat → Bool) (k : Nat) : W f k ||| W g k = W (fun i => f i || g i) k :=
  W_ext (Nat.or_lt_two_pow (n := 64) (W_lt f _) (W_lt g _)) fun i hi => by rw [Nat.testBit_or, W_tb, W_tb]; simp [hi]
theorem W_and2 (f g : Nat → Bool) (k : Nat) : W f k &&& W g k = W (fun i => f i && g i) k :=
  W_ext (Nat.lt_of_le_of_lt Nat.and_le_left (W_lt f _)) fun i hi => by rw [Nat.testBit_and, W_tb, W_tb]; simp [hi]
set_option maxHeartbeats 4000000 in
theorem cut_p (β : Nat → Option Obj) (w h : Int) (nw bm bw bn bx : Nat) (f g fg : Nat → Bool) (come : FuncId) (op : Nat → Nat → Nat) (hn : MaskR β [] w h nw g bn bx) (hb : nw ≤ 65536)
    (hop : ∀ k, op (W f k) (W g k) = W fg k) (hcome : ∀ a b : Nat, a < 18446744073709551616 → b < 18446744073709551616 → ∀ (β : Nat → Option Obj) (σ : Heap), Go.K.Tr Tryd.prog come [.int .u64 (a : Int), .int .u64 (b : Int)] β σ (fun v σ' => v = .int .u64 ((op a b : Nat) : Int) ∧ σ' = σ)) :
    Go.K.Tr Tryd.prog 44 [.pointer (some ⟨bm, 0, none⟩), .pointer (some ⟨bn, 0, none⟩), .func (.func come) #[] #[]] β (maskC bm bw nw w h f) (fun z σ' => z = .tuple #[.int .i64 (max (cntB fg (64 * nw) : Int) (cntB f (64 * nw) : Int) - min (cntB fg (64 * nw) : Int) (cntB f (64 * nw) : Int)), .int .i64 0] ∧ σ' = maskC bm bw nw w h fg) := by
  refine Tr.of_body Tryd.tt (args := [.pointer (some ⟨bm, 0, none⟩), .pointer (some ⟨bn, 0, none⟩), .func (.func come) #[] #[]]) (fr := [(0, true, .pointer (some ⟨bm, 0, none⟩)), (1, true, .pointer (some ⟨bn, 0, none⟩)), (2, true, .func (.func come) #[] #[])]) Tryd.func44 rfl (by decide) rfl Tryd.ntmps44 rfl rfl ?_
  intro E hE
  subst hE
  have hc0 := cntB_le f (64 * nw)
  have hc1 := cntB_le fg (64 * nw)
  repeat' (first
    | refine KW.seq ?_
    | refine KW.region ?_
    | refine KO.nil ?_
    | refine At.then_normal ?_
    | refine KW.skip ?_
    | refine KW.ret ?_
    | refine At.then_ret ?_
    | refine KW.block ?_
    | refine KW.exit ?_
    | refine At.block_normal ?_
    | refine At.block_ret ?_
    | refine At.loop_ret ?_
    | refine At.then_exit ?_
    | refine At.block_here rfl ?_
    | refine At.block_there rfl ?_
    | refine At.loop_exit ?_
    | refine At.cut_ret ?_
    | refine At.cutA_ret ?_
    | refine At.cutA_exit ?_
    | refine At.cut_exit ?_
    | (refine At.cut_same ?_; repeat' (first | exact FLe.nil _ | refine FLe.cons rfl rfl ?_))
    | refine KW.cond_t rfl (by first | with_reducible rfl | decide) ?_
    | refine KW.cond_f rfl (by first | with_reducible rfl | decide) ?_
    | refine KW.draw 0 (by decide +kernel) ?_
    | refine KW.drawU rfl (by decide +kernel) ?_
    | refine KD.zero ?_
    | refine KD.skip' rfl (by first | with_reducible rfl | decide) rfl rfl ?_
    | refine KO.skip' rfl (by first | with_reducible rfl | decide) rfl rfl ?_
    | refine KO.skip0' rfl (by first | with_reducible rfl | decide) rfl ?_
    | refine KO.skipIn rfl (by first | with_reducible rfl | decide) rfl rfl ?_
    | refine KD.skipIn rfl (by first | with_reducible rfl | decide) rfl rfl ?_
    | ((first | apply KO.val rfl rfl rfl ?kq ?_ | apply KO.valIn rfl rfl rfl ?kq ?_ | apply KD.val rfl rfl rfl ?kq ?_ | apply KD.valIn rfl rfl rfl ?kq ?_); (case kq => ((first | ((first | apply qt_add rfl rfl rfl ?hi ?om | apply qt_sub rfl rfl rfl ?hi ?om | apply qt_indexAddr_arr rfl rfl rfl ?hi rfl rfl ?om | apply qt_indexAddr_slice rfl rfl rfl ?hi rfl rfl ?om); (case om => (intro hg; first | omega | (simp only [Bool.or_eq_false_iff, Bool.or_eq_true, Bool.and_eq_true, Bool.and_eq_false_iff, Bool.not_eq_true', Bool.not_eq_false', Bool.not_eq_true, Bool.not_eq_false, decide_eq_true_eq, decide_eq_false_iff_not, Bool.not_not, beq_iff_eq, bne_iff_ne, Bool.beq_eq_decide_eq] at hg; omega)))) | apply qt_ev rfl ?hi | ((first | apply qt_load1 rfl rfl ?hi rfl rfl ?hm ?hc | apply qt_loadN rfl rfl ?hi rfl rfl rfl ?hm ?hc); (case hm => repeat (first | exact List.Mem.head _ | apply List.Mem.tail _ | apply List.mem_append_right _)); (case hc => rfl)) | refine qt_callQ rfl rfl ?hi (fun hg => Count_p _ _ w h nw f bm bw (MaskR.of (fun q hq => hq)) hb) | apply qt_pick_t rfl rfl (by first | with_reducible rfl | decide) rfl ?hi | apply qt_pick_f rfl rfl (by first | with_reducible rfl | decide) rfl ?hi | ((first | apply qt_pick_and rfl rfl rfl ?hi ?pj | apply qt_pick_or rfl rfl rfl ?hi ?pj); (case pj => (intro h h2; first | with_reducible exact h2 | with_reducible exact andi h h2 | (rw [h2]; rfl) | (rw [h, h2]; rfl) | with_reducible rfl | (simp [h2]; done) | (simp_all; done)))) | apply qt_eqs rfl rfl rfl ?hi rfl (Or.inl rfl) | apply qt_nes rfl rfl rfl ?hi rfl (Or.inl rfl)); (case hi => (intro h; (repeat' (first | with_reducible exact alln | with_reducible refine allc ?_ ?_ | with_reducible refine andi ?_ ?_)); all_goals (first | with_reducible rfl | with_reducible exact h | with_reducible exact andl h | with_reducible exact andr h | with_reducible exact andl (andl h) | (simp only [h, Bool.and_self]; done) | (simp [h]; done) | (simp_all; done)))))))
    | ((first | apply KO.store (i := 0) rfl rfl rfl rfl rfl rfl rfl rfl ?hl rfl ?hw ?ho ?hs | apply KO.store (i := 1) rfl rfl rfl rfl rfl rfl rfl rfl ?hl rfl ?hw ?ho ?hs | apply KO.store (i := 2) rfl rfl rfl rfl rfl rfl rfl rfl ?hl rfl ?hw ?ho ?hs | apply KO.store (i := 3) rfl rfl rfl rfl rfl rfl rfl rfl ?hl rfl ?hw ?ho ?hs | apply KO.store (i := 4) rfl rfl rfl rfl rfl rfl rfl rfl ?hl rfl ?hw ?ho ?hs | apply KO.store (i := 5) rfl rfl rfl rfl rfl rfl rfl rfl ?hl rfl ?hw ?ho ?hs | apply KO.store (i := 6) rfl rfl rfl rfl rfl rfl rfl rfl ?hl rfl ?hw ?ho ?hs | apply KO.store (i := 7) rfl rfl rfl rfl rfl rfl rfl rfl ?hl rfl ?hw ?ho ?hs); (case hl => rfl); (case hw => rfl); (case ho => rfl); (case hs => rfl))
    | (refine KW.cond rfl ?_ ?_ <;> (intro hc; try simp only [Bool.or_eq_false_iff, Bool.or_eq_true, Bool.and_eq_true, Bool.and_eq_false_iff, Bool.not_eq_true', Bool.not_eq_false', Bool.not_eq_true, Bool.not_eq_false, decide_eq_true_eq, decide_eq_false_iff_not, Bool.not_not, beq_iff_eq, bne_iff_ne, Bool.beq_eq_decide_eq] at hc))
    | exact absurd trivial ‹¬True›
    | (exfalso; simp at hc; done)
    | ((first | apply KO.val (g := true) rfl rfl rfl | apply KD.val (g := true) rfl rfl rfl | apply KDE.val (g := true) rfl rfl rfl | apply KDE.val rfl rfl rfl | apply KDH.val0 (g := true) rfl rfl rfl | apply KDH.val1 (g := true) rfl rfl rfl | apply KO.val rfl rfl rfl | apply KD.val rfl rfl rfl | apply KDH.val0 rfl rfl rfl | apply KO.valIn rfl rfl rfl | apply KD.valIn rfl rfl rfl); (apply qt_loadN_cel rfl rfl ?hi rfl rfl rfl ?hl ?hc); (case hc => first | exact fun _ => ((fun j v hv => (hn.sz j v hv).mono (fun _ hq => by cases hq))) | exact fun _ => ((hn.sl.mono (fun _ hq => by cases hq))) | exact fun _ => (((MaskR.of (f := f) (nw := nw) (w := w) (h := h) (bm := bm) (bw := bw) (fun q hq => hq)).sz)) | exact fun hg => ((fun j v hv => (hn.sz j v hv).mono (fun _ hq => by cases hq))) | exact fun hg => ((hn.sl.mono (fun _ hq => by cases hq))) | exact fun hg => (((MaskR.of (f := f) (nw := nw) (w := w) (h := h) (bm := bm) (bw := bw) (fun q hq => hq)).sz))); (case hl => rfl); (case hi => (first | exact fun _ => rfl | (intro h; first | rfl | exact h | (simp [h]; done) | (simp_all; done)))))
    | ((first | apply KO.val (g := true) rfl rfl rfl | apply KD.val (g := true) rfl rfl rfl | apply KDE.val (g := true) rfl rfl rfl | apply KDE.val rfl rfl rfl | apply KDH.val0 (g := true) rfl rfl rfl | apply KDH.val1 (g := true) rfl rfl rfl | apply KO.val rfl rfl rfl | apply KD.val rfl rfl rfl | apply KDH.val0 rfl rfl rfl | apply KO.valIn rfl rfl rfl | apply KD.valIn rfl rfl rfl); (apply qt_load1_cel rfl rfl ?hi rfl rfl ?hc); (case hc => first | exact fun _ => ((fun j v hv => (hn.sz j v hv).mono (fun _ hq => by cases hq))) | exact fun _ => ((hn.sl.mono (fun _ hq => by cases hq))) | exact fun _ => (((MaskR.of (f := f) (nw := nw) (w := w) (h := h) (bm := bm) (bw := bw) (fun q hq => hq)).sz)) | exact fun hg => ((fun j v hv => (hn.sz j v hv).mono (fun _ hq => by cases hq))) | exact fun hg => ((hn.sl.mono (fun _ hq => by cases hq))) | exact fun hg => (((MaskR.of (f := f) (nw := nw) (w := w) (h := h) (bm := bm) (bw := bw) (fun q hq => hq)).sz))); (case hi => (first | exact fun _ => rfl | (intro h; first | rfl | exact h | (simp [h]; done) | (simp_all; done)))))
    | fail)
  refine KW.loop (fun k : Nat => k ≤ nw) (fun k => ([(35, true, .int .i64 (k : Int)), (34, true, .int .i64 (nw : Int)), (33, true, .slice (some ⟨bx, 0, none⟩) nw nw), (8, true, .int .i64 (cntB f (64 * nw) : Int)), (0, true, .pointer (some ⟨bm, 0, none⟩)), (2, true, .func (.func come) #[] #[])], maskC bm bw nw w h (mixW f fg k))) (fun k => nw - k) 0
    (Nat.zero_le _) (Le.perm (by repeat' (first | exact FLe.nil _ | refine FLe.cons rfl rfl ?_)) (by rw [mixW_zero])) ?_
  intro k hk
  dsimp only
  have hcnt := Count_p E.β (maskC bm bw nw w h fg) w h nw fg bm bw (MaskR.of (fun q hq => hq)) hb
  have hfull : maskC bm bw nw w h (mixW f fg nw) = maskC bm bw nw w h fg := by unfold maskC; rw [mixW_full]
  by_cases hkn : k < nw
  · have h3 := (celW hn.wd hkn).mono (σ' := maskC bm bw nw w h (mixW f fg k)) (fun _ hq => by cases hq)
    have h4 := celW (MaskR.of (β := E.β) (f := mixW f fg k) (nw := nw) (w := w) (h := h) (bm := bm) (bw := bw) (fun q hq => hq)).wd hkn
    have h7 := (MaskR.of (β := E.β) (f := mixW f fg k) (nw := nw) (w := w) (h := h) (bm := bm) (bw := bw) (fun q hq => hq)).sl
    have h6 := mixW_step f fg k nw
    rw [mixW_W] at h4
    have hap := hop k
    have hlt1 := W_lt f k
    have hlt2 := W_lt g k
    obtain ⟨F1, hF1⟩ : ∃ F1, F1 = by64 (words (mixW f fg k) nw) := ⟨_, rfl⟩
    obtain ⟨F2, hF2⟩ : ∃ F2, F2 = by64 (words (mixW f fg (k + 1)) nw) := ⟨_, rfl⟩
    have hl1 : k < F1.length := by rw [hF1, by64_len, words_len]; exact hkn
    rw [← hF1, ← hF2] at h6
    obtain ⟨A, hA⟩ : ∃ A, A = W f k := ⟨_, rfl⟩
    obtain ⟨B, hB⟩ : ∃ B, B = W g k := ⟨_, rfl⟩
    obtain ⟨Z, hZ⟩ : ∃ Z, Z = W fg k := ⟨_, rfl⟩
    rw [← hA] at h4 hap hlt1
    rw [← hB] at h3 hap hlt2
    rw [← hZ] at hap h6
    have hco := hcome A B hlt1 hlt2
    rw [hap] at hco
    unfold maskC at h3 h4 h7 ⊢
    rw [← hF1] at h3 h4 h7 ⊢
    repeat' (first
      | refine KW.seq ?_
      | refine KW.region ?_
      | refine KO.nil ?_
      | refine At.then_normal ?_
      | refine KW.skip ?_
      | refine KW.ret ?_
      | refine At.then_ret ?_
      | refine KW.block ?_
      | refine KW.exit ?_
      | refine At.block_normal ?_
      | refine At.block_ret ?_
      | refine At.loop_ret ?_
      | refine At.then_exit ?_
      | refine At.block_here rfl ?_
      | refine At.block_there rfl ?_
      | refine At.loop_exit ?_
      | refine At.cut_ret ?_
      | refine At.cutA_ret ?_
      | refine At.cutA_exit ?_
      | refine At.cut_exit ?_
      | (refine At.cut_same ?_; repeat' (first | exact FLe.nil _ | refine FLe.cons rfl rfl ?_))
      | refine KW.cond_t rfl (by first | with_reducible rfl | decide) ?_
      | refine KW.cond_f rfl (by first | with_reducible rfl | decide) ?_
      | refine KW.draw 0 (by decide +kernel) ?_
      | refine KW.drawU rfl (by decide +kernel) ?_
      | refine KD.zero ?_
      | refine KD.skip' rfl (by first | with_reducible rfl | decide) rfl rfl ?_
      | refine KO.skip' rfl (by first | with_reducible rfl | decide) rfl rfl ?_
      | refine KO.skip0' rfl (by first | with_reducible rfl | decide) rfl ?_
      | refine KO.skipIn rfl (by first | with_reducible rfl | decide) rfl rfl ?_
      | refine KD.skipIn rfl (by first | with_reducible rfl | decide) rfl rfl ?_
      | ((first | apply KO.val rfl rfl rfl ?kq ?_ | apply KO.valIn rfl rfl rfl ?kq ?_ | apply KD.val rfl rfl rfl ?kq ?_ | apply KD.valIn rfl rfl rfl ?kq ?_); (case kq => ((first | ((first | apply qt_add rfl rfl rfl ?hi ?om | apply qt_sub rfl rfl rfl ?hi ?om | apply qt_indexAddr_arr rfl rfl rfl ?hi rfl rfl ?om | apply qt_indexAddr_slice rfl rfl rfl ?hi rfl rfl ?om); (case om => (intro hg; first | omega | (simp only [Bool.or_eq_false_iff, Bool.or_eq_true, Bool.and_eq_true, Bool.and_eq_false_iff, Bool.not_eq_true', Bool.not_eq_false', Bool.not_eq_true, Bool.not_eq_false, decide_eq_true_eq, decide_eq_false_iff_not, Bool.not_not, beq_iff_eq, bne_iff_ne, Bool.beq_eq_decide_eq] at hg; omega)))) | apply qt_ev rfl ?hi | ((first | apply qt_load1 rfl rfl ?hi rfl rfl ?hm ?hc | apply qt_loadN rfl rfl ?hi rfl rfl rfl ?hm ?hc); (case hm => repeat (first | exact List.Mem.head _ | apply List.Mem.tail _ | apply List.mem_append_right _)); (case hc => rfl)) | refine qt_callW rfl rfl rfl ?hi rfl (fun hg => hco _ _) | apply qt_pick_t rfl rfl (by first | with_reducible rfl | decide) rfl ?hi | apply qt_pick_f rfl rfl (by first | with_reducible rfl | decide) rfl ?hi | ((first | apply qt_pick_and rfl rfl rfl ?hi ?pj | apply qt_pick_or rfl rfl rfl ?hi ?pj); (case pj => (intro h h2; first | with_reducible exact h2 | with_reducible exact andi h h2 | (rw [h2]; rfl) | (rw [h, h2]; rfl) | with_reducible rfl | (simp [h2]; done) | (simp_all; done)))) | apply qt_eqs rfl rfl rfl ?hi rfl (Or.inl rfl) | apply qt_nes rfl rfl rfl ?hi rfl (Or.inl rfl)); (case hi => (intro h; (repeat' (first | with_reducible exact alln | with_reducible refine allc ?_ ?_ | with_reducible refine andi ?_ ?_)); all_goals (first | with_reducible rfl | with_reducible exact h | with_reducible exact andl h | with_reducible exact andr h | with_reducible exact andl (andl h) | (simp only [h, Bool.and_self]; done) | (simp [h]; done) | (simp_all; done)))))))
      | ((first | apply KO.store (i := 0) rfl rfl rfl rfl rfl rfl rfl rfl ?hl rfl ?hw ?ho ?hs | apply KO.store (i := 1) rfl rfl rfl rfl rfl rfl rfl rfl ?hl rfl ?hw ?ho ?hs | apply KO.store (i := 2) rfl rfl rfl rfl rfl rfl rfl rfl ?hl rfl ?hw ?ho ?hs | apply KO.store (i := 3) rfl rfl rfl rfl rfl rfl rfl rfl ?hl rfl ?hw ?ho ?hs | apply KO.store (i := 4) rfl rfl rfl rfl rfl rfl rfl rfl ?hl rfl ?hw ?ho ?hs | apply KO.store (i := 5) rfl rfl rfl rfl rfl rfl rfl rfl ?hl rfl ?hw ?ho ?hs | apply KO.store (i := 6) rfl rfl rfl rfl rfl rfl rfl rfl ?hl rfl ?hw ?ho ?hs | apply KO.store (i := 7) rfl rfl rfl rfl rfl rfl rfl rfl ?hl rfl ?hw ?ho ?hs); (case hl => rfl); (case hw => rfl); (case ho => rfl); (case hs => rfl))
      | (refine KW.cond rfl ?_ ?_ <;> (intro hc; try simp only [Bool.or_eq_false_iff, Bool.or_eq_true, Bool.and_eq_true, Bool.and_eq_false_iff, Bool.not_eq_true', Bool.not_eq_false', Bool.not_eq_true, Bool.not_eq_false, decide_eq_true_eq, decide_eq_false_iff_not, Bool.not_not, beq_iff_eq, bne_iff_ne, Bool.beq_eq_decide_eq] at hc))
      | exact absurd trivial ‹¬True›
      | (exfalso; simp at hc; done)
      | ((first | apply KO.val (g := true) rfl rfl rfl | apply KD.val (g := true) rfl rfl rfl | apply KDE.val (g := true) rfl rfl rfl | apply KDE.val rfl rfl rfl | apply KDH.val0 (g := true) rfl rfl rfl | apply KDH.val1 (g := true) rfl rfl rfl | apply KO.val rfl rfl rfl | apply KD.val rfl rfl rfl | apply KDH.val0 rfl rfl rfl | apply KO.valIn rfl rfl rfl | apply KD.valIn rfl rfl rfl); (apply qt_loadN_cel rfl rfl ?hi rfl rfl rfl ?hl ?hc); (case hc => first | exact fun _ => ((fun j v hv => (hn.sz j v hv).mono (fun _ hq => by cases hq))) | exact fun _ => ((hn.sl.mono (fun _ hq => by cases hq))) | exact fun _ => (((MaskR.of (f := f) (nw := nw) (w := w) (h := h) (bm := bm) (bw := bw) (fun q hq => hq)).sz)) | exact fun hg => ((fun j v hv => (hn.sz j v hv).mono (fun _ hq => by cases hq))) | exact fun hg => ((hn.sl.mono (fun _ hq => by cases hq))) | exact fun hg => (((MaskR.of (f := f) (nw := nw) (w := w) (h := h) (bm := bm) (bw := bw) (fun q hq => hq)).sz))); (case hl => rfl); (case hi => (first | exact fun _ => rfl | (intro h; first | rfl | exact h | (simp [h]; done) | (simp_all; done)))))
      | ((first | apply KO.val (g := true) rfl rfl rfl | apply KD.val (g := true) rfl rfl rfl | apply KDE.val (g := true) rfl rfl rfl | apply KDE.val rfl rfl rfl | apply KDH.val0 (g := true) rfl rfl rfl | apply KDH.val1 (g := true) rfl rfl rfl | apply KO.val rfl rfl rfl | apply KD.val rfl rfl rfl | apply KDH.val0 rfl rfl rfl | apply KO.valIn rfl rfl rfl | apply KD.valIn rfl rfl rfl); (apply qt_load1_cel rfl rfl ?hi rfl rfl ?hc); (case hc => first | exact fun _ => ((fun j v hv => (hn.sz j v hv).mono (fun _ hq => by cases hq))) | exact fun _ => ((hn.sl.mono (fun _ hq => by cases hq))) | exact fun _ => (((MaskR.of (f := f) (nw := nw) (w := w) (h := h) (bm := bm) (bw := bw) (fun q hq => hq)).sz)) | exact fun hg => ((fun j v hv => (hn.sz j v hv).mono (fun _ hq => by cases hq))) | exact fun hg => ((hn.sl.mono (fun _ hq => by cases hq))) | exact fun hg => (((MaskR.of (f := f) (nw := nw) (w := w) (h := h) (bm := bm) (bw := bw) (fun q hq => hq)).sz))); (case hi => (first | exact fun _ => rfl | (intro h; first | rfl | exact h | (simp [h]; done) | (simp_all; done)))))
      | (exfalso; omega)
      | ((first | apply KO.val (g := true) rfl rfl rfl | apply KD.val (g := true) rfl rfl rfl | apply KDE.val (g := true) rfl rfl rfl | apply KDE.val rfl rfl rfl | apply KDH.val0 (g := true) rfl rfl rfl | apply KDH.val1 (g := true) rfl rfl rfl | apply KO.val rfl rfl rfl | apply KD.val rfl rfl rfl | apply KDH.val0 rfl rfl rfl | apply KO.valIn rfl rfl rfl | apply KD.valIn rfl rfl rfl); (apply qt_loadN_cel rfl rfl ?hi rfl rfl rfl ?hl ?hc); (case hc => first | exact fun _ => (h3) | exact fun _ => (h4) | exact fun _ => (h7) | exact fun hg => (h3) | exact fun hg => (h4) | exact fun hg => (h7)); (case hl => rfl); (case hi => (first | exact fun _ => rfl | (intro h; first | rfl | exact h | (simp [h]; done) | (simp_all; done)))))
      | ((first | apply KO.val (g := true) rfl rfl rfl | apply KD.val (g := true) rfl rfl rfl | apply KDE.val (g := true) rfl rfl rfl | apply KDE.val rfl rfl rfl | apply KDH.val0 (g := true) rfl rfl rfl | apply KDH.val1 (g := true) rfl rfl rfl | apply KO.val rfl rfl rfl | apply KD.val rfl rfl rfl | apply KDH.val0 rfl rfl rfl | apply KO.valIn rfl rfl rfl | apply KD.valIn rfl rfl rfl); (apply qt_load1_cel rfl rfl ?hi rfl rfl ?hc); (case hc => first | exact fun _ => (h3) | exact fun _ => (h4) | exact fun _ => (h7) | exact fun hg => (h3) | exact fun hg => (h4) | exact fun hg => (h7)); (case hi => (first | exact fun _ => rfl | (intro h; first | rfl | exact h | (simp [h]; done) | (simp_all; done)))))
      | fail)
    have h8 := wr_set (v := .int .u64 (Z : Int)) hl1
    rw [h6] at h8
    refine KO.storeW (i := 1) (vs := [_]) (cs' := F2) rfl rfl rfl rfl rfl rfl rfl rfl rfl rfl ?_ rfl ?_
    · rw [show 0 + (k : Int).toNat * 1 = k by omega]; exact h8
    · skip
      repeat' (first
        | refine KW.seq ?_
        | refine KW.region ?_
        | refine KO.nil ?_
        | refine At.then_normal ?_
        | refine KW.skip ?_
        | refine KW.ret ?_
        | refine At.then_ret ?_
        | refine KW.block ?_
        | refine KW.exit ?_
        | refine At.block_normal ?_
        | refine At.block_ret ?_
        | refine At.loop_ret ?_
        | refine At.then_exit ?_
        | refine At.block_here rfl ?_
        | refine At.block_there rfl ?_
        | refine At.loop_exit ?_
        | refine At.cut_ret ?_
        | refine At.cutA_ret ?_
        | refine At.cutA_exit ?_
        | refine At.cut_exit ?_
        | (refine At.cut_same ?_; repeat' (first | exact FLe.nil _ | refine FLe.cons rfl rfl ?_))
        | refine KW.cond_t rfl (by first | with_reducible rfl | decide) ?_
        | refine KW.cond_f rfl (by first | with_reducible rfl | decide) ?_
        | refine KW.draw 0 (by decide +kernel) ?_
        | refine KW.drawU rfl (by decide +kernel) ?_
        | refine KD.zero ?_
        | refine KD.skip' rfl (by first | with_reducible rfl | decide) rfl rfl ?_
        | refine KO.skip' rfl (by first | with_reducible rfl | decide) rfl rfl ?_
        | refine KO.skip0' rfl (by first | with_reducible rfl | decide) rfl ?_
        | refine KO.skipIn rfl (by first | with_reducible rfl | decide) rfl rfl ?_
        | refine KD.skipIn rfl (by first | with_reducible rfl | decide) rfl rfl ?_
        | ((first | apply KO.val rfl rfl rfl ?kq ?_ | apply KO.valIn rfl rfl rfl ?kq ?_ | apply KD.val rfl rfl rfl ?kq ?_ | apply KD.valIn rfl rfl rfl ?kq ?_); (case kq => ((first | ((first | apply qt_add rfl rfl rfl ?hi ?om | apply qt_sub rfl rfl rfl ?hi ?om | apply qt_indexAddr_arr rfl rfl rfl ?hi rfl rfl ?om | apply qt_indexAddr_slice rfl rfl rfl ?hi rfl rfl ?om); (case om => (intro hg; first | omega | (simp only [Bool.or_eq_false_iff, Bool.or_eq_true, Bool.and_eq_true, Bool.and_eq_false_iff, Bool.not_eq_true', Bool.not_eq_false', Bool.not_eq_true, Bool.not_eq_false, decide_eq_true_eq, decide_eq_false_iff_not, Bool.not_not, beq_iff_eq, bne_iff_ne, Bool.beq_eq_decide_eq] at hg; omega)))) | apply qt_ev rfl ?hi | ((first | apply qt_load1 rfl rfl ?hi rfl rfl ?hm ?hc | apply qt_loadN rfl rfl ?hi rfl rfl rfl ?hm ?hc); (case hm => repeat (first | exact List.Mem.head _ | apply List.Mem.tail _ | apply List.mem_append_right _)); (case hc => rfl)) | apply qt_pick_t rfl rfl (by first | with_reducible rfl | decide) rfl ?hi | apply qt_pick_f rfl rfl (by first | with_reducible rfl | decide) rfl ?hi | ((first | apply qt_pick_and rfl rfl rfl ?hi ?pj | apply qt_pick_or rfl rfl rfl ?hi ?pj); (case pj => (intro h h2; first | with_reducible exact h2 | with_reducible exact andi h h2 | (rw [h2]; rfl) | (rw [h, h2]; rfl) | with_reducible rfl | (simp [h2]; done) | (simp_all; done)))) | apply qt_eqs rfl rfl rfl ?hi rfl (Or.inl rfl) | apply qt_nes rfl rfl rfl ?hi rfl (Or.inl rfl)); (case hi => (intro h; (repeat' (first | with_reducible exact alln | with_reducible refine allc ?_ ?_ | with_reducible refine andi ?_ ?_)); all_goals (first | with_reducible rfl | with_reducible exact h | with_reducible exact andl h | with_reducible exact andr h | with_reducible exact andl (andl h) | (simp only [h, Bool.and_self]; done) | (simp [h]; done) | (simp_all; done)))))))
        | ((first | apply KO.store (i := 0) rfl rfl rfl rfl rfl rfl rfl rfl ?hl rfl ?hw ?ho ?hs | apply KO.store (i := 1) rfl rfl rfl rfl rfl rfl rfl rfl ?hl rfl ?hw ?ho ?hs | apply KO.store (i := 2) rfl rfl rfl rfl rfl rfl rfl rfl ?hl rfl ?hw ?ho ?hs | apply KO.store (i := 3) rfl rfl rfl rfl rfl rfl rfl rfl ?hl rfl ?hw ?ho ?hs | apply KO.store (i := 4) rfl rfl rfl rfl rfl rfl rfl rfl ?hl rfl ?hw ?ho ?hs | apply KO.store (i := 5) rfl rfl rfl rfl rfl rfl rfl rfl ?hl rfl ?hw ?ho ?hs | apply KO.store (i := 6) rfl rfl rfl rfl rfl rfl rfl rfl ?hl rfl ?hw ?ho ?hs | apply KO.store (i := 7) rfl rfl rfl rfl rfl rfl rfl rfl ?hl rfl ?hw ?ho ?hs); (case hl => rfl); (case hw => rfl); (case ho => rfl); (case hs => rfl))
        | (refine KW.cond rfl ?_ ?_ <;> (intro hc; try simp only [Bool.or_eq_false_iff, Bool.or_eq_true, Bool.and_eq_true, Bool.and_eq_false_iff, Bool.not_eq_true', Bool.not_eq_false', Bool.not_eq_true, Bool.not_eq_false, decide_eq_true_eq, decide_eq_false_iff_not, Bool.not_not, beq_iff_eq, bne_iff_ne, Bool.beq_eq_decide_eq] at hc))
        | exact absurd trivial ‹¬True›
        | (exfalso; simp at hc; done)
        | ((first | apply KO.val (g := true) rfl rfl rfl | apply KD.val (g := true) rfl rfl rfl | apply KDE.val (g := true) rfl rfl rfl | apply KDE.val rfl rfl rfl | apply KDH.val0 (g := true) rfl rfl rfl | apply KDH.val1 (g := true) rfl rfl rfl | apply KO.val rfl rfl rfl | apply KD.val rfl rfl rfl | apply KDH.val0 rfl rfl rfl | apply KO.valIn rfl rfl rfl | apply KD.valIn rfl rfl rfl); (apply qt_loadN_cel rfl rfl ?hi rfl rfl rfl ?hl ?hc); (case hc => first | exact fun _ => ((fun j v hv => (hn.sz j v hv).mono (fun _ hq => by cases hq))) | exact fun _ => ((hn.sl.mono (fun _ hq => by cases hq))) | exact fun _ => (((MaskR.of (f := f) (nw := nw) (w := w) (h := h) (bm := bm) (bw := bw) (fun q hq => hq)).sz)) | exact fun hg => ((fun j v hv => (hn.sz j v hv).mono (fun _ hq => by cases hq))) | exact fun hg => ((hn.sl.mono (fun _ hq => by cases hq))) | exact fun hg => (((MaskR.of (f := f) (nw := nw) (w := w) (h := h) (bm := bm) (bw := bw) (fun q hq => hq)).sz))); (case hl => rfl); (case hi => (first | exact fun _ => rfl | (intro h; first | rfl | exact h | (simp [h]; done) | (simp_all; done)))))
        | ((first | apply KO.val (g := true) rfl rfl rfl | apply KD.val (g := true) rfl rfl rfl | apply KDE.val (g := true) rfl rfl rfl | apply KDE.val rfl rfl rfl | apply KDH.val0 (g := true) rfl rfl rfl | apply KDH.val1 (g := true) rfl rfl rfl | apply KO.val rfl rfl rfl | apply KD.val rfl rfl rfl | apply KDH.val0 rfl rfl rfl | apply KO.valIn rfl rfl rfl | apply KD.valIn rfl rfl rfl); (apply qt_load1_cel rfl rfl ?hi rfl rfl ?hc); (case hc => first | exact fun _ => ((fun j v hv => (hn.sz j v hv).mono (fun _ hq => by cases hq))) | exact fun _ => ((hn.sl.mono (fun _ hq => by cases hq))) | exact fun _ => (((MaskR.of (f := f) (nw := nw) (w := w) (h := h) (bm := bm) (bw := bw) (fun q hq => hq)).sz)) | exact fun hg => ((fun j v hv => (hn.sz j v hv).mono (fun _ hq => by cases hq))) | exact fun hg => ((hn.sl.mono (fun _ hq => by cases hq))) | exact fun hg => (((MaskR.of (f := f) (nw := nw) (w := w) (h := h) (bm := bm) (bw := bw) (fun q hq => hq)).sz))); (case hi => (first | exact fun _ => rfl | (intro h; first | rfl | exact h | (simp [h]; done) | (simp_all; done)))))
        | (exfalso; omega)
        | ((first | apply KO.val (g := true) rfl rfl rfl | apply KD.val (g := true) rfl rfl rfl | apply KDE.val (g := true) rfl rfl rfl | apply KDE.val rfl rfl rfl | apply KDH.val0 (g := true) rfl rfl rfl | apply KDH.val1 (g := true) rfl rfl rfl | apply KO.val rfl rfl rfl | apply KD.val rfl rfl rfl | apply KDH.val0 rfl rfl rfl | apply KO.valIn rfl rfl rfl | apply KD.valIn rfl rfl rfl); (apply qt_loadN_cel rfl rfl ?hi rfl rfl rfl ?hl ?hc); (case hc => first | exact fun _ => (h3) | exact fun _ => (h4) | exact fun _ => (h7) | exact fun hg => (h3) | exact fun hg => (h4) | exact fun hg => (h7)); (case hl => rfl); (case hi => (first | exact fun _ => rfl | (intro h; first | rfl | exact h | (simp [h]; done) | (simp_all; done)))))
        | ((first | apply KO.val (g := true) rfl rfl rfl | apply KD.val (g := true) rfl rfl rfl | apply KDE.val (g := true) rfl rfl rfl | apply KDE.val rfl rfl rfl | apply KDH.val0 (g := true) rfl rfl rfl | apply KDH.val1 (g := true) rfl rfl rfl | apply KO.val rfl rfl rfl | apply KD.val rfl rfl rfl | apply KDH.val0 rfl rfl rfl | apply KO.valIn rfl rfl rfl | apply KD.valIn rfl rfl rfl); (apply qt_load1_cel rfl rfl ?hi rfl rfl ?hc); (case hc => first | exact fun _ => (h3) | exact fun _ => (h4) | exact fun _ => (h7) | exact fun hg => (h3) | exact fun hg => (h4) | exact fun hg => (h7)); (case hi => (first | exact fun _ => rfl | (intro h; first | rfl | exact h | (simp [h]; done) | (simp_all; done)))))
        | fail)
      exact At.loop_on (k + 1) (by omega) (by omega) (Le.perm (by repeat' (first | exact FLe.nil _ | refine FLe.cons rfl rfl ?_)) (by rw [hF2]))
  · have htr := trivial
    have : k = nw := by omega
    rw [this, hfull]
    repeat' (first
      | refine KW.seq ?_
      | refine KW.region ?_
      | refine KO.nil ?_
      | refine At.then_normal ?_
      | refine KW.skip ?_
      | refine KW.ret ?_
      | refine At.then_ret ?_
      | refine KW.block ?_
      | refine KW.exit ?_
      | refine At.block_normal ?_
      | refine At.block_ret ?_
      | refine At.loop_ret ?_
      | refine At.then_exit ?_
      | refine At.block_here rfl ?_
      | refine At.block_there rfl ?_
      | refine At.loop_exit ?_
      | refine At.cut_ret ?_
      | refine At.cutA_ret ?_
      | refine At.cutA_exit ?_
      | refine At.cut_exit ?_
      | (refine At.cut_same ?_; repeat' (first | exact FLe.nil _ | refine FLe.cons rfl rfl ?_))
      | refine KW.cond_t rfl (by first | with_reducible rfl | decide) ?_
      | refine KW.cond_f rfl (by first | with_reducible rfl | decide) ?_
      | refine KW.draw 0 (by decide +kernel) ?_
      | refine KW.drawU rfl (by decide +kernel) ?_
      | refine KD.zero ?_
      | refine KD.skip' rfl (by first | with_reducible rfl | decide) rfl rfl ?_
      | refine KO.skip' rfl (by first | with_reducible rfl | decide) rfl rfl ?_
      | refine KO.skip0' rfl (by first | with_reducible rfl | decide) rfl ?_
      | refine KO.skipIn rfl (by first | with_reducible rfl | decide) rfl rfl ?_
      | refine KD.skipIn rfl (by first | with_reducible rfl | decide) rfl rfl ?_
      | ((first | apply KO.val rfl rfl rfl ?kq ?_ | apply KO.valIn rfl rfl rfl ?kq ?_ | apply KD.val rfl rfl rfl ?kq ?_ | apply KD.valIn rfl rfl rfl ?kq ?_); (case kq => ((first | ((first | apply qt_add rfl rfl rfl ?hi ?om | apply qt_sub rfl rfl rfl ?hi ?om | apply qt_indexAddr_arr rfl rfl rfl ?hi rfl rfl ?om | apply qt_indexAddr_slice rfl rfl rfl ?hi rfl rfl ?om); (case om => (intro hg; first | omega | (simp only [Bool.or_eq_false_iff, Bool.or_eq_true, Bool.and_eq_true, Bool.and_eq_false_iff, Bool.not_eq_true', Bool.not_eq_false', Bool.not_eq_true, Bool.not_eq_false, decide_eq_true_eq, decide_eq_false_iff_not, Bool.not_not, beq_iff_eq, bne_iff_ne, Bool.beq_eq_decide_eq] at hg; omega)))) | apply qt_ev rfl ?hi | ((first | apply qt_load1 rfl rfl ?hi rfl rfl ?hm ?hc | apply qt_loadN rfl rfl ?hi rfl rfl rfl ?hm ?hc); (case hm => repeat (first | exact List.Mem.head _ | apply List.Mem.tail _ | apply List.mem_append_right _)); (case hc => rfl)) | refine qt_callQ rfl rfl ?hi (fun hg => hcnt) | apply qt_pick_t rfl rfl (by first | with_reducible rfl | decide) rfl ?hi | apply qt_pick_f rfl rfl (by first | with_reducible rfl | decide) rfl ?hi | ((first | apply qt_pick_and rfl rfl rfl ?hi ?pj | apply qt_pick_or rfl rfl rfl ?hi ?pj); (case pj => (intro h h2; first | with_reducible exact h2 | with_reducible exact andi h h2 | (rw [h2]; rfl) | (rw [h, h2]; rfl) | with_reducible rfl | (simp [h2]; done) | (simp_all; done)))) | apply qt_eqs rfl rfl rfl ?hi rfl (Or.inl rfl) | apply qt_nes rfl rfl rfl ?hi rfl (Or.inl rfl)); (case hi => (intro h; (repeat' (first | with_reducible exact alln | with_reducible refine allc ?_ ?_ | with_reducible refine andi ?_ ?_)); all_goals (first | with_reducible rfl | with_reducible exact h | with_reducible exact andl h | with_reducible exact andr h | with_reducible exact andl (andl h) | (simp only [h, Bool.and_self]; done) | (simp [h]; done) | (simp_all; done)))))))
      | ((first | apply KO.store (i := 0) rfl rfl rfl rfl rfl rfl rfl rfl ?hl rfl ?hw ?ho ?hs | apply KO.store (i := 1) rfl rfl rfl rfl rfl rfl rfl rfl ?hl rfl ?hw ?ho ?hs | apply KO.store (i := 2) rfl rfl rfl rfl rfl rfl rfl rfl ?hl rfl ?hw ?ho ?hs | apply KO.store (i := 3) rfl rfl rfl rfl rfl rfl rfl rfl ?hl rfl ?hw ?ho ?hs | apply KO.store (i := 4) rfl rfl rfl rfl rfl rfl rfl rfl ?hl rfl ?hw ?ho ?hs | apply KO.store (i := 5) rfl rfl rfl rfl rfl rfl rfl rfl ?hl rfl ?hw ?ho ?hs | apply KO.store (i := 6) rfl rfl rfl rfl rfl rfl rfl rfl ?hl rfl ?hw ?ho ?hs | apply KO.store (i := 7) rfl rfl rfl rfl rfl rfl rfl rfl ?hl rfl ?hw ?ho ?hs); (case hl => rfl); (case hw => rfl); (case ho => rfl); (case hs => rfl))
      | (refine KW.cond rfl ?_ ?_ <;> (intro hc; try simp only [Bool.or_eq_false_iff, Bool.or_eq_true, Bool.and_eq_true, Bool.and_eq_false_iff, Bool.not_eq_true', Bool.not_eq_false', Bool.not_eq_true, Bool.not_eq_false, decide_eq_true_eq, decide_eq_false_iff_not, Bool.not_not, beq_iff_eq, bne_iff_ne, Bool.beq_eq_decide_eq] at hc))
      | exact absurd trivial ‹¬True›
      | (exfalso; simp at hc; done)
      | ((first | apply KO.val (g := true) rfl rfl rfl | apply KD.val (g := true) rfl rfl rfl | apply KDE.val (g := true) rfl rfl rfl | apply KDE.val rfl rfl rfl | apply KDH.val0 (g := true) rfl rfl rfl | apply KDH.val1 (g := true) rfl rfl rfl | apply KO.val rfl rfl rfl | apply KD.val rfl rfl rfl | apply KDH.val0 rfl rfl rfl | apply KO.valIn rfl rfl rfl | apply KD.valIn rfl rfl rfl); (apply qt_loadN_cel rfl rfl ?hi rfl rfl rfl ?hl ?hc); (case hc => first | exact fun _ => ((fun j v hv => (hn.sz j v hv).mono (fun _ hq => by cases hq))) | exact fun _ => ((hn.sl.mono (fun _ hq => by cases hq))) | exact fun _ => (((MaskR.of (f := f) (nw := nw) (w := w) (h := h) (bm := bm) (bw := bw) (fun q hq => hq)).sz)) | exact fun hg => ((fun j v hv => (hn.sz j v hv).mono (fun _ hq => by cases hq))) | exact fun hg => ((hn.sl.mono (fun _ hq => by cases hq))) | exact fun hg => (((MaskR.of (f := f) (nw := nw) (w := w) (h := h) (bm := bm) (bw := bw) (fun q hq => hq)).sz))); (case hl => rfl); (case hi => (first | exact fun _ => rfl | (intro h; first | rfl | exact h | (simp [h]; done) | (simp_all; done)))))
      | ((first | apply KO.val (g := true) rfl rfl rfl | apply KD.val (g := true) rfl rfl rfl | apply KDE.val (g := true) rfl rfl rfl | apply KDE.val rfl rfl rfl | apply KDH.val0 (g := true) rfl rfl rfl | apply KDH.val1 (g := true) rfl rfl rfl | apply KO.val rfl rfl rfl | apply KD.val rfl rfl rfl | apply KDH.val0 rfl rfl rfl | apply KO.valIn rfl rfl rfl | apply KD.valIn rfl rfl rfl); (apply qt_load1_cel rfl rfl ?hi rfl rfl ?hc); (case hc => first | exact fun _ => ((fun j v hv => (hn.sz j v hv).mono (fun _ hq => by cases hq))) | exact fun _ => ((hn.sl.mono (fun _ hq => by cases hq))) | exact fun _ => (((MaskR.of (f := f) (nw := nw) (w := w) (h := h) (bm := bm) (bw := bw) (fun q hq => hq)).sz)) | exact fun hg => ((fun j v hv => (hn.sz j v hv).mono (fun _ hq => by cases hq))) | exact fun hg => ((hn.sl.mono (fun _ hq => by cases hq))) | exact fun hg => (((MaskR.of (f := f) (nw := nw) (w := w) (h := h) (bm := bm) (bw := bw) (fun q hq => hq)).sz))); (case hi => (first | exact fun _ => rfl | (intro h; first | rfl | exact h | (simp [h]; done) | (simp_all; done)))))
      | (exfalso; omega)
      | ((first | apply KO.val (g := true) rfl rfl rfl | apply KD.val (g := true) rfl rfl rfl | apply KDE.val (g := true) rfl rfl rfl | apply KDE.val rfl rfl rfl | apply KDH.val0 (g := true) rfl rfl rfl | apply KDH.val1 (g := true) rfl rfl rfl | apply KO.val rfl rfl rfl | apply KD.val rfl rfl rfl | apply KDH.val0 rfl rfl rfl | apply KO.valIn rfl rfl rfl | apply KD.valIn rfl rfl rfl); (apply qt_loadN_cel rfl rfl ?hi rfl rfl rfl ?hl ?hc); (case hc => first | exact fun _ => (h3) | exact fun _ => (h4) | exact fun _ => (h7) | exact fun hg => (h3) | exact fun hg => (h4) | exact fun hg => (h7)); (case hl => rfl); (case hi => (first | exact fun _ => rfl | (intro h; first | rfl | exact h | (simp [h]; done) | (simp_all; done)))))
      | ((first | apply KO.val (g := true) rfl rfl rfl | apply KD.val (g := true) rfl rfl rfl | apply KDE.val (g := true) rfl rfl rfl | apply KDE.val rfl rfl rfl | apply KDH.val0 (g := true) rfl rfl rfl | apply KDH.val1 (g := true) rfl rfl rfl | apply KO.val rfl rfl rfl | apply KD.val rfl rfl rfl | apply KDH.val0 rfl rfl rfl | apply KO.valIn rfl rfl rfl | apply KD.valIn rfl rfl rfl); (apply qt_load1_cel rfl rfl ?hi rfl rfl ?hc); (case hc => first | exact fun _ => (h3) | exact fun _ => (h4) | exact fun _ => (h7) | exact fun hg => (h3) | exact fun hg => (h4) | exact fun hg => (h7)); (case hi => (first | exact fun _ => rfl | (intro h; first | rfl | exact h | (simp [h]; done) | (simp_all; done)))))
      | fail)
    ((first | apply At.done_ret | apply At.done_normal); (focus (repeat' (first | exact ResVs.nil' | apply ResVs.cons' | exact ResV.tmp' rfl | (apply ResV.cell1 rfl ?hm rfl rfl ?hc; (case hm => repeat (first | exact List.Mem.head _ | apply List.Mem.tail _ | apply List.mem_append_right _)); (case hc => rfl)) | (apply ResV.cellN rfl ?hm rfl rfl rfl ?hc; (case hm => repeat (first | exact List.Mem.head _ | apply List.Mem.tail _ | apply List.mem_append_right _)); (case hc => rfl))))); dsimp only [resVal])
    exact ⟨rfl, rfl⟩
theorem Add_p (β : Nat → Option Obj) (w h : Int) (nw bm bw bn bx : Nat) (f g : Nat → Bool) (hn : MaskR β [] w h nw g bn bx) (hb : nw ≤ 65536) :
    Go.K.Tr Tryd.prog 34 [.pointer (some ⟨bm, 0, none⟩), .pointer (some ⟨bn, 0, none⟩)] β (maskC bm bw nw w h f) (fun z σ' => z = .tuple #[.int .i64 (max (cntB (fun i => f i || g i) (64 * nw) : Int) (cntB f (64 * nw) : Int) - min (cntB (fun i => f i || g i) (64 * nw) : Int) (cntB f (64 * nw) : Int)), .int .i64 0] ∧ σ' = maskC bm bw nw w h (fun i => f i || g i)) := by
  refine Tr.of_body Tryd.tt (args := [.pointer (some ⟨bm, 0, none⟩), .pointer (some ⟨bn, 0, none⟩)]) (fr := [(0, true, .pointer (some ⟨bm, 0, none⟩)), (1, true, .pointer (some ⟨bn, 0, none⟩))]) Tryd.func34 rfl (by decide) rfl Tryd.ntmps34 rfl rfl ?_
  intro E hE
  subst hE
  repeat' (first
    | refine KW.seq ?_
    | refine KW.region ?_
    | refine KO.nil ?_
    | refine At.then_normal ?_
    | refine KW.skip ?_
    | refine KW.ret ?_
    | refine At.then_ret ?_
    | refine KW.block ?_
    | refine KW.exit ?_
    | refine At.block_normal ?_
    | refine At.block_ret ?_
    | refine At.loop_ret ?_
    | refine At.then_exit ?_
    | refine At.block_here rfl ?_
    | refine At.block_there rfl ?_
    | refine At.loop_exit ?_
    | refine At.cut_ret ?_
    | refine At.cutA_ret ?_
    | refine At.cutA_exit ?_
    | refine At.cut_exit ?_
    | (refine At.cut_same ?_; repeat' (first | exact FLe.nil _ | refine FLe.cons rfl rfl ?_))
    | refine KW.cond_t rfl (by first | with_reducible rfl | decide) ?_
    | refine KW.cond_f rfl (by first | with_reducible rfl | decide) ?_
    | ((first | apply KO.val rfl rfl rfl ?kq ?_); (case kq => ((first | apply qt_ev rfl ?hi | apply qt_eqs rfl rfl rfl ?hi rfl (Or.inl rfl) | apply qt_nes rfl rfl rfl ?hi rfl (Or.inl rfl)); (case hi => (intro h; (repeat' (first | with_reducible exact alln | with_reducible refine allc ?_ ?_ | with_reducible refine andi ?_ ?_)); all_goals (first | with_reducible rfl | with_reducible exact h | with_reducible exact andl h | with_reducible exact andr h | with_reducible exact andl (andl h) | (simp only [h, Bool.and_self]; done) | (simp [h]; done) | (simp_all; done)))))))
    | (refine KW.cond rfl ?_ ?_ <;> (intro hc; try simp only [Bool.or_eq_false_iff, Bool.or_eq_true, Bool.and_eq_true, Bool.and_eq_false_iff, Bool.not_eq_true', Bool.not_eq_false', Bool.not_eq_true, Bool.not_eq_false, decide_eq_true_eq, decide_eq_false_iff_not, Bool.not_not, beq_iff_eq, bne_iff_ne, Bool.beq_eq_decide_eq] at hc))
    | exact absurd trivial ‹¬True›
    | fail)
  refine KO.callF (maskC bm bw nw w h f) [] (by classical exact List.perm_iff_count.2 (fun _ => by first | (simp only [List.count_append, List.count_cons, List.count_nil, List.append_assoc, List.cons_append, List.nil_append]; done) | (simp only [List.count_append, List.count_cons, List.count_nil, List.append_assoc, List.cons_append, List.nil_append]; omega))) rfl rfl rfl rfl rfl rfl rfl (cut_p _ w h nw bm bw bn bx f g _ 45 _ hn hb (W_or2 f g) (fun a b ha hb β σ => or_p a b ha hb β σ)) ?_
  rintro _ _ ⟨rfl, rfl⟩
  repeat' (first
    | refine KW.seq ?_
    | refine KW.region ?_
    | refine KO.nil ?_
    | refine At.then_normal ?_
    | refine KW.skip ?_
    | refine KW.ret ?_
    | refine At.then_ret ?_
    | refine KW.block ?_
    | refine KW.exit ?_
    | refine At.block_normal ?_
    | refine At.block_ret ?_
    | refine At.loop_ret ?_
    | refine At.then_exit ?_
    | refine At.block_here rfl ?_
    | refine At.block_there rfl ?_
    | refine At.loop_exit ?_
    | refine At.cut_ret ?_
    | refine At.cutA_ret ?_
    | refine At.cutA_exit ?_
    | refine At.cut_exit ?_
    | (refine At.cut_same ?_; repeat' (first | exact FLe.nil _ | refine FLe.cons rfl rfl ?_))
    | refine KW.cond_t rfl (by first | with_reducible rfl | decide) ?_
    | refine KW.cond_f rfl (by first | with_reducible rfl | decide) ?_
    | ((first | apply KO.val rfl rfl rfl ?kq ?_); (case kq => ((first | apply qt_ev rfl ?hi | apply qt_eqs rfl rfl rfl ?hi rfl (Or.inl rfl) | apply qt_nes rfl rfl rfl ?hi rfl (Or.inl rfl)); (case hi => (intro h; (repeat' (first | with_reducible exact alln | with_reducible refine allc ?_ ?_ | with_reducible refine andi ?_ ?_)); all_goals (first | with_reducible rfl | with_reducible exact h | with_reducible exact andl h | with_reducible exact andr h | with_reducible exact andl (andl h) | (simp only [h, Bool.and_self]; done) | (simp [h]; done) | (simp_all; done)))))))
    | (refine KW.cond rfl ?_ ?_ <;> (intro hc; try simp only [Bool.or_eq_false_iff, Bool.or_eq_true, Bool.and_eq_true, Bool.and_eq_false_iff, Bool.not_eq_true', Bool.not_eq_false', Bool.not_eq_true, Bool.not_eq_false, decide_eq_true_eq, decide_eq_false_iff_not, Bool.not_not, beq_iff_eq, bne_iff_ne, Bool.beq_eq_decide_eq] at hc))
    | exact absurd trivial ‹¬True›
    | fail)
  ((first | apply At.done_ret | apply At.done_normal); (focus (repeat' (first | exact ResVs.nil' | apply ResVs.cons' | exact ResV.tmp' rfl | (apply ResV.cell1 rfl ?hm rfl rfl ?hc; (case hm => repeat (first | exact List.Mem.head _ | apply List.Mem.tail _ | apply List.mem_append_right _)); (case hc => rfl)) | (apply ResV.cellN rfl ?hm rfl rfl rfl ?hc; (case hm => repeat (first | exact List.Mem.head _ | apply List.Mem.tail _ | apply List.mem_append_right _)); (case hc => rfl))))); dsimp only [resVal])
  exact ⟨rfl, by simp⟩
end Go.Proofs.YthmiiamcmnciiaaDoor

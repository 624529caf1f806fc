/- Strings split at a byte. -/
import Derived.Test.YtcnebanpnnblbaaDoorS1
namespace Go.Proofs.YtcnebanpnnblbaaDoor
open Go Go.K

/-- What stands between the bytes c. -/
def spl : List Nat → Nat → List (List Nat)
  | [], _ => [[]]
  | b :: l, c => if b = c then [] :: spl l c else match spl l c with
    | p :: ps => (b :: p) :: ps
    | [] => [[b]]
theorem spl_ne (l : List Nat) (c : Nat) : spl l c ≠ [] := by
  cases l with
  | nil => simp [spl]
  | cons b l =>
    unfold spl
    split
    · simp
    · split <;> simp
theorem spl_len : ∀ (l : List Nat) (c : Nat), (spl l c).length = l.count c + 1
  | [], _ => by simp [spl]
  | b :: l, c => by
    have := spl_len l c
    unfold spl
    by_cases h : b = c
    · rw [if_pos h, List.length_cons, this, List.count_cons]; simp [h]
    · rw [if_neg h, List.count_cons]
      rcases hs : spl l c with _ | ⟨p, ps⟩
      · exact absurd hs (spl_ne l c)
      · rw [hs] at this
        simp only [List.length_cons] at this ⊢
        simp [h]
        omega
theorem idx_none : ∀ (l : List Nat) (c : Nat), idxB l c = -1 ↔ l.count c = 0
  | [], _ => by simp [idxB]
  | b :: l, c => by
    have := idx_none l c
    have h2 := (idx_lt l c).2
    unfold idxB
    rw [List.count_cons]
    by_cases h : b = c
    · rw [if_pos h]; simp [h]
    · rw [if_neg h]
      by_cases h3 : idxB l c = -1
      · rw [if_pos h3]; simp [h, this.1 h3]
      · rw [if_neg h3]
        have : ¬ l.count c = 0 := fun e => h3 (this.2 e)
        simp [h]
        omega
theorem spl_none {l : List Nat} {c : Nat} (h : idxB l c = -1) : spl l c = [l] := by
  induction l with
  | nil => rfl
  | cons b l ih =>
    have h2 := (idx_lt l c).2
    unfold idxB at h
    by_cases hb : b = c
    · rw [if_pos hb] at h; omega
    · rw [if_neg hb] at h
      by_cases h3 : idxB l c = -1
      · unfold spl
        rw [if_neg hb, ih h3]
      · rw [if_neg h3] at h; omega
theorem spl_some {l : List Nat} {c : Nat} (h : 0 ≤ idxB l c) : spl l c = l.take (idxB l c).toNat :: spl (l.drop ((idxB l c).toNat + 1)) c := by
  induction l with
  | nil => simp [idxB] at h
  | cons b l ih =>
    have h2 := (idx_lt l c).2
    by_cases hb : b = c
    · have e : idxB (b :: l) c = 0 := by unfold idxB; rw [if_pos hb]
      rw [e]
      conv => lhs; unfold spl
      rw [if_pos hb]
      rfl
    · by_cases h3 : idxB l c = -1
      · unfold idxB at h
        rw [if_neg hb, if_pos h3] at h
        omega
      · have e : idxB (b :: l) c = idxB l c + 1 := by
          conv => lhs; unfold idxB
          rw [if_neg hb, if_neg h3]
        rw [e]
        have e2 : (idxB l c + 1).toNat = (idxB l c).toNat + 1 := by omega
        rw [e2, List.take_succ_cons, List.drop_succ_cons]
        conv => lhs; unfold spl
        rw [if_neg hb, ih (by omega)]
theorem count_some {l : List Nat} {c : Nat} (h : 0 ≤ idxB l c) : l.count c = (l.drop ((idxB l c).toNat + 1)).count c + 1 := by
  have h1 := spl_len l c
  have h2 := spl_len (l.drop ((idxB l c).toNat + 1)) c
  rw [spl_some h, List.length_cons, h2] at h1
  omega
theorem count_le (l : List Nat) (c : Nat) : l.count c ≤ l.length := List.count_le_length
/-- Strings, as they lie. -/
def svB (L : List (List Nat)) : List Value := L.map fun l => .string (bs l)
theorem svB_len (L : List (List Nat)) : (svB L).length = L.length := by simp [svB]
def arrS (pre : List (List Nat)) (n : Nat) : List Value := svB pre ++ List.replicate (n - pre.length) (.string ByteArray.empty)
theorem arrS_len (pre : List (List Nat)) (n : Nat) (h : pre.length ≤ n) : (arrS pre n).length = n := by
  unfold arrS
  rw [List.length_append, svB_len, List.length_replicate]
  omega
theorem arrS_set (pre : List (List Nat)) (n : Nat) (p : List Nat) (h : pre.length < n) : (arrS pre n).set pre.length (.string (bs p)) = arrS (pre ++ [p]) n := by
  unfold arrS
  rw [List.set_append_right _ _ (by rw [svB_len]; exact Nat.le_refl _), svB_len, Nat.sub_self]
  have e : n - pre.length = (n - (pre ++ [p]).length) + 1 := by rw [List.length_append, List.length_singleton]; omega
  rw [e, List.replicate_succ, List.set_cons_zero]
  unfold svB
  rw [List.map_append, List.append_assoc]
  rfl
theorem arrS_full (L : List (List Nat)) : arrS L L.length = svB L := by
  unfold arrS
  rw [Nat.sub_self]
  simp
structure S10 where
  i : Nat
  s : List Nat
  pre : List (List Nat)
set_option maxHeartbeats 4000000 in
theorem genSplit_p (β : Nat → Option Obj) (l : List Nat) (c : Nat) (h256 : c < 256) (hB : Byt l) (hm : l.length ≤ 1000000) : Go.K.Tr Tryd.prog 54 [.string (bs l), .string (bs [c]), .int .i64 0, .int .i64 (-1)] β [] (fun v s => ∃ b, v = .slice (some ⟨b, 0, none⟩) (l.count c + 1) (l.count c + 1) ∧ s = [(b, cl (svB (spl l c)) 9)]) := by
  refine Tr.sub ?_
  refine Tr.of_body Tryd.tt (args := [.string (bs l), .string (bs [c]), .int .i64 0, .int .i64 (-1)]) (fr := [(0, true, .string (bs l)), (1, true, .string (bs [c])), (2, true, .int .i64 0), (3, true, .int .i64 (-1))]) Tryd.func54 rfl (by decide) rfl Tryd.ntmps54 rfl rfl ?_
  intro E hE
  subst hE
  have h1 : (bs [c]).size = 1 := bs_size _
  have hse : ¬ bs [c] = ⟨#[]⟩ := fun h => by have := (bs_empty [c]).1 h; cases this
  have hC := Count_p E.β [] l c h256 hB
  have hcl := count_le l c
  have hsz := bs_size l
  repeat' (first | with_reducible refine KW.seq ?_ | with_reducible refine KW.region ?_ | with_reducible refine KO.nil ?_ | with_reducible refine At.then_normal ?_ | with_reducible refine KW.skip ?_ | with_reducible refine KW.ret ?_ | with_reducible refine At.then_ret ?_ | with_reducible refine KW.block ?_ | with_reducible refine KW.exit ?_ | with_reducible refine At.block_normal ?_ | with_reducible refine At.block_ret ?_ | with_reducible refine At.loop_ret ?_ | with_reducible refine At.then_exit ?_ | ((with_reducible refine At.block_here ?kbh ?_); (case kbh => rfl)) | ((with_reducible refine At.block_there ?kbt ?_); (case kbt => rfl)) | with_reducible refine At.loop_exit ?_ | with_reducible refine At.cut_ret ?_ | with_reducible refine At.cutA_ret ?_ | with_reducible refine At.cutA_exit ?_ | with_reducible refine At.cut_exit ?_ | ((with_reducible refine At.cut_same ?_); repeat' (first | exact FLe.nil _ | refine FLe.cons rfl rfl ?_)) | refine KW.cond_t rfl (by first | with_reducible rfl | decide) ?_ | refine KW.cond_f rfl (by first | with_reducible rfl | decide) ?_ | refine KW.scope ?_ | refine KW.label ?_ | refine At.scope_normal ?_ | refine At.scope_ret ?_ | refine At.scope_exit ?_ | ((first | apply KO.val rfl rfl rfl ?kq ?_); (case kq => ((first | ((first | apply qt_add rfl rfl rfl ?hi ?om | apply qt_sub rfl rfl rfl ?hi ?om | apply qt_indexAddr_arr rfl rfl rfl ?hi rfl rfl ?om | apply qt_indexAddr_slice rfl rfl rfl ?hi rfl rfl ?om | apply qt_sliceL rfl rfl rfl ?hi rfl rfl ?om | apply qt_sliceH rfl rfl rfl ?hi rfl rfl ?om | apply qt_sliceLH rfl rfl rfl rfl ?hi rfl rfl ?om | apply qt_sliceLHM rfl rfl rfl rfl rfl ?hi rfl rfl ?om | apply qt_sliceHM rfl rfl rfl rfl ?hi rfl rfl ?om); (case om => (intro hg; first | omega | (simp only [kBool] at hg; omega)))) | apply qt_ev rfl ?hi | refine qt_callQ rfl rfl ?hi (fun hg => hC) | apply qt_streq rfl rfl rfl ?hi | refine qt_bsLen rfl rfl ?hi rfl | apply qt_cap rfl rfl ?hi rfl | apply qt_eqs rfl rfl rfl ?hi rfl (Or.inl rfl) | apply qt_nes rfl rfl rfl ?hi rfl (Or.inl rfl)); (case hi => (intro h; (repeat' (first | with_reducible exact alln | with_reducible refine allc ?_ ?_ | with_reducible refine andi ?_ ?_)); all_goals (first | with_reducible rfl | with_reducible exact h | with_reducible exact andl h | with_reducible exact andr h | with_reducible exact andl (andl h) | (simp only [h, Bool.and_self]; done) | (simp [h]; done) | (simp_all; done))))))) | (apply KO.store (i := _) rfl rfl rfl rfl rfl rfl rfl rfl ?hl ?sg ?hw ?ho ?hs; (case sg => first | exact (rfl : getI 0 _ = _) | exact (rfl : getI 1 _ = _) | exact (rfl : getI 2 _ = _) | exact (rfl : getI 3 _ = _) | exact (rfl : getI 4 _ = _) | exact (rfl : getI 5 _ = _) | exact (rfl : getI 6 _ = _) | exact (rfl : getI 7 _ = _)); (case hl => rfl); (case hw => rfl); (case ho => rfl); (case hs => rfl)) | (refine KW.cond rfl ?_ ?_ <;> (intro hc; try simp only [kBool] at hc)) | exact absurd trivial ‹¬True› | (exfalso; first | omega | exact hse (by assumption)) | fail)
  rw [show min ((l.count c : Int) + 1) (((bs l).size : Int) + 1) = (l.count c : Int) + 1 by omega]
  refine KO.makeSlice rfl rfl rfl rfl rfl rfl rfl rfl rfl rfl rfl ⟨by omega, by omega⟩ ⟨by omega, by omega⟩ ?_
  intro ba _
  rw [show ((l.count c : Int) + 1).toNat = l.count c + 1 by omega, List.flatten_replicate_singleton, show List.replicate (l.count c + 1) (Value.string ByteArray.empty) = arrS [] (l.count c + 1) by unfold arrS; simp [svB]]
  repeat' (first | with_reducible refine KW.seq ?_ | with_reducible refine KW.region ?_ | with_reducible refine KO.nil ?_ | with_reducible refine At.then_normal ?_ | with_reducible refine KW.skip ?_ | with_reducible refine KW.ret ?_ | with_reducible refine At.then_ret ?_ | with_reducible refine KW.block ?_ | with_reducible refine KW.exit ?_ | with_reducible refine At.block_normal ?_ | with_reducible refine At.block_ret ?_ | with_reducible refine At.loop_ret ?_ | with_reducible refine At.then_exit ?_ | ((with_reducible refine At.block_here ?kbh ?_); (case kbh => rfl)) | ((with_reducible refine At.block_there ?kbt ?_); (case kbt => rfl)) | with_reducible refine At.loop_exit ?_ | with_reducible refine At.cut_ret ?_ | with_reducible refine At.cutA_ret ?_ | with_reducible refine At.cutA_exit ?_ | with_reducible refine At.cut_exit ?_ | ((with_reducible refine At.cut_same ?_); repeat' (first | exact FLe.nil _ | refine FLe.cons rfl rfl ?_)) | refine KW.cond_t rfl (by first | with_reducible rfl | decide) ?_ | refine KW.cond_f rfl (by first | with_reducible rfl | decide) ?_ | refine KW.scope ?_ | refine KW.label ?_ | refine At.scope_normal ?_ | refine At.scope_ret ?_ | refine At.scope_exit ?_ | ((first | apply KO.val rfl rfl rfl ?kq ?_); (case kq => ((first | ((first | apply qt_add rfl rfl rfl ?hi ?om | apply qt_sub rfl rfl rfl ?hi ?om | apply qt_indexAddr_arr rfl rfl rfl ?hi rfl rfl ?om | apply qt_indexAddr_slice rfl rfl rfl ?hi rfl rfl ?om | apply qt_sliceL rfl rfl rfl ?hi rfl rfl ?om | apply qt_sliceH rfl rfl rfl ?hi rfl rfl ?om | apply qt_sliceLH rfl rfl rfl rfl ?hi rfl rfl ?om | apply qt_sliceLHM rfl rfl rfl rfl rfl ?hi rfl rfl ?om | apply qt_sliceHM rfl rfl rfl rfl ?hi rfl rfl ?om); (case om => (intro hg; first | omega | (simp only [kBool] at hg; omega)))) | apply qt_ev rfl ?hi | apply qt_cap rfl rfl ?hi rfl | apply qt_eqs rfl rfl rfl ?hi rfl (Or.inl rfl) | apply qt_nes rfl rfl rfl ?hi rfl (Or.inl rfl)); (case hi => (intro h; (repeat' (first | with_reducible exact alln | with_reducible refine allc ?_ ?_ | with_reducible refine andi ?_ ?_)); all_goals (first | with_reducible rfl | with_reducible exact h | with_reducible exact andl h | with_reducible exact andr h | with_reducible exact andl (andl h) | (simp only [h, Bool.and_self]; done) | (simp [h]; done) | (simp_all; done))))))) | (apply KO.store (i := _) rfl rfl rfl rfl rfl rfl rfl rfl ?hl ?sg ?hw ?ho ?hs; (case sg => first | exact (rfl : getI 0 _ = _) | exact (rfl : getI 1 _ = _) | exact (rfl : getI 2 _ = _) | exact (rfl : getI 3 _ = _) | exact (rfl : getI 4 _ = _) | exact (rfl : getI 5 _ = _) | exact (rfl : getI 6 _ = _) | exact (rfl : getI 7 _ = _)); (case hl => rfl); (case hw => rfl); (case ho => rfl); (case hs => rfl)) | (refine KW.cond rfl ?_ ?_ <;> (intro hc; try simp only [kBool] at hc)) | exact absurd trivial ‹¬True› | (exfalso; first | omega | exact hse (by assumption)) | fail)
  rw [show ((l.count c : Int) + 1 - 1) = (l.count c : Int) by omega]
  refine KW.loop (fun s : S10 => s.pre.length = s.i ∧ s.i ≤ l.count c ∧ spl l c = s.pre ++ spl s.s c ∧ Byt s.s ∧ s.s.length ≤ l.length ∧ s.s.count c + s.i = l.count c) (fun s => ([(10, true, .int .i64 (s.i : Int)), (9, true, .slice (some ⟨ba, 0, none⟩) (l.count c + 1) (l.count c + 1)), (3, true, .int .i64 (l.count c : Int)), (0, true, .string (bs s.s)), (1, true, .string (bs [c])), (2, true, .int .i64 0)], [(ba, cl (arrS s.pre (l.count c + 1)) 9)])) (fun s => l.count c - s.i) ⟨0, l, []⟩
    ⟨rfl, Nat.zero_le _, rfl, hB, Nat.le_refl _, rfl⟩ (Le.perm (by repeat' (first | exact FLe.nil _ | refine FLe.cons rfl rfl ?_)) (by classical exact List.perm_iff_count.2 (fun _ => by first | (simp only [List.count_append, List.count_cons, List.count_nil, List.append_assoc, List.cons_append, List.nil_append]; done) | (simp only [List.count_append, List.count_cons, List.count_nil, List.append_assoc, List.cons_append, List.nil_append]; omega)))) ?_
  rintro ⟨i, s, pre⟩ ⟨hp, hi, hsp, hBs, hls, hct⟩
  dsimp only at hp hi hsp hBs hls hct ⊢
  have hI := SIndex_p E.β [(ba, cl (arrS pre (l.count c + 1)) 9)] s c h256 hBs
  have hib := idx_lt s c
  have hin := idx_none s c
  obtain ⟨k, hk⟩ : ∃ k, k = idxB s c := ⟨_, rfl⟩
  by_cases hlt : i < l.count c
  · have hk0 : 0 ≤ idxB s c := by
      have : ¬ idxB s c = -1 := fun e => by have := hin.1 e; omega
      omega
    have hs1 := spl_some hk0
    have hc1 := count_some hk0
    rw [← hk] at hI hib hk0 hs1 hc1
    repeat' (first | with_reducible refine KW.seq ?_ | with_reducible refine KW.region ?_ | with_reducible refine KO.nil ?_ | with_reducible refine At.then_normal ?_ | with_reducible refine KW.skip ?_ | with_reducible refine KW.ret ?_ | with_reducible refine At.then_ret ?_ | with_reducible refine KW.block ?_ | with_reducible refine KW.exit ?_ | with_reducible refine At.block_normal ?_ | with_reducible refine At.block_ret ?_ | with_reducible refine At.loop_ret ?_ | with_reducible refine At.then_exit ?_ | ((with_reducible refine At.block_here ?kbh ?_); (case kbh => rfl)) | ((with_reducible refine At.block_there ?kbt ?_); (case kbt => rfl)) | with_reducible refine At.loop_exit ?_ | with_reducible refine At.cut_ret ?_ | with_reducible refine At.cutA_ret ?_ | with_reducible refine At.cutA_exit ?_ | with_reducible refine At.cut_exit ?_ | ((with_reducible refine At.cut_same ?_); repeat' (first | exact FLe.nil _ | refine FLe.cons rfl rfl ?_)) | refine KW.cond_t rfl (by first | with_reducible rfl | decide) ?_ | refine KW.cond_f rfl (by first | with_reducible rfl | decide) ?_ | refine KW.scope ?_ | refine KW.label ?_ | refine At.scope_normal ?_ | refine At.scope_ret ?_ | refine At.scope_exit ?_ | ((first | apply KO.val rfl rfl rfl ?kq ?_); (case kq => ((first | ((first | apply qt_add rfl rfl rfl ?hi ?om | apply qt_sub rfl rfl rfl ?hi ?om | apply qt_indexAddr_arr rfl rfl rfl ?hi rfl rfl ?om | apply qt_indexAddr_slice rfl rfl rfl ?hi rfl rfl ?om | apply qt_sliceL rfl rfl rfl ?hi rfl rfl ?om | apply qt_sliceH rfl rfl rfl ?hi rfl rfl ?om | apply qt_sliceLH rfl rfl rfl rfl ?hi rfl rfl ?om | apply qt_sliceLHM rfl rfl rfl rfl rfl ?hi rfl rfl ?om | apply qt_sliceHM rfl rfl rfl rfl ?hi rfl rfl ?om); (case om => (intro hg; first | omega | (simp only [kBool] at hg; omega)))) | apply qt_ev rfl ?hi | refine qt_callQ rfl rfl ?hi (fun hg => hI) | refine qt_bsH rfl rfl rfl ?hi rfl (fun _ => ⟨by omega, by omega⟩) | refine qt_bsL rfl rfl rfl ?hi rfl (fun _ => ⟨by omega, by omega⟩) | apply qt_cap rfl rfl ?hi rfl | apply qt_eqs rfl rfl rfl ?hi rfl (Or.inl rfl) | apply qt_nes rfl rfl rfl ?hi rfl (Or.inl rfl)); (case hi => (intro h; (repeat' (first | with_reducible exact alln | with_reducible refine allc ?_ ?_ | with_reducible refine andi ?_ ?_)); all_goals (first | with_reducible rfl | with_reducible exact h | with_reducible exact andl h | with_reducible exact andr h | with_reducible exact andl (andl h) | (simp only [h, Bool.and_self]; done) | (simp [h]; done) | (simp_all; done))))))) | (apply KO.store (i := _) rfl rfl rfl rfl rfl rfl rfl rfl ?hl ?sg ?hw ?ho ?hs; (case sg => first | exact (rfl : getI 0 _ = _) | exact (rfl : getI 1 _ = _) | exact (rfl : getI 2 _ = _) | exact (rfl : getI 3 _ = _) | exact (rfl : getI 4 _ = _) | exact (rfl : getI 5 _ = _) | exact (rfl : getI 6 _ = _) | exact (rfl : getI 7 _ = _)); (case hl => rfl); (case hw => rfl); (case ho => rfl); (case hs => rfl)) | (refine KW.cond rfl ?_ ?_ <;> (intro hc; try simp only [kBool] at hc)) | exact absurd trivial ‹¬True› | (exfalso; first | omega | exact hse (by assumption)) | (exfalso; omega) | fail)
    refine KO.storeW (i := 0) (vs := [_]) (cs' := arrS (pre ++ [s.take k.toNat]) (l.count c + 1)) rfl rfl rfl rfl rfl rfl rfl rfl rfl rfl ?_ rfl ?_
    · have h3 := wr_set (v := .string (bs (s.take k.toNat))) (show pre.length < (arrS pre (l.count c + 1)).length by rw [arrS_len _ _ (by omega)]; omega)
      rw [arrS_set _ _ _ (by omega)] at h3
      rw [show 0 + (i : Int).toNat * 1 = pre.length by omega, show k + 0 = k by omega]
      exact h3
    · skip
      repeat' (first | with_reducible refine KW.seq ?_ | with_reducible refine KW.region ?_ | with_reducible refine KO.nil ?_ | with_reducible refine At.then_normal ?_ | with_reducible refine KW.skip ?_ | with_reducible refine KW.ret ?_ | with_reducible refine At.then_ret ?_ | with_reducible refine KW.block ?_ | with_reducible refine KW.exit ?_ | with_reducible refine At.block_normal ?_ | with_reducible refine At.block_ret ?_ | with_reducible refine At.loop_ret ?_ | with_reducible refine At.then_exit ?_ | ((with_reducible refine At.block_here ?kbh ?_); (case kbh => rfl)) | ((with_reducible refine At.block_there ?kbt ?_); (case kbt => rfl)) | with_reducible refine At.loop_exit ?_ | with_reducible refine At.cut_ret ?_ | with_reducible refine At.cutA_ret ?_ | with_reducible refine At.cutA_exit ?_ | with_reducible refine At.cut_exit ?_ | ((with_reducible refine At.cut_same ?_); repeat' (first | exact FLe.nil _ | refine FLe.cons rfl rfl ?_)) | refine KW.cond_t rfl (by first | with_reducible rfl | decide) ?_ | refine KW.cond_f rfl (by first | with_reducible rfl | decide) ?_ | refine KW.scope ?_ | refine KW.label ?_ | refine At.scope_normal ?_ | refine At.scope_ret ?_ | refine At.scope_exit ?_ | ((first | apply KO.val rfl rfl rfl ?kq ?_); (case kq => ((first | ((first | apply qt_add rfl rfl rfl ?hi ?om | apply qt_sub rfl rfl rfl ?hi ?om | apply qt_indexAddr_arr rfl rfl rfl ?hi rfl rfl ?om | apply qt_indexAddr_slice rfl rfl rfl ?hi rfl rfl ?om | apply qt_sliceL rfl rfl rfl ?hi rfl rfl ?om | apply qt_sliceH rfl rfl rfl ?hi rfl rfl ?om | apply qt_sliceLH rfl rfl rfl rfl ?hi rfl rfl ?om | apply qt_sliceLHM rfl rfl rfl rfl rfl ?hi rfl rfl ?om | apply qt_sliceHM rfl rfl rfl rfl ?hi rfl rfl ?om); (case om => (intro hg; first | omega | (simp only [kBool] at hg; omega)))) | apply qt_ev rfl ?hi | refine qt_bsL rfl rfl rfl ?hi rfl (fun _ => ⟨by omega, by omega⟩) | apply qt_cap rfl rfl ?hi rfl | apply qt_eqs rfl rfl rfl ?hi rfl (Or.inl rfl) | apply qt_nes rfl rfl rfl ?hi rfl (Or.inl rfl)); (case hi => (intro h; (repeat' (first | with_reducible exact alln | with_reducible refine allc ?_ ?_ | with_reducible refine andi ?_ ?_)); all_goals (first | with_reducible rfl | with_reducible exact h | with_reducible exact andl h | with_reducible exact andr h | with_reducible exact andl (andl h) | (simp only [h, Bool.and_self]; done) | (simp [h]; done) | (simp_all; done))))))) | (apply KO.store (i := _) rfl rfl rfl rfl rfl rfl rfl rfl ?hl ?sg ?hw ?ho ?hs; (case sg => first | exact (rfl : getI 0 _ = _) | exact (rfl : getI 1 _ = _) | exact (rfl : getI 2 _ = _) | exact (rfl : getI 3 _ = _) | exact (rfl : getI 4 _ = _) | exact (rfl : getI 5 _ = _) | exact (rfl : getI 6 _ = _) | exact (rfl : getI 7 _ = _)); (case hl => rfl); (case hw => rfl); (case ho => rfl); (case hs => rfl)) | (refine KW.cond rfl ?_ ?_ <;> (intro hc; try simp only [kBool] at hc)) | exact absurd trivial ‹¬True› | (exfalso; first | omega | exact hse (by assumption)) | (exfalso; omega) | fail)
      rw [h1, show (k + ((1 : Nat) : Int)).toNat = k.toNat + 1 by omega]
      refine At.loop_on ⟨i + 1, s.drop (k.toNat + 1), pre ++ [s.take k.toNat]⟩ ⟨by simp [hp], by dsimp only; omega, ?_, fun n hn => hBs n (List.mem_of_mem_drop hn), by dsimp only; rw [List.length_drop]; omega, by dsimp only; omega⟩ (by dsimp only; omega) (Le.perm (by repeat' (first | exact FLe.nil _ | refine FLe.cons rfl rfl ?_)) (by classical exact List.perm_iff_count.2 (fun _ => by first | (simp only [List.count_append, List.count_cons, List.count_nil, List.append_assoc, List.cons_append, List.nil_append]; done) | (simp only [List.count_append, List.count_cons, List.count_nil, List.append_assoc, List.cons_append, List.nil_append]; omega))))
      dsimp only
      rw [hsp, hs1, List.append_assoc]
      rfl
  · have hie : i = l.count c := by omega
    have hs1 := spl_none (hin.2 (by omega))
    repeat' (first | with_reducible refine KW.seq ?_ | with_reducible refine KW.region ?_ | with_reducible refine KO.nil ?_ | with_reducible refine At.then_normal ?_ | with_reducible refine KW.skip ?_ | with_reducible refine KW.ret ?_ | with_reducible refine At.then_ret ?_ | with_reducible refine KW.block ?_ | with_reducible refine KW.exit ?_ | with_reducible refine At.block_normal ?_ | with_reducible refine At.block_ret ?_ | with_reducible refine At.loop_ret ?_ | with_reducible refine At.then_exit ?_ | ((with_reducible refine At.block_here ?kbh ?_); (case kbh => rfl)) | ((with_reducible refine At.block_there ?kbt ?_); (case kbt => rfl)) | with_reducible refine At.loop_exit ?_ | with_reducible refine At.cut_ret ?_ | with_reducible refine At.cutA_ret ?_ | with_reducible refine At.cutA_exit ?_ | with_reducible refine At.cut_exit ?_ | ((with_reducible refine At.cut_same ?_); repeat' (first | exact FLe.nil _ | refine FLe.cons rfl rfl ?_)) | refine KW.cond_t rfl (by first | with_reducible rfl | decide) ?_ | refine KW.cond_f rfl (by first | with_reducible rfl | decide) ?_ | refine KW.scope ?_ | refine KW.label ?_ | refine At.scope_normal ?_ | refine At.scope_ret ?_ | refine At.scope_exit ?_ | ((first | apply KO.val rfl rfl rfl ?kq ?_); (case kq => ((first | ((first | apply qt_add rfl rfl rfl ?hi ?om | apply qt_sub rfl rfl rfl ?hi ?om | apply qt_indexAddr_arr rfl rfl rfl ?hi rfl rfl ?om | apply qt_indexAddr_slice rfl rfl rfl ?hi rfl rfl ?om | apply qt_sliceL rfl rfl rfl ?hi rfl rfl ?om | apply qt_sliceH rfl rfl rfl ?hi rfl rfl ?om | apply qt_sliceLH rfl rfl rfl rfl ?hi rfl rfl ?om | apply qt_sliceLHM rfl rfl rfl rfl rfl ?hi rfl rfl ?om | apply qt_sliceHM rfl rfl rfl rfl ?hi rfl rfl ?om); (case om => (intro hg; first | omega | (simp only [kBool] at hg; omega)))) | apply qt_ev rfl ?hi | apply qt_cap rfl rfl ?hi rfl | apply qt_eqs rfl rfl rfl ?hi rfl (Or.inl rfl) | apply qt_nes rfl rfl rfl ?hi rfl (Or.inl rfl)); (case hi => (intro h; (repeat' (first | with_reducible exact alln | with_reducible refine allc ?_ ?_ | with_reducible refine andi ?_ ?_)); all_goals (first | with_reducible rfl | with_reducible exact h | with_reducible exact andl h | with_reducible exact andr h | with_reducible exact andl (andl h) | (simp only [h, Bool.and_self]; done) | (simp [h]; done) | (simp_all; done))))))) | (apply KO.store (i := _) rfl rfl rfl rfl rfl rfl rfl rfl ?hl ?sg ?hw ?ho ?hs; (case sg => first | exact (rfl : getI 0 _ = _) | exact (rfl : getI 1 _ = _) | exact (rfl : getI 2 _ = _) | exact (rfl : getI 3 _ = _) | exact (rfl : getI 4 _ = _) | exact (rfl : getI 5 _ = _) | exact (rfl : getI 6 _ = _) | exact (rfl : getI 7 _ = _)); (case hl => rfl); (case hw => rfl); (case ho => rfl); (case hs => rfl)) | (refine KW.cond rfl ?_ ?_ <;> (intro hc; try simp only [kBool] at hc)) | exact absurd trivial ‹¬True› | (exfalso; first | omega | exact hse (by assumption)) | (exfalso; omega) | fail)
    refine KO.storeW (i := 0) (vs := [_]) (cs' := arrS (pre ++ [s]) (l.count c + 1)) rfl rfl rfl rfl rfl rfl rfl rfl rfl rfl ?_ rfl ?_
    · have h3 := wr_set (v := .string (bs s)) (show pre.length < (arrS pre (l.count c + 1)).length by rw [arrS_len _ _ (by omega)]; omega)
      rw [arrS_set _ _ _ (by omega)] at h3
      rw [show 0 + (i : Int).toNat * 1 = pre.length by omega]
      exact h3
    · skip
      repeat' (first | with_reducible refine KW.seq ?_ | with_reducible refine KW.region ?_ | with_reducible refine KO.nil ?_ | with_reducible refine At.then_normal ?_ | with_reducible refine KW.skip ?_ | with_reducible refine KW.ret ?_ | with_reducible refine At.then_ret ?_ | with_reducible refine KW.block ?_ | with_reducible refine KW.exit ?_ | with_reducible refine At.block_normal ?_ | with_reducible refine At.block_ret ?_ | with_reducible refine At.loop_ret ?_ | with_reducible refine At.then_exit ?_ | ((with_reducible refine At.block_here ?kbh ?_); (case kbh => rfl)) | ((with_reducible refine At.block_there ?kbt ?_); (case kbt => rfl)) | with_reducible refine At.loop_exit ?_ | with_reducible refine At.cut_ret ?_ | with_reducible refine At.cutA_ret ?_ | with_reducible refine At.cutA_exit ?_ | with_reducible refine At.cut_exit ?_ | ((with_reducible refine At.cut_same ?_); repeat' (first | exact FLe.nil _ | refine FLe.cons rfl rfl ?_)) | refine KW.cond_t rfl (by first | with_reducible rfl | decide) ?_ | refine KW.cond_f rfl (by first | with_reducible rfl | decide) ?_ | refine KW.scope ?_ | refine KW.label ?_ | refine At.scope_normal ?_ | refine At.scope_ret ?_ | refine At.scope_exit ?_ | ((first | apply KO.val rfl rfl rfl ?kq ?_); (case kq => ((first | ((first | apply qt_add rfl rfl rfl ?hi ?om | apply qt_sub rfl rfl rfl ?hi ?om | apply qt_indexAddr_arr rfl rfl rfl ?hi rfl rfl ?om | apply qt_indexAddr_slice rfl rfl rfl ?hi rfl rfl ?om | apply qt_sliceL rfl rfl rfl ?hi rfl rfl ?om | apply qt_sliceH rfl rfl rfl ?hi rfl rfl ?om | apply qt_sliceLH rfl rfl rfl rfl ?hi rfl rfl ?om | apply qt_sliceLHM rfl rfl rfl rfl rfl ?hi rfl rfl ?om | apply qt_sliceHM rfl rfl rfl rfl ?hi rfl rfl ?om); (case om => (intro hg; first | omega | (simp only [kBool] at hg; omega)))) | apply qt_ev rfl ?hi | apply qt_cap rfl rfl ?hi rfl | apply qt_eqs rfl rfl rfl ?hi rfl (Or.inl rfl) | apply qt_nes rfl rfl rfl ?hi rfl (Or.inl rfl)); (case hi => (intro h; (repeat' (first | with_reducible exact alln | with_reducible refine allc ?_ ?_ | with_reducible refine andi ?_ ?_)); all_goals (first | with_reducible rfl | with_reducible exact h | with_reducible exact andl h | with_reducible exact andr h | with_reducible exact andl (andl h) | (simp only [h, Bool.and_self]; done) | (simp [h]; done) | (simp_all; done))))))) | (apply KO.store (i := _) rfl rfl rfl rfl rfl rfl rfl rfl ?hl ?sg ?hw ?ho ?hs; (case sg => first | exact (rfl : getI 0 _ = _) | exact (rfl : getI 1 _ = _) | exact (rfl : getI 2 _ = _) | exact (rfl : getI 3 _ = _) | exact (rfl : getI 4 _ = _) | exact (rfl : getI 5 _ = _) | exact (rfl : getI 6 _ = _) | exact (rfl : getI 7 _ = _)); (case hl => rfl); (case hw => rfl); (case ho => rfl); (case hs => rfl)) | (refine KW.cond rfl ?_ ?_ <;> (intro hc; try simp only [kBool] at hc)) | exact absurd trivial ‹¬True› | (exfalso; first | omega | exact hse (by assumption)) | (exfalso; omega) | fail)
      ((first | apply At.done_ret | apply At.done_normal); (focus (repeat' (first | exact ResVs.nil' | apply ResVs.cons' | exact ResV.tmp' rfl | (apply ResV.cell1 rfl ?hm rfl rfl ?hc; (case hm => repeat (first | exact List.Mem.head _ | apply List.Mem.tail _ | apply List.mem_append_right _)); (case hc => rfl)) | (apply ResV.cellN rfl ?hm rfl rfl rfl ?hc; (case hm => repeat (first | exact List.Mem.head _ | apply List.Mem.tail _ | apply List.mem_append_right _)); (case hc => rfl))))); dsimp only [resVal])
      refine ⟨_, List.Sublist.refl _, ba, ?_, ?_⟩
      · rw [show ((i : Int) + 1).toNat - 0 = l.count c + 1 by omega]
        simp [adv, Addr.add]
      · rw [hsp, hs1, show l.count c + 1 = (pre ++ [s]).length by simp; omega, arrS_full]
end Go.Proofs.YtcnebanpnnblbaaDoor

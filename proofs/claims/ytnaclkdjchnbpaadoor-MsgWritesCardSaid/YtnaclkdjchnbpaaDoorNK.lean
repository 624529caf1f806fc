/- The chapter's examples, but for the response. -/
import Derived.Test.YtnaclkdjchnbpaaDoorM7
import Derived.Test.YtnaclkdjchnbpaaDoorNC
namespace Go.Proofs.YtnaclkdjchnbpaaDoor
open Go Go.K

def Rq.b : Rq := ⟨2, 1, 2, 1, 0, 0, 0, 0⟩
theorem I64_0 : I64 0 := by unfold I64; omega
theorem I64_1 : I64 1 := by unfold I64; omega
theorem I64_2 : I64 2 := by unfold I64; omega
theorem encF_a : encF Rq.zero = none := by rfl
theorem encB_a : encB Rq.zero = [0] := by rfl
theorem encF_b : encF Rq.b = none := by rfl
theorem encB_b : encB Rq.b = [2, 0, 0, 0, 0, 0, 0, 0, 1, 2, 1] := by rfl
theorem EncodeA_p (β : Nat → Option Obj) : Go.K.Tr Tryd.prog 10 [.agg #[.int .i64 0, .int .u64 0, .int .i64 0, .int .i64 0, .int .i64 0, .int .i64 0, .int .i64 0, .int .i64 0]] β [] (fun v σ => ∃ b, v = .tuple #[.slice (some ⟨b, 0, none⟩) 1 1, .nilIface] ∧ σ = [(b, cl (by8 [0]) 5)]) := by
  refine (Encode_p β Rq.zero ⟨I64_0, by decide, I64_0, I64_0, I64_0, I64_0, I64_0, I64_0⟩).mono ?_
  intro v σ h
  unfold EncR at h
  rw [encF_a, encB_a] at h
  exact h
theorem EncodeB_p (β : Nat → Option Obj) : Go.K.Tr Tryd.prog 10 [.agg #[.int .i64 2, .int .u64 1, .int .i64 2, .int .i64 1, .int .i64 0, .int .i64 0, .int .i64 0, .int .i64 0]] β [] (fun v σ => ∃ b, v = .tuple #[.slice (some ⟨b, 0, none⟩) 11 11, .nilIface] ∧ σ = [(b, cl (by8 [2, 0, 0, 0, 0, 0, 0, 0, 1, 2, 1]) 5)]) := by
  refine (Encode_p β Rq.b ⟨I64_2, by decide, I64_2, I64_1, I64_0, I64_0, I64_0, I64_0⟩).mono ?_
  intro v σ h
  unfold EncR at h
  rw [encF_b, encB_b] at h
  exact h
theorem awake_of (β : Nat → Option Obj) (hW : ∀ β : Nat → Option Obj, Go.K.Tr Tryd.prog 16 [.agg #[.int .i64 19, .int .i64 1, .int .u64 0, .int .i64 0, .int .i64 0, .int .i64 0, .int .i64 0, .int .i64 0, .int .i64 0, .bool false, .int .u64 0, .int .i64 0, .int .i64 0, .slice none 0 0, .int .i64 0, .int .i64 0, .int .i64 0]] β [] (fun v σ => ∃ b, v = .tuple #[.slice (some ⟨b, 0, none⟩) 2 2, .nilIface] ∧ σ = [(b, cl (by8 [19, 1]) 5)])) : Go.K.Tr Tryd.prog 15 [] β [] (fun z σ => z = .bool true ∧ σ = []) := by
  refine Tr.sub ?_
  refine Tr.of_body Tryd.tt (args := []) (fr := []) Tryd.func15 rfl (by decide) rfl Tryd.ntmps15 rfl rfl ?_
  intro E hE
  subst hE
  repeat' (first | refine KW.seq ?_ | refine KW.region ?_ | refine KO.nil ?_ | ((first | apply KO.val rfl rfl rfl ?kq ?_ ); (case kq => ((first | apply qt_ev rfl ?hi | apply qt_build rfl rfl ?hi rfl ); (case hi => (intro h; (repeat' (first | with_reducible exact alln | with_reducible refine allc ?_ ?_ )); all_goals (first | with_reducible rfl )))))) | fail)
  refine KO.callF [] [] (by classical exact List.perm_iff_count.2 (fun _ => by first | (simp only [List.count_append, List.count_cons, List.count_nil, List.append_assoc, List.cons_append, List.nil_append]; done) )) rfl rfl rfl rfl rfl rfl rfl (EncodeA_p _) ?_
  rintro _ _ ⟨b1, rfl, rfl⟩
  repeat' (first | refine KW.seq ?_ | refine KW.region ?_ | refine KO.nil ?_ | ((first | apply KO.val rfl rfl rfl ?kq ?_ ); (case kq => ((first | apply qt_ev rfl ?hi | apply qt_build rfl rfl ?hi rfl ); (case hi => (intro h; (repeat' (first | with_reducible exact alln | with_reducible refine allc ?_ ?_ )); all_goals (first | with_reducible rfl )))))) | fail)
  refine KO.callF [] [(b1, cl (by8 [0]) 5)] (by classical exact List.perm_iff_count.2 (fun _ => by first | (simp only [List.count_append, List.count_cons, List.count_nil, List.append_assoc, List.cons_append, List.nil_append]; done) )) rfl rfl rfl rfl rfl rfl rfl (EncodeB_p _) ?_
  rintro _ _ ⟨b2, rfl, rfl⟩
  repeat' (first | refine KW.seq ?_ | refine KW.region ?_ | refine KO.nil ?_ | ((first | apply KO.val rfl rfl rfl ?kq ?_ ); (case kq => ((first | apply qt_ev rfl ?hi | apply qt_build rfl rfl ?hi rfl ); (case hi => (intro h; (repeat' (first | with_reducible exact alln | with_reducible refine allc ?_ ?_ )); all_goals (first | with_reducible rfl )))))) | fail)
  refine KO.callF [] [(b2, cl (by8 [2, 0, 0, 0, 0, 0, 0, 0, 1, 2, 1]) 5), (b1, cl (by8 [0]) 5)] (by classical exact List.perm_iff_count.2 (fun _ => by first | (simp only [List.count_append, List.count_cons, List.count_nil, List.append_assoc, List.cons_append, List.nil_append]; done) )) rfl rfl rfl rfl rfl rfl rfl (hW _) ?_
  rintro _ _ ⟨b3, rfl, rfl⟩
  have hs := fun (σ : Heap) (b d : Nat) (l : List Nat) (h1 : (b, cl (by8 l) 5) ∈ σ) (h2 : (d, cl (by8 l) 5) ∈ σ) (hl : l.length ≤ 1000000) => same_p E.β σ l l (some ⟨b, 0, none⟩) (some ⟨d, 0, none⟩) l.length l.length l.length l.length rfl rfl (SL.ofBlk h1 (by simp [by8_len])) (SL.ofBlk h2 (by simp [by8_len])) hl
  simp only [decide_true] at hs
  repeat' (first | refine KW.seq ?_ | refine KW.region ?_ | refine KO.nil ?_ | ((first | apply KO.val rfl rfl rfl ?kq ?_ ); (case kq => ((first | apply qt_ev rfl ?hi | apply qt_pick_t rfl rfl (by first | with_reducible rfl ) rfl ?hi | apply qt_eqs rfl rfl rfl ?hi rfl (Or.inr ⟨rfl, rfl, rfl⟩) ); (case hi => (intro h; (repeat' (first | with_reducible exact alln | with_reducible refine allc ?_ ?_ | with_reducible refine andi ?_ ?_)); all_goals (first | with_reducible rfl )))))) | (refine KO.buildSlice rfl rfl rfl rfl rfl rfl rfl rfl rfl rfl rfl rfl rfl rfl ?_; intro _ _) | fail)
  rename_i c1 _
  repeat' (first | ((first | apply KO.val rfl rfl rfl ?kq ?_ ); (case kq => ((first | apply qt_ev rfl ?hi | refine qt_callQ rfl rfl ?hi (fun hg => hs _ b1 c1 [0] (by simp) (by simp [by8]) (by decide)) | apply qt_pick_t rfl rfl (by first | with_reducible rfl ) rfl ?hi ); (case hi => (intro h; (repeat' (first | with_reducible exact alln | with_reducible refine allc ?_ ?_ | with_reducible refine andi ?_ ?_)); all_goals (first | with_reducible rfl )))))) | (refine KO.buildSlice rfl rfl rfl rfl rfl rfl rfl rfl rfl rfl rfl rfl rfl rfl ?_; intro _ _) | fail)
  rename_i c2 _
  repeat' (first | ((first | apply KO.val rfl rfl rfl ?kq ?_ ); (case kq => ((first | apply qt_ev rfl ?hi | refine qt_callQ rfl rfl ?hi (fun hg => hs _ b2 c2 [2, 0, 0, 0, 0, 0, 0, 0, 1, 2, 1] (by simp) (by simp [by8]) (by decide)) | apply qt_pick_t rfl rfl (by first | with_reducible rfl ) rfl ?hi ); (case hi => (intro h; (repeat' (first | with_reducible exact alln | with_reducible refine allc ?_ ?_ | with_reducible refine andi ?_ ?_)); all_goals (first | with_reducible rfl )))))) | (refine KO.buildSlice rfl rfl rfl rfl rfl rfl rfl rfl rfl rfl rfl rfl rfl rfl ?_; intro _ _) | fail)
  rename_i c3 _
  repeat' (first | refine KO.nil ?_ | refine At.then_normal ?_ | refine KW.ret ?_ | ((first | apply KO.val rfl rfl rfl ?kq ?_ ); (case kq => ((first | apply qt_ev rfl ?hi | refine qt_callQ rfl rfl ?hi (fun hg => hs _ b3 c3 [19, 1] (by simp) (by simp [by8]) (by decide)) | apply qt_pick_t rfl rfl (by first | with_reducible rfl ) rfl ?hi ); (case hi => (intro h; (repeat' (first | with_reducible exact alln | with_reducible refine allc ?_ ?_ | with_reducible refine andi ?_ ?_)); all_goals (first | with_reducible rfl )))))) | fail)
  ((first | apply At.done_ret ); (focus (repeat' (first | exact ResVs.nil' | apply ResVs.cons' | exact ResV.tmp' rfl ))); dsimp only [resVal])
  exact ⟨[], List.nil_sublist _, rfl, rfl⟩
end Go.Proofs.YtnaclkdjchnbpaaDoor

/- What the laws call: rows of bytes compared; an error compared with the document's. -/
import Derived.Test.YtnaclkdjchnbpaaDoorE6
import Derived.Test.YtnaclkdjchnbpaaDoorK30
namespace Go.Proofs.YtnaclkdjchnbpaaDoor
open Go Go.K

theorem SL.nil8 (β : Nat → Option Obj) (σ : Heap) : SL β σ 1 0 (by8 []) none := ⟨rfl, fun h => by omega⟩
theorem same_p (β : Nat → Option Obj) (σ : Heap) (l1 l2 : List Nat) (p q : Option Addr) (c d m n : Nat) (hm : l1.length = m) (hn : l2.length = n) (hp : SL β σ 1 m (by8 l1) p) (hq : SL β σ 1 n (by8 l2) q) (hb : m ≤ 1000000) :
    Go.K.Tr Tryd.prog 14 [.slice p m c, .slice q n d] β σ (fun v σ' => v = .bool (decide (l1 = l2)) ∧ σ' = σ) := by
  refine Tr.of_body Tryd.tt (args := [.slice p m c, .slice q n d]) (fr := [(0, true, .slice p m c), (1, true, .slice q n d)]) Tryd.func14 rfl (by decide) rfl Tryd.ntmps14 rfl rfl ?_
  intro E hE
  subst hE
  repeat' (first | refine KW.seq ?_ | refine KW.region ?_ | refine KO.nil ?_ | refine At.then_normal ?_ | refine KW.skip ?_ | refine KW.ret ?_ | refine At.then_ret ?_ | refine KW.block ?_ | ((first | apply KO.val rfl rfl rfl ?kq ?_ ); (case kq => ((first | apply qt_ev rfl ?hi ); (case hi => (intro h; (repeat' (first | with_reducible exact alln | with_reducible refine allc ?_ ?_ )); all_goals (first | with_reducible rfl )))))) | (refine KW.cond rfl ?_ ?_ <;> (intro hc; try simp only [kBool] at hc)) | fail)
  · ((first | apply At.done_ret ); (focus (repeat' (first | exact ResVs.nil' | apply ResVs.cons' | exact ResV.tmp' rfl ))); dsimp only [resVal])
    have : l1 ≠ l2 := fun e => by subst e; omega
    simp [this]
  · have hnm : n = m := by omega
    subst hnm
    refine KW.loop (fun j : Nat => j ≤ n ∧ l1.take j = l2.take j) (fun j => ([(5, true, .int .i64 (j : Int)), (0, true, .slice p n c), (1, true, .slice q n d)], σ)) (fun j => n - j) 0
      ⟨by omega, by simp⟩ (Le.sub (FLe.cons rfl rfl (FLe.cons rfl rfl (FLe.cons rfl rfl (FLe.nil _)))) (List.Sublist.refl _)) ?_
    rintro j ⟨hj, he⟩
    dsimp only
    repeat' (first | refine KW.seq ?_ | refine KW.region ?_ | refine KO.nil ?_ | refine At.then_normal ?_ | refine KW.skip ?_ | refine KW.ret ?_ | refine At.then_ret ?_ | refine KW.block ?_ | refine KW.exit ?_ | refine At.block_ret ?_ | refine At.loop_ret ?_ | refine KW.drawU rfl (by decide +kernel) ?_ | refine KD.zero ?_ | ((first | apply KO.val rfl rfl rfl ?kq ?_ | apply KD.val rfl rfl rfl ?kq ?_); (case kq => ((first | ((first | apply qt_add rfl rfl rfl ?hi ?om | apply qt_indexAddr_slice rfl rfl rfl ?hi rfl rfl ?om); (case om => (intro hg; first | omega ))) | apply qt_ev rfl ?hi ); (case hi => (intro h; (repeat' (first | with_reducible exact alln | with_reducible refine allc ?_ ?_ | with_reducible refine andi ?_ ?_)); all_goals (first | with_reducible rfl )))))) | (refine KW.cond rfl ?_ ?_ <;> (intro hc; try simp only [kBool] at hc)) | ((have hjn : (0 : Int) ≤ j ∧ (j : Int) < n := by omega); (obtain ⟨b1, o1, rfl, h1⟩ := hp.2 (by omega)); (obtain ⟨b2, o2, rfl, h2⟩ := hq.2 (by omega)); (obtain ⟨x, hx⟩ : ∃ z, l1[j]? = some z := ⟨_, List.getElem?_eq_getElem (by omega)⟩); (obtain ⟨u, hu⟩ : ∃ z, l2[j]? = some z := ⟨_, List.getElem?_eq_getElem (by omega)⟩); clear hp hq) | ((first | apply KD.val (g := true) rfl rfl rfl ); (first | (apply qt_load1_cel rfl rfl ?hi rfl rfl ?hc; (case hc => first | exact fun _ => (cel8 h1 hx) | exact fun _ => (cel8 h2 hu)))); (case hi => (first | exact fun _ => rfl ))) | fail)
    · ((first | apply At.done_ret ); (focus (repeat' (first | exact ResVs.nil' | apply ResVs.cons' | exact ResV.tmp' rfl ))); dsimp only [resVal])
      have : l1 ≠ l2 := fun e => by
        subst e
        rw [hx] at hu
        simp only [Option.some.injEq] at hu
        omega
      simp [this]
    · have hxu : x = u := by omega
      subst hxu
      refine At.loop_on (j + 1) ⟨by omega, ?_⟩ (by omega) (Le.sub (FLe.cons rfl rfl (FLe.cons rfl rfl (FLe.cons rfl rfl (FLe.nil _)))) (List.Sublist.refl _))
      rw [List.take_add_one, List.take_add_one, he, hx, hu]
    · ((first | apply At.done_ret ); (focus (repeat' (first | exact ResVs.nil' | apply ResVs.cons' | exact ResV.tmp' rfl ))); dsimp only [resVal])
      have : j = n := by omega
      subst this
      rw [List.take_of_length_le (by omega), List.take_of_length_le (by omega)] at he
      simp [he]
theorem isOk_p (β : Nat → Option Obj) (f what : ByteArray) : Go.K.Tr Tryd.prog 13 [.nilIface, .agg #[.int .i64 0, .string f], .string what] β [] (fun v s => v = .bool true ∧ s = []) := by
  refine Tr.sub ?_
  refine Tr.of_body Tryd.tt (args := [.nilIface, .agg #[.int .i64 0, .string f], .string what]) (fr := [(0, true, .nilIface), (1, true, .agg #[.int .i64 0, .string f]), (2, true, .string what)]) Tryd.func13 rfl (by decide) rfl Tryd.ntmps13 rfl rfl ?_
  intro E hE
  subst hE
  repeat' (first | refine KW.seq ?_ | refine KW.region ?_ | refine KO.nil ?_ | refine At.then_normal ?_ | refine KW.ret ?_ | refine At.then_ret ?_ | refine KW.cond_t rfl (by first | decide) ?_ | ((first | apply KO.val rfl rfl rfl ?kq ?_ ); (case kq => ((first | apply qt_ev rfl ?hi | ((first | apply qt_load1 rfl rfl ?hi rfl rfl ?hm ?hc ); (case hm => repeat (first | exact List.Mem.head _ )); (case hc => rfl)) | apply qt_eqs rfl rfl rfl ?hi rfl (Or.inr ⟨rfl, rfl, rfl⟩) ); (case hi => (intro h; (repeat' (first | with_reducible exact alln | with_reducible refine allc ?_ ?_ | with_reducible refine andi ?_ ?_)); all_goals (first | with_reducible rfl )))))) | (refine KO.box rfl rfl rfl rfl rfl rfl ?_; intro _ _) | fail)
  ((first | apply At.done_ret ); (focus (repeat' (first | exact ResVs.nil' | apply ResVs.cons' | exact ResV.tmp' rfl ))); dsimp only [resVal])
  exact ⟨[], List.nil_sublist _, rfl, rfl⟩
/-- The error of a field, as a tree. -/
def ErrF (b c : Nat) (what n : ByteArray) (e : Int) : ErrT := .fault b what (.fault c n (.code e))
theorem ErrF.trail (b c : Nat) (what n : ByteArray) (e : Int) : (ErrF b c what n e).trail = [what, n] := rfl
theorem ErrF.first (b c : Nat) (what n : ByteArray) (e : Int) : (ErrF b c what n e).first = e := rfl
theorem isBad_p (β : Nat → Option Obj) (hty : TBE β) (b c : Nat) (what n : ByteArray) (e : Int) (he : e ≠ 0) (hL : (ErrF b c what n e).Lies β []) :
    Go.K.Tr Tryd.prog 13 [.iface 100 (.pointer (some ⟨b, 0, none⟩)), .agg #[.int .i64 e, .string n], .string what] β [] (fun v s => v = .bool true ∧ s = []) := by
  refine Tr.sub ?_
  refine Tr.of_body Tryd.tt (args := [.iface 100 (.pointer (some ⟨b, 0, none⟩)), .agg #[.int .i64 e, .string n], .string what]) (fr := [(0, true, .iface 100 (.pointer (some ⟨b, 0, none⟩))), (1, true, .agg #[.int .i64 e, .string n]), (2, true, .string what)]) Tryd.func13 rfl (by decide) rfl Tryd.ntmps13 rfl rfl ?_
  intro E hE
  subst hE
  have hTr := Trail_p E.β _ hL
  have hCo := Code_p E.β hty _ hL
  rw [ErrF.trail] at hTr
  rw [ErrF.first] at hCo
  repeat' (first | refine KW.seq ?_ | refine KW.region ?_ | refine KO.nil ?_ | refine At.then_normal ?_ | refine KW.skip ?_ | refine KW.ret ?_ | refine At.then_ret ?_ | ((first | apply KO.val rfl rfl rfl ?kq ?_ ); (case kq => ((first | apply qt_ev rfl ?hi | ((first | apply qt_load1 rfl rfl ?hi rfl rfl ?hm ?hc ); (case hm => repeat (first | exact List.Mem.head _ )); (case hc => rfl)) | apply qt_eqs rfl rfl rfl ?hi rfl (Or.inl rfl) ); (case hi => (intro h; (repeat' (first | with_reducible exact alln | with_reducible refine allc ?_ ?_ | with_reducible refine andi ?_ ?_)); all_goals (first | with_reducible rfl )))))) | (refine KO.box rfl rfl rfl rfl rfl rfl ?_; intro _ _) | (refine KW.cond rfl ?_ ?_ <;> (intro hc; try simp only [kBool] at hc)) | (exfalso; omega) | fail)
  rename_i b4 _
  refine KO.callF [] [(b4, cl [.int .i64 e, .string n] 34)] (by classical exact List.perm_iff_count.2 (fun _ => by first | (simp only [List.count_append, List.count_cons, List.count_nil, List.append_assoc, List.cons_append, List.nil_append]; done) )) rfl rfl rfl rfl rfl rfl rfl hTr ?_
  rintro zT φT hT
  obtain ⟨pT, cT, rfl⟩ := hT.len
  have hS := fun (σ : Heap) (hm : ∀ q ∈ φT, q ∈ σ) => SL.ofVec (β := E.β) hT hm
  obtain ⟨bt, ot, rfl, ht⟩ := (hS φT (fun q h => h)).2 (Nat.succ_pos _)
  have h0 := fun (σ : Heap) (hm : ∀ q ∈ φT, q ∈ σ) => (ht 0 (.string what) rfl).mono hm
  have h1 := fun (σ : Heap) (hm : ∀ q ∈ φT, q ∈ σ) => (ht 1 (.string n) rfl).mono hm
  repeat' (first | refine KW.seq ?_ | refine KO.nil ?_ | refine At.then_normal ?_ | refine KW.ret ?_ | refine KW.drawU rfl (by decide +kernel) ?_ | refine KD.zero ?_ | ((first | apply KO.val rfl rfl rfl ?kq ?_ | apply KD.val rfl rfl rfl ?kq ?_ ); (case kq => ((first | ((first | apply qt_indexAddr_slice rfl rfl rfl ?hi rfl rfl ?om); (case om => (intro hg; first | (simp only [kBool] at hg; omega)))) | apply qt_ev rfl ?hi | ((first | apply qt_load1 rfl rfl ?hi rfl rfl ?hm ?hc ); (case hm => repeat (first | exact List.Mem.head _ | apply List.mem_append_right _)); (case hc => rfl)) | refine qt_callQ rfl rfl ?hi (fun hg => Tr.quiet hCo) | apply qt_streq rfl rfl rfl ?hi | ((first | apply qt_pick_and rfl rfl rfl ?hi ?pj ); (case pj => (intro h h2; first | with_reducible exact h2 ))) ); (case hi => (intro h; (repeat' (first | with_reducible exact alln | with_reducible refine allc ?_ ?_ | with_reducible refine andi ?_ ?_)); all_goals (first | with_reducible rfl | with_reducible exact h | with_reducible exact andl h | with_reducible exact andr h | with_reducible exact andl (andl h) | (simp [h]; done) )))))) | ((first | apply KD.val rfl rfl rfl ); (first | (apply qt_load1_cel rfl rfl ?hi rfl rfl ?hc; (case hc => first | exact fun _ => (h0 _ (fun q h => List.mem_append_left _ h)) | exact fun _ => (h1 _ (fun q h => List.mem_append_left _ h))))); (case hi => (first | (intro h; first | exact h )))) | fail)
  ((first | apply At.done_ret ); (focus (repeat' (first | exact ResVs.nil' | apply ResVs.cons' | exact ResV.tmp' rfl ))); dsimp only [resVal])
  exact ⟨[], List.nil_sublist _, by simp, rfl⟩
end Go.Proofs.YtnaclkdjchnbpaaDoor

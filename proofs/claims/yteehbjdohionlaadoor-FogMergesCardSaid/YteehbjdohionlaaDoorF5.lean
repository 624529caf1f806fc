/- Fogs: sets of cells; looks that were handed in; the chapter's examples. -/
import Derived.Test.YteehbjdohionlaaDoorF4
import Derived.Test.YteehbjdohionlaaDoorAR
namespace Go.Proofs.YteehbjdohionlaaDoor
open Go Go.K Go.ChangeShapes Go.WideShapes Go.ChangeAt Go.RowKit

def putL (w h : Int) (f : Nat → Bool) (l : List (Int × Int)) : Nat → Bool := l.foldl (fun f c => mSet w h f c.1 c.2 true) f
theorem putL_append (w h : Int) (f : Nat → Bool) (a b : List (Int × Int)) : putL w h f (a ++ b) = putL w h (putL w h f a) b := by simp [putL]
theorem mSet_past {w h : Int} {n : Nat} (hn : (n : Int) = w * h) {f : Nat → Bool} {x y : Int} {b : Bool} (hf : ∀ i, n ≤ i → f i = false) : ∀ i, n ≤ i → mSet w h f x y b i = false := fun i hi => by
  unfold mSet upd
  split
  · rename_i hin
    obtain ⟨j, e1, _, e3, _⟩ := idx_lt hin
    dsimp only
    rw [if_neg (by omega)]
    exact hf i hi
  · exact hf i hi
theorem putL_past {w h : Int} {n : Nat} (hn : (n : Int) = w * h) : ∀ (l : List (Int × Int)) (f : Nat → Bool), (∀ i, n ≤ i → f i = false) → ∀ i, n ≤ i → putL w h f l i = false
  | [], f, hf => hf
  | c :: l, f, hf => putL_past hn l _ (mSet_past hn hf)
/-- The cells of a list, as a set. -/
def stL (w h : Int) (l : List (Int × Int)) : Nat → Bool := putL w h (fun _ => false) l
theorem stL_past {w h : Int} {n : Nat} (hn : (n : Int) = w * h) (l : List (Int × Int)) : ∀ i, n ≤ i → stL w h l i = false := putL_past hn l _ (fun _ _ => rfl)
/-- A set of cells, where there is one. -/
def setM (w h : Int) (l : List (Int × Int)) (mp : Option Addr) (M : Heap) : Prop :=
  (gMay w h = false ∧ mp = none ∧ M = []) ∨ (gMay w h = true ∧ ∃ bm bw, mp = some ⟨bm, 0, none⟩ ∧ M = maskC bm bw (nwO w h) w h (stL w h l))
def MaskO (β : Nat → Option Obj) (w h : Int) (l : List (Int × Int)) (mp : Option Addr) : Prop :=
  (gMay w h = false ∧ mp = none) ∨ (gMay w h = true ∧ ∃ bm bw, mp = some ⟨bm, 0, none⟩ ∧ MaskR β [] w h (nwO w h) (stL w h l) bm bw)
theorem setM.frz {w h : Int} {l : List (Int × Int)} {mp : Option Addr} {M : Heap} {β' : Nat → Option Obj} (h1 : setM w h l mp M) (h2 : ∀ p ∈ M, β' p.1 = some p.2) : MaskO β' w h l mp := by
  rcases h1 with ⟨a, b, _⟩ | ⟨a, bm, bw, b, rfl⟩
  · exact .inl ⟨a, b⟩
  · exact .inr ⟨a, bm, bw, b, MaskR.frz (β := fun _ => none) (fun _ _ h => by cases h) h2 (MaskR.of (fun r hr => hr))⟩
theorem set_p (β : Nat → Option Obj) (w h : Int) (q : Option Addr) (k d : Nat) (l : List (Int × Int)) (hk : l.length = k) (hkb : k ≤ 1000000) (hq : SL β [] 2 k (fl2 l) q) :
    Go.K.Tr Tryd.prog 13 [.agg #[.int .i64 w, .int .i64 h], .slice q k d] β [] (fun z σ => ∃ mp, z = .pointer mp ∧ setM w h l mp σ) := by
  refine Tr.sub ?_
  refine Tr.of_body Tryd.tt (args := [.agg #[.int .i64 w, .int .i64 h], .slice q k d]) (fr := [(0, true, .agg #[.int .i64 w, .int .i64 h]), (1, true, .slice q k d)]) Tryd.func13 rfl (by decide) rfl Tryd.ntmps13 rfl rfl ?_
  intro E hE
  subst hE
  repeat' (first | refine KW.seq ?_ | refine KW.region ?_ | refine KO.nil ?_ | refine At.then_normal ?_ | refine KW.skip ?_ | refine KW.ret ?_ | refine At.then_ret ?_ | refine KW.block ?_ | refine KW.exit ?_ | refine At.block_normal ?_ | refine At.block_ret ?_ | refine At.loop_ret ?_ | refine At.then_exit ?_ | refine At.block_here rfl ?_ | refine At.block_there rfl ?_ | refine At.loop_exit ?_ | refine At.cut_ret ?_ | refine At.cutA_ret ?_ | refine At.cutA_exit ?_ | refine At.cut_exit ?_ | (refine At.cut_same ?_; repeat' (first | exact FLe.nil _ | refine FLe.cons rfl rfl ?_)) | refine KW.cond_t rfl (by first | with_reducible rfl | decide) ?_ | refine KW.cond_f rfl (by first | with_reducible rfl | decide) ?_ | refine KW.scope ?_ | refine KW.label ?_ | refine At.scope_normal ?_ | refine At.scope_ret ?_ | refine At.scope_exit ?_ | ((first | apply KO.val rfl rfl rfl ?kq ?_); (case kq => ((first | ((first | apply qt_add rfl rfl rfl ?hi ?om | apply qt_indexAddr_arr rfl rfl rfl ?hi rfl rfl ?om | apply qt_indexAddr_slice rfl rfl rfl ?hi rfl rfl ?om); (case om => (intro hg; first | omega | (simp only [kBool] at hg; omega)))) | apply qt_ev rfl ?hi | ((first | apply qt_load1 rfl rfl ?hi rfl rfl ?hm ?hc | apply qt_loadN rfl rfl ?hi rfl rfl rfl ?hm ?hc); (case hm => repeat (first | exact List.Mem.head _ | apply List.Mem.tail _ | apply List.mem_append_right _)); (case hc => rfl)) | apply qt_cap rfl rfl ?hi rfl | apply qt_eqs rfl rfl rfl ?hi rfl (Or.inl rfl) | apply qt_nes rfl rfl rfl ?hi rfl (Or.inl rfl)); (case hi => (intro h; (repeat' (first | with_reducible exact alln | with_reducible refine allc ?_ ?_ | with_reducible refine andi ?_ ?_)); all_goals (first | with_reducible rfl | with_reducible exact h | with_reducible exact andl h | with_reducible exact andr h | with_reducible exact andl (andl h) | (simp only [h, Bool.and_self]; done) | (simp [h]; done) | (simp_all; done))))))) | (refine KO.box rfl rfl rfl rfl rfl rfl ?_; intro _ _) | (refine KW.cond rfl ?_ ?_ <;> (intro hc; try simp only [kBool] at hc)) | exact absurd trivial ‹¬True› | fail)
  rename_i b2 _
  refine KO.callE rfl rfl rfl rfl rfl rfl rfl rfl (New_p _ w h) ?_
  rintro _ _ (⟨h1, rfl, rfl⟩ | ⟨hg, bm, bw, rfl, rfl⟩)
  · skip
    repeat' (first | refine KW.seq ?_ | refine KW.region ?_ | refine KO.nil ?_ | refine At.then_normal ?_ | refine KW.skip ?_ | refine KW.ret ?_ | refine At.then_ret ?_ | refine KW.block ?_ | refine KW.exit ?_ | refine At.block_normal ?_ | refine At.block_ret ?_ | refine At.loop_ret ?_ | refine At.then_exit ?_ | refine At.block_here rfl ?_ | refine At.block_there rfl ?_ | refine At.loop_exit ?_ | refine At.cut_ret ?_ | refine At.cutA_ret ?_ | refine At.cutA_exit ?_ | refine At.cut_exit ?_ | (refine At.cut_same ?_; repeat' (first | exact FLe.nil _ | refine FLe.cons rfl rfl ?_)) | refine KW.cond_t rfl (by first | with_reducible rfl | decide) ?_ | refine KW.cond_f rfl (by first | with_reducible rfl | decide) ?_ | refine KW.scope ?_ | refine KW.label ?_ | refine At.scope_normal ?_ | refine At.scope_ret ?_ | refine At.scope_exit ?_ | ((first | apply KO.val rfl rfl rfl ?kq ?_); (case kq => ((first | ((first | apply qt_add rfl rfl rfl ?hi ?om | apply qt_indexAddr_arr rfl rfl rfl ?hi rfl rfl ?om | apply qt_indexAddr_slice rfl rfl rfl ?hi rfl rfl ?om); (case om => (intro hg; first | omega | (simp only [kBool] at hg; omega)))) | apply qt_ev rfl ?hi | ((first | apply qt_load1 rfl rfl ?hi rfl rfl ?hm ?hc | apply qt_loadN rfl rfl ?hi rfl rfl rfl ?hm ?hc); (case hm => repeat (first | exact List.Mem.head _ | apply List.Mem.tail _ | apply List.mem_append_right _)); (case hc => rfl)) | apply qt_cap rfl rfl ?hi rfl | apply qt_eqs rfl rfl rfl ?hi rfl (Or.inl rfl) | apply qt_nes rfl rfl rfl ?hi rfl (Or.inl rfl)); (case hi => (intro h; (repeat' (first | with_reducible exact alln | with_reducible refine allc ?_ ?_ | with_reducible refine andi ?_ ?_)); all_goals (first | with_reducible rfl | with_reducible exact h | with_reducible exact andl h | with_reducible exact andr h | with_reducible exact andl (andl h) | (simp only [h, Bool.and_self]; done) | (simp [h]; done) | (simp_all; done))))))) | (refine KO.box rfl rfl rfl rfl rfl rfl ?_; intro _ _) | (refine KW.cond rfl ?_ ?_ <;> (intro hc; try simp only [kBool] at hc)) | exact absurd trivial ‹¬True› | fail)
    ((first | apply At.done_ret | apply At.done_normal); (focus (repeat' (first | exact ResVs.nil' | apply ResVs.cons' | exact ResV.tmp' rfl | (apply ResV.cell1 rfl ?hm rfl rfl ?hc; (case hm => repeat (first | exact List.Mem.head _ | apply List.Mem.tail _ | apply List.mem_append_right _)); (case hc => rfl)) | (apply ResV.cellN rfl ?hm rfl rfl rfl ?hc; (case hm => repeat (first | exact List.Mem.head _ | apply List.Mem.tail _ | apply List.mem_append_right _)); (case hc => rfl))))); dsimp only [resVal])
    exact ⟨[], List.nil_sublist _, _, rfl, .inl ⟨h1, rfl, rfl⟩⟩
  obtain ⟨n1, n2, n3, _⟩ := nwO_bd hg
  repeat' (first | refine KW.seq ?_ | refine KW.region ?_ | refine KO.nil ?_ | refine At.then_normal ?_ | refine KW.skip ?_ | refine KW.ret ?_ | refine At.then_ret ?_ | refine KW.block ?_ | refine KW.exit ?_ | refine At.block_normal ?_ | refine At.block_ret ?_ | refine At.loop_ret ?_ | refine At.then_exit ?_ | refine At.block_here rfl ?_ | refine At.block_there rfl ?_ | refine At.loop_exit ?_ | refine At.cut_ret ?_ | refine At.cutA_ret ?_ | refine At.cutA_exit ?_ | refine At.cut_exit ?_ | (refine At.cut_same ?_; repeat' (first | exact FLe.nil _ | refine FLe.cons rfl rfl ?_)) | refine KW.cond_t rfl (by first | with_reducible rfl | decide) ?_ | refine KW.cond_f rfl (by first | with_reducible rfl | decide) ?_ | refine KW.scope ?_ | refine KW.label ?_ | refine At.scope_normal ?_ | refine At.scope_ret ?_ | refine At.scope_exit ?_ | ((first | apply KO.val rfl rfl rfl ?kq ?_); (case kq => ((first | ((first | apply qt_add rfl rfl rfl ?hi ?om | apply qt_indexAddr_arr rfl rfl rfl ?hi rfl rfl ?om | apply qt_indexAddr_slice rfl rfl rfl ?hi rfl rfl ?om); (case om => (intro hg; first | omega | (simp only [kBool] at hg; omega)))) | apply qt_ev rfl ?hi | ((first | apply qt_load1 rfl rfl ?hi rfl rfl ?hm ?hc | apply qt_loadN rfl rfl ?hi rfl rfl rfl ?hm ?hc); (case hm => repeat (first | exact List.Mem.head _ | apply List.Mem.tail _ | apply List.mem_append_right _)); (case hc => rfl)) | apply qt_cap rfl rfl ?hi rfl | apply qt_eqs rfl rfl rfl ?hi rfl (Or.inl rfl) | apply qt_nes rfl rfl rfl ?hi rfl (Or.inl rfl)); (case hi => (intro h; (repeat' (first | with_reducible exact alln | with_reducible refine allc ?_ ?_ | with_reducible refine andi ?_ ?_)); all_goals (first | with_reducible rfl | with_reducible exact h | with_reducible exact andl h | with_reducible exact andr h | with_reducible exact andl (andl h) | (simp only [h, Bool.and_self]; done) | (simp [h]; done) | (simp_all; done))))))) | (refine KO.box rfl rfl rfl rfl rfl rfl ?_; intro _ _) | (refine KW.cond rfl ?_ ?_ <;> (intro hc; try simp only [kBool] at hc)) | exact absurd trivial ‹¬True› | fail)
  refine KW.loop (fun s : Nat × (Nat → Bool) => s.1 ≤ k ∧ s.2 = putL w h (fun _ => false) (l.take s.1)) (fun s => ([(7, true, .int .i64 (s.1 : Int)), (5, true, .pointer (some ⟨bm, 0, none⟩)), (1, true, .slice q k d)], maskC bm bw (nwO w h) w h s.2)) (fun s => k - s.1) (0, fun _ => false)
    ⟨Nat.zero_le _, rfl⟩ (Le.sub (by repeat' (first | exact FLe.nil _ | refine FLe.cons rfl rfl ?_)) (List.sublist_append_left _ _)) ?_
  rintro ⟨j, f⟩ ⟨hj, hf⟩
  dsimp only at hj hf ⊢
  by_cases hjk : j < k
  · obtain ⟨⟨x, y⟩, hxy⟩ : ∃ z, l[j]? = some z := ⟨_, List.getElem?_eq_getElem (by omega)⟩
    obtain ⟨bq, oq, rfl, hq1⟩ := hq.2 (by omega)
    repeat' (first | refine KW.seq ?_ | refine KW.region ?_ | refine KO.nil ?_ | refine At.then_normal ?_ | refine KW.skip ?_ | refine KW.ret ?_ | refine At.then_ret ?_ | refine KW.block ?_ | refine KW.exit ?_ | refine At.block_normal ?_ | refine At.block_ret ?_ | refine At.loop_ret ?_ | refine At.then_exit ?_ | refine At.block_here rfl ?_ | refine At.block_there rfl ?_ | refine At.loop_exit ?_ | refine At.cut_ret ?_ | refine At.cutA_ret ?_ | refine At.cutA_exit ?_ | refine At.cut_exit ?_ | (refine At.cut_same ?_; repeat' (first | exact FLe.nil _ | refine FLe.cons rfl rfl ?_)) | refine KW.cond_t rfl (by first | with_reducible rfl | decide) ?_ | refine KW.cond_f rfl (by first | with_reducible rfl | decide) ?_ | refine KW.scope ?_ | refine KW.label ?_ | refine At.scope_normal ?_ | refine At.scope_ret ?_ | refine At.scope_exit ?_ | ((first | apply KO.val rfl rfl rfl ?kq ?_); (case kq => ((first | ((first | apply qt_add rfl rfl rfl ?hi ?om | apply qt_indexAddr_arr rfl rfl rfl ?hi rfl rfl ?om | apply qt_indexAddr_slice rfl rfl rfl ?hi rfl rfl ?om); (case om => (intro hg; first | omega | (simp only [kBool] at hg; omega)))) | apply qt_ev rfl ?hi | ((first | apply qt_load1 rfl rfl ?hi rfl rfl ?hm ?hc | apply qt_loadN rfl rfl ?hi rfl rfl rfl ?hm ?hc); (case hm => repeat (first | exact List.Mem.head _ | apply List.Mem.tail _ | apply List.mem_append_right _)); (case hc => rfl)) | apply qt_cap rfl rfl ?hi rfl | apply qt_eqs rfl rfl rfl ?hi rfl (Or.inl rfl) | apply qt_nes rfl rfl rfl ?hi rfl (Or.inl rfl)); (case hi => (intro h; (repeat' (first | with_reducible exact alln | with_reducible refine allc ?_ ?_ | with_reducible refine andi ?_ ?_)); all_goals (first | with_reducible rfl | with_reducible exact h | with_reducible exact andl h | with_reducible exact andr h | with_reducible exact andl (andl h) | (simp only [h, Bool.and_self]; done) | (simp [h]; done) | (simp_all; done))))))) | (refine KO.box rfl rfl rfl rfl rfl rfl ?_; intro _ _) | (refine KW.cond rfl ?_ ?_ <;> (intro hc; try simp only [kBool] at hc)) | exact absurd trivial ‹¬True› | ((first | apply KO.val (g := true) rfl rfl rfl); (first | (apply qt_loadN_cel rfl rfl ?hi rfl rfl rfl ?hl ?hc; (case hc => exact fun _ => ((fun i v hv => (cel2 hq1 hxy i v hv).mono (fun _ hq => by cases hq)))); (case hl => rfl)) | (apply qt_load1_cel rfl rfl ?hi rfl rfl ?hc; (case hc => first | exact fun _ => ((fun i v hv => (cel2 hq1 hxy i v hv).mono (fun _ hq => by cases hq)))))); (case hi => (first | exact fun _ => rfl | (intro h; first | rfl | exact h | (simp [h]; done) | (simp_all; done))))) | (exfalso; omega) | fail)
    refine KO.callF (maskC bm bw (nwO w h) w h f) [] (by classical exact List.perm_iff_count.2 (fun _ => by first | (simp only [List.count_append, List.count_cons, List.count_nil, List.append_assoc, List.cons_append, List.nil_append]; done) | (simp only [List.count_append, List.count_cons, List.count_nil, List.append_assoc, List.cons_append, List.nil_append]; omega))) rfl rfl rfl rfl rfl rfl rfl (Set_p _ w h x y true (nwO w h) f bm bw n1 (by omega)) ?_
    rintro _ _ ⟨rfl, rfl⟩
    rw [List.append_nil]
    repeat' (first | refine KW.seq ?_ | refine KW.region ?_ | refine KO.nil ?_ | refine At.then_normal ?_ | refine KW.skip ?_ | refine KW.ret ?_ | refine At.then_ret ?_ | refine KW.block ?_ | refine KW.exit ?_ | refine At.block_normal ?_ | refine At.block_ret ?_ | refine At.loop_ret ?_ | refine At.then_exit ?_ | refine At.block_here rfl ?_ | refine At.block_there rfl ?_ | refine At.loop_exit ?_ | refine At.cut_ret ?_ | refine At.cutA_ret ?_ | refine At.cutA_exit ?_ | refine At.cut_exit ?_ | (refine At.cut_same ?_; repeat' (first | exact FLe.nil _ | refine FLe.cons rfl rfl ?_)) | refine KW.cond_t rfl (by first | with_reducible rfl | decide) ?_ | refine KW.cond_f rfl (by first | with_reducible rfl | decide) ?_ | refine KW.scope ?_ | refine KW.label ?_ | refine At.scope_normal ?_ | refine At.scope_ret ?_ | refine At.scope_exit ?_ | ((first | apply KO.val rfl rfl rfl ?kq ?_); (case kq => ((first | ((first | apply qt_add rfl rfl rfl ?hi ?om | apply qt_indexAddr_arr rfl rfl rfl ?hi rfl rfl ?om | apply qt_indexAddr_slice rfl rfl rfl ?hi rfl rfl ?om); (case om => (intro hg; first | omega | (simp only [kBool] at hg; omega)))) | apply qt_ev rfl ?hi | ((first | apply qt_load1 rfl rfl ?hi rfl rfl ?hm ?hc | apply qt_loadN rfl rfl ?hi rfl rfl rfl ?hm ?hc); (case hm => repeat (first | exact List.Mem.head _ | apply List.Mem.tail _ | apply List.mem_append_right _)); (case hc => rfl)) | apply qt_cap rfl rfl ?hi rfl | apply qt_eqs rfl rfl rfl ?hi rfl (Or.inl rfl) | apply qt_nes rfl rfl rfl ?hi rfl (Or.inl rfl)); (case hi => (intro h; (repeat' (first | with_reducible exact alln | with_reducible refine allc ?_ ?_ | with_reducible refine andi ?_ ?_)); all_goals (first | with_reducible rfl | with_reducible exact h | with_reducible exact andl h | with_reducible exact andr h | with_reducible exact andl (andl h) | (simp only [h, Bool.and_self]; done) | (simp [h]; done) | (simp_all; done))))))) | (refine KO.box rfl rfl rfl rfl rfl rfl ?_; intro _ _) | (refine KW.cond rfl ?_ ?_ <;> (intro hc; try simp only [kBool] at hc)) | exact absurd trivial ‹¬True› | ((first | apply KO.val (g := true) rfl rfl rfl); (first | (apply qt_loadN_cel rfl rfl ?hi rfl rfl rfl ?hl ?hc; (case hc => exact fun _ => ((fun i v hv => (cel2 hq1 hxy i v hv).mono (fun _ hq => by cases hq)))); (case hl => rfl)) | (apply qt_load1_cel rfl rfl ?hi rfl rfl ?hc; (case hc => first | exact fun _ => ((fun i v hv => (cel2 hq1 hxy i v hv).mono (fun _ hq => by cases hq)))))); (case hi => (first | exact fun _ => rfl | (intro h; first | rfl | exact h | (simp [h]; done) | (simp_all; done))))) | (exfalso; omega) | fail)
    refine At.loop_on (j + 1, mSet w h f x y true) ⟨by dsimp only; omega, ?_⟩ (by dsimp only; omega) (Le.perm (FLe.cons rfl (by dsimp only; rw [Int.natCast_add]; rfl) (by repeat' (first | exact FLe.nil _ | refine FLe.cons rfl rfl ?_))) (List.Perm.refl _))
    dsimp only
    rw [List.take_add_one, hxy, putL_append, ← hf]; rfl
  · have htr := trivial
    rw [List.take_of_length_le (by omega)] at hf
    repeat' (first | refine KW.seq ?_ | refine KW.region ?_ | refine KO.nil ?_ | refine At.then_normal ?_ | refine KW.skip ?_ | refine KW.ret ?_ | refine At.then_ret ?_ | refine KW.block ?_ | refine KW.exit ?_ | refine At.block_normal ?_ | refine At.block_ret ?_ | refine At.loop_ret ?_ | refine At.then_exit ?_ | refine At.block_here rfl ?_ | refine At.block_there rfl ?_ | refine At.loop_exit ?_ | refine At.cut_ret ?_ | refine At.cutA_ret ?_ | refine At.cutA_exit ?_ | refine At.cut_exit ?_ | (refine At.cut_same ?_; repeat' (first | exact FLe.nil _ | refine FLe.cons rfl rfl ?_)) | refine KW.cond_t rfl (by first | with_reducible rfl | decide) ?_ | refine KW.cond_f rfl (by first | with_reducible rfl | decide) ?_ | refine KW.scope ?_ | refine KW.label ?_ | refine At.scope_normal ?_ | refine At.scope_ret ?_ | refine At.scope_exit ?_ | ((first | apply KO.val rfl rfl rfl ?kq ?_); (case kq => ((first | ((first | apply qt_add rfl rfl rfl ?hi ?om | apply qt_indexAddr_arr rfl rfl rfl ?hi rfl rfl ?om | apply qt_indexAddr_slice rfl rfl rfl ?hi rfl rfl ?om); (case om => (intro hg; first | omega | (simp only [kBool] at hg; omega)))) | apply qt_ev rfl ?hi | ((first | apply qt_load1 rfl rfl ?hi rfl rfl ?hm ?hc | apply qt_loadN rfl rfl ?hi rfl rfl rfl ?hm ?hc); (case hm => repeat (first | exact List.Mem.head _ | apply List.Mem.tail _ | apply List.mem_append_right _)); (case hc => rfl)) | apply qt_cap rfl rfl ?hi rfl | apply qt_eqs rfl rfl rfl ?hi rfl (Or.inl rfl) | apply qt_nes rfl rfl rfl ?hi rfl (Or.inl rfl)); (case hi => (intro h; (repeat' (first | with_reducible exact alln | with_reducible refine allc ?_ ?_ | with_reducible refine andi ?_ ?_)); all_goals (first | with_reducible rfl | with_reducible exact h | with_reducible exact andl h | with_reducible exact andr h | with_reducible exact andl (andl h) | (simp only [h, Bool.and_self]; done) | (simp [h]; done) | (simp_all; done))))))) | (refine KO.box rfl rfl rfl rfl rfl rfl ?_; intro _ _) | (refine KW.cond rfl ?_ ?_ <;> (intro hc; try simp only [kBool] at hc)) | exact absurd trivial ‹¬True› | ((first | apply KO.val (g := true) rfl rfl rfl); (first | (apply qt_loadN_cel rfl rfl ?hi rfl rfl rfl ?hl ?hc; (case hc => exact fun _ => ((fun i v hv => (cel2 hq1 hxy i v hv).mono (fun _ hq => by cases hq)))); (case hl => rfl)) | (apply qt_load1_cel rfl rfl ?hi rfl rfl ?hc; (case hc => first | exact fun _ => ((fun i v hv => (cel2 hq1 hxy i v hv).mono (fun _ hq => by cases hq)))))); (case hi => (first | exact fun _ => rfl | (intro h; first | rfl | exact h | (simp [h]; done) | (simp_all; done))))) | (exfalso; omega) | fail)
    ((first | apply At.done_ret | apply At.done_normal); (focus (repeat' (first | exact ResVs.nil' | apply ResVs.cons' | exact ResV.tmp' rfl | (apply ResV.cell1 rfl ?hm rfl rfl ?hc; (case hm => repeat (first | exact List.Mem.head _ | apply List.Mem.tail _ | apply List.mem_append_right _)); (case hc => rfl)) | (apply ResV.cellN rfl ?hm rfl rfl rfl ?hc; (case hm => repeat (first | exact List.Mem.head _ | apply List.Mem.tail _ | apply List.mem_append_right _)); (case hc => rfl))))); dsimp only [resVal])
    exact ⟨maskC bm bw (nwO w h) w h f, List.Sublist.refl _, _, rfl, .inr ⟨hg, bm, bw, rfl, by rw [hf]; rfl⟩⟩
theorem cells_p (β : Nat → Option Obj) (σ : Heap) (l1 l2 : List (Int × Int)) (p q : Option Addr) (c d m n : Nat) (hm : l1.length = m) (hn : l2.length = n) (hp : SL β σ 2 m (fl2 l1) p) (hq : SL β σ 2 n (fl2 l2) q) (hb : m < 4611686018427387904) :
    Go.K.Tr Tryd.prog 24 [.slice p m c, .slice q n d] β σ (fun v σ' => v = .bool (decide (l1 = l2)) ∧ σ' = σ) := by
  refine Tr.of_body Tryd.tt (args := [.slice p m c, .slice q n d]) (fr := [(0, true, .slice p m c), (1, true, .slice q n d)]) Tryd.func24 rfl (by decide) rfl Tryd.ntmps24 rfl rfl ?_
  intro E hE
  subst hE
  repeat' (first | refine KW.seq ?_ | refine KW.region ?_ | refine KO.nil ?_ | refine At.then_normal ?_ | refine KW.skip ?_ | refine KW.ret ?_ | refine At.then_ret ?_ | refine KW.block ?_ | refine KW.exit ?_ | refine At.block_normal ?_ | refine At.block_ret ?_ | refine At.loop_ret ?_ | refine At.then_exit ?_ | refine At.block_here rfl ?_ | refine At.block_there rfl ?_ | refine At.loop_exit ?_ | refine At.cut_ret ?_ | refine At.cutA_ret ?_ | refine At.cutA_exit ?_ | refine At.cut_exit ?_ | (refine At.cut_same ?_; repeat' (first | exact FLe.nil _ | refine FLe.cons rfl rfl ?_)) | refine KW.cond_t rfl (by first | with_reducible rfl | decide) ?_ | refine KW.cond_f rfl (by first | with_reducible rfl | decide) ?_ | refine KW.scope ?_ | refine KW.label ?_ | refine At.scope_normal ?_ | refine At.scope_ret ?_ | refine At.scope_exit ?_ | refine KW.draw 0 (by decide +kernel) ?_ | refine KW.drawU rfl (by decide +kernel) ?_ | refine KD.zero ?_ | ((first | apply KO.val rfl rfl rfl ?kq ?_ | apply KD.val rfl rfl rfl ?kq ?_); (case kq => ((first | ((first | apply qt_add rfl rfl rfl ?hi ?om | apply qt_indexAddr_arr rfl rfl rfl ?hi rfl rfl ?om | apply qt_indexAddr_slice rfl rfl rfl ?hi rfl rfl ?om); (case om => (intro hg; first | omega | (simp only [kBool] at hg; omega)))) | apply qt_ev rfl ?hi | ((first | apply qt_load1 rfl rfl ?hi rfl rfl ?hm ?hc | apply qt_loadN rfl rfl ?hi rfl rfl rfl ?hm ?hc); (case hm => repeat (first | exact List.Mem.head _ | apply List.Mem.tail _ | apply List.mem_append_right _)); (case hc => rfl)) | apply qt_cap rfl rfl ?hi rfl | apply qt_eqs rfl rfl rfl ?hi rfl (Or.inl rfl) | apply qt_nes rfl rfl rfl ?hi rfl (Or.inl rfl)); (case hi => (intro h; (repeat' (first | with_reducible exact alln | with_reducible refine allc ?_ ?_ | with_reducible refine andi ?_ ?_)); all_goals (first | with_reducible rfl | with_reducible exact h | with_reducible exact andl h | with_reducible exact andr h | with_reducible exact andl (andl h) | (simp only [h, Bool.and_self]; done) | (simp [h]; done) | (simp_all; done))))))) | (refine KW.cond rfl ?_ ?_ <;> (intro hc; try simp only [kBool] at hc)) | exact absurd trivial ‹¬True› | fail)
  · ((first | apply At.done_ret | apply At.done_normal); (focus (repeat' (first | exact ResVs.nil' | apply ResVs.cons' | exact ResV.tmp' rfl | (apply ResV.cell1 rfl ?hm rfl rfl ?hc; (case hm => repeat (first | exact List.Mem.head _ | apply List.Mem.tail _ | apply List.mem_append_right _)); (case hc => rfl)) | (apply ResV.cellN rfl ?hm rfl rfl rfl ?hc; (case hm => repeat (first | exact List.Mem.head _ | apply List.Mem.tail _ | apply List.mem_append_right _)); (case hc => rfl))))); dsimp only [resVal])
    have : l1 ≠ l2 := fun e => by subst e; omega
    simp [this]
  · have hnm : n = m := by omega
    subst hnm
    refine KW.loop (fun j : Nat => j ≤ n ∧ l1.take j = l2.take j) (fun j => ([(5, true, .int .i64 (j : Int)), (0, true, .slice p n c), (1, true, .slice q n d)], σ)) (fun j => n - j) 0
      ⟨by omega, by simp⟩ (Le.sub (FLe.cons rfl rfl (FLe.cons rfl rfl (FLe.cons rfl rfl (FLe.nil _)))) (List.Sublist.refl _)) ?_
    rintro j ⟨hj, he⟩
    dsimp only
    repeat' (first | refine KW.seq ?_ | refine KW.region ?_ | refine KO.nil ?_ | refine At.then_normal ?_ | refine KW.skip ?_ | refine KW.ret ?_ | refine At.then_ret ?_ | refine KW.block ?_ | refine KW.exit ?_ | refine At.block_normal ?_ | refine At.block_ret ?_ | refine At.loop_ret ?_ | refine At.then_exit ?_ | refine At.block_here rfl ?_ | refine At.block_there rfl ?_ | refine At.loop_exit ?_ | refine At.cut_ret ?_ | refine At.cutA_ret ?_ | refine At.cutA_exit ?_ | refine At.cut_exit ?_ | (refine At.cut_same ?_; repeat' (first | exact FLe.nil _ | refine FLe.cons rfl rfl ?_)) | refine KW.cond_t rfl (by first | with_reducible rfl | decide) ?_ | refine KW.cond_f rfl (by first | with_reducible rfl | decide) ?_ | refine KW.scope ?_ | refine KW.label ?_ | refine At.scope_normal ?_ | refine At.scope_ret ?_ | refine At.scope_exit ?_ | refine KW.draw 0 (by decide +kernel) ?_ | refine KW.drawU rfl (by decide +kernel) ?_ | refine KD.zero ?_ | ((first | apply KO.val rfl rfl rfl ?kq ?_ | apply KD.val rfl rfl rfl ?kq ?_); (case kq => ((first | ((first | apply qt_add rfl rfl rfl ?hi ?om | apply qt_indexAddr_arr rfl rfl rfl ?hi rfl rfl ?om | apply qt_indexAddr_slice rfl rfl rfl ?hi rfl rfl ?om); (case om => (intro hg; first | omega | (simp only [kBool] at hg; omega)))) | apply qt_ev rfl ?hi | ((first | apply qt_load1 rfl rfl ?hi rfl rfl ?hm ?hc | apply qt_loadN rfl rfl ?hi rfl rfl rfl ?hm ?hc); (case hm => repeat (first | exact List.Mem.head _ | apply List.Mem.tail _ | apply List.mem_append_right _)); (case hc => rfl)) | apply qt_cap rfl rfl ?hi rfl | apply qt_eqs rfl rfl rfl ?hi rfl (Or.inl rfl) | apply qt_nes rfl rfl rfl ?hi rfl (Or.inl rfl)); (case hi => (intro h; (repeat' (first | with_reducible exact alln | with_reducible refine allc ?_ ?_ | with_reducible refine andi ?_ ?_)); all_goals (first | with_reducible rfl | with_reducible exact h | with_reducible exact andl h | with_reducible exact andr h | with_reducible exact andl (andl h) | (simp only [h, Bool.and_self]; done) | (simp [h]; done) | (simp_all; done))))))) | (refine KW.cond rfl ?_ ?_ <;> (intro hc; try simp only [kBool] at hc)) | exact absurd trivial ‹¬True› | ((have hjn : (0 : Int) ≤ j ∧ (j : Int) < n := by omega); (obtain ⟨b1, o1, rfl, h1⟩ := hp.2 (by omega)); (obtain ⟨b2, o2, rfl, h2⟩ := hq.2 (by omega)); (obtain ⟨⟨x, y⟩, hxy⟩ : ∃ z, l1[j]? = some z := ⟨_, List.getElem?_eq_getElem (by omega)⟩); (obtain ⟨⟨u, v⟩, huv⟩ : ∃ z, l2[j]? = some z := ⟨_, List.getElem?_eq_getElem (by omega)⟩); clear hp hq) | ((first | apply KO.val (g := true) rfl rfl rfl | apply KD.val (g := true) rfl rfl rfl | apply KDE.val (g := true) rfl rfl rfl | apply KDE.val rfl rfl rfl | apply KDH.val0 (g := true) rfl rfl rfl | apply KDH.val1 (g := true) rfl rfl rfl | apply KD.val rfl rfl rfl | apply KDH.val0 rfl rfl rfl); (first | (apply qt_loadN_cel rfl rfl ?hi rfl rfl rfl ?hl ?hc; (case hc => exact fun _ => (cel2 h1 hxy)); (case hl => rfl)) | (apply qt_loadN_cel rfl rfl ?hi rfl rfl rfl ?hl ?hc; (case hc => exact fun _ => (cel2 h2 huv)); (case hl => rfl)) | (apply qt_load1_cel rfl rfl ?hi rfl rfl ?hc; (case hc => first | exact fun _ => (cel2 h1 hxy) | exact fun _ => (cel2 h2 huv)))); (case hi => (first | exact fun _ => rfl | (intro h; first | rfl | exact h | (simp [h]; done) | (simp_all; done))))) | fail)
    · ((first | apply At.done_ret | apply At.done_normal); (focus (repeat' (first | exact ResVs.nil' | apply ResVs.cons' | exact ResV.tmp' rfl | (apply ResV.cell1 rfl ?hm rfl rfl ?hc; (case hm => repeat (first | exact List.Mem.head _ | apply List.Mem.tail _ | apply List.mem_append_right _)); (case hc => rfl)) | (apply ResV.cellN rfl ?hm rfl rfl rfl ?hc; (case hm => repeat (first | exact List.Mem.head _ | apply List.Mem.tail _ | apply List.mem_append_right _)); (case hc => rfl))))); dsimp only [resVal])
      have : l1 ≠ l2 := fun e => by
        subst e
        rw [hxy] at huv
        simp only [Option.some.injEq, Prod.mk.injEq] at huv
        rcases hc with h | h
        · exact h huv.1
        · exact h huv.2
      simp [this]
    · obtain ⟨rfl, rfl⟩ := hc
      refine At.loop_on (j + 1) ⟨by omega, ?_⟩ (by omega) (Le.sub (FLe.cons rfl rfl (FLe.cons rfl rfl (FLe.cons rfl rfl (FLe.nil _)))) (List.Sublist.refl _))
      rw [List.take_add_one, List.take_add_one, he, hxy, huv]
    · ((first | apply At.done_ret | apply At.done_normal); (focus (repeat' (first | exact ResVs.nil' | apply ResVs.cons' | exact ResV.tmp' rfl | (apply ResV.cell1 rfl ?hm rfl rfl ?hc; (case hm => repeat (first | exact List.Mem.head _ | apply List.Mem.tail _ | apply List.mem_append_right _)); (case hc => rfl)) | (apply ResV.cellN rfl ?hm rfl rfl rfl ?hc; (case hm => repeat (first | exact List.Mem.head _ | apply List.Mem.tail _ | apply List.mem_append_right _)); (case hc => rfl))))); dsimp only [resVal])
      have : j = n := by omega
      subst this
      rw [List.take_of_length_le (by omega), List.take_of_length_le (by omega)] at he
      simp [he]

/-- A look that was handed in: a field, and cells. -/
structure LookV where
  w : Int
  h : Int
  p : Option Addr
  m : Nat
  c : Nat
  cs : List Nat
  q : Option Addr
  k : Nat
  d : Nat
  l : List (Int × Int)
def fl4 : List LookV → List Value
  | [] => []
  | x :: r => .int .i64 x.w :: .int .i64 x.h :: .slice x.p x.m x.c :: .slice x.q x.k x.d :: fl4 r
theorem fl4_get : ∀ {ls : List LookV} {i : Nat} {x : LookV}, ls[i]? = some x → (fl4 ls)[i * 4]? = some (.int .i64 x.w) ∧ (fl4 ls)[i * 4 + 1]? = some (.int .i64 x.h) ∧ (fl4 ls)[i * 4 + 2]? = some (.slice x.p x.m x.c) ∧ (fl4 ls)[i * 4 + 3]? = some (.slice x.q x.k x.d)
  | [], i, x, h => by simp at h
  | y :: r, 0, x, h => by
    simp only [List.getElem?_cons_zero, Option.some.injEq] at h
    subst h
    exact ⟨rfl, rfl, rfl, rfl⟩
  | y :: r, i + 1, x, h => by
    have ih := fl4_get (ls := r) (i := i) (x := x) (by simpa using h)
    rw [show (i + 1) * 4 = i * 4 + 1 + 1 + 1 + 1 by omega]
    simpa [fl4] using ih
structure LookR (β : Nat → Option Obj) (x : LookV) : Prop where
  len : x.cs.length = x.m
  b16 : ∀ g ∈ x.cs, g < 65536
  sl : SL β [] 1 x.m (by16 x.cs) x.p
  kl : x.l.length = x.k
  ksl : SL β [] 2 x.k (fl2 x.l) x.q
structure LooksR (β : Nat → Option Obj) (ls : List LookV) (q : Option Addr) (k : Nat) : Prop where
  len : ls.length = k
  each : ∀ x ∈ ls, LookR β x
  sl : SL β [] 4 k (fl4 ls) q
theorem LookR.up {β β' : Nat → Option Obj} {x : LookV} (hb : ∀ b o, β b = some o → β' b = some o) (h : LookR β x) : LookR β' x := ⟨h.len, h.b16, h.sl.up hb, h.kl, h.ksl.up hb⟩
theorem LooksR.up {β β' : Nat → Option Obj} {ls : List LookV} {q : Option Addr} {k : Nat} (hb : ∀ b o, β b = some o → β' b = some o) (h : LooksR β ls q k) : LooksR β' ls q k := ⟨h.len, fun x hx => (h.each x hx).up hb, h.sl.up hb⟩
/-- The cells of a look: its field's size, its field, its cells. -/
theorem cl4s {β : Nat → Option Obj} {b off i : Nat} {ls : List LookV} {x : LookV} (h : ∀ (j : Nat) (u : Value), (fl4 ls)[j]? = some u → Cel β [] b (off + j) u) (hi : ls[i]? = some x) (σ : Heap) : ∀ (j : Nat) (v : Value), [Value.int .i64 x.w, .int .i64 x.h][j]? = some v → Cel β σ b (off + (i : Int).toNat * 4 + 0 + 0 + j) v := fun j v hv => by
  obtain ⟨g1, g2, _⟩ := fl4_get hi
  rw [Int.toNat_natCast]
  simp only [Nat.add_zero]
  rw [Nat.add_assoc]
  match j with
  | 0 => exact (h _ _ (by rw [← hv]; exact g1)).mono (fun _ hq => by cases hq)
  | 1 => exact (h _ _ (by rw [← hv]; exact g2)).mono (fun _ hq => by cases hq)
  | j + 2 => simp at hv
theorem cl4f {β : Nat → Option Obj} {b off i : Nat} {ls : List LookV} {x : LookV} (h : ∀ (j : Nat) (u : Value), (fl4 ls)[j]? = some u → Cel β [] b (off + j) u) (hi : ls[i]? = some x) (σ : Heap) : ∀ (j : Nat) (v : Value), [Value.int .i64 x.w, .int .i64 x.h, .slice x.p x.m x.c][j]? = some v → Cel β σ b (off + (i : Int).toNat * 4 + 0 + j) v := fun j v hv => by
  obtain ⟨g1, g2, g3, _⟩ := fl4_get hi
  rw [Int.toNat_natCast, Nat.add_zero, Nat.add_assoc]
  match j with
  | 0 => exact (h _ _ (by rw [← hv]; exact g1)).mono (fun _ hq => by cases hq)
  | 1 => exact (h _ _ (by rw [← hv]; exact g2)).mono (fun _ hq => by cases hq)
  | 2 => exact (h _ _ (by rw [← hv]; exact g3)).mono (fun _ hq => by cases hq)
  | j + 3 => simp at hv
theorem cl4a {β : Nat → Option Obj} {b off i : Nat} {ls : List LookV} {x : LookV} (h : ∀ (j : Nat) (u : Value), (fl4 ls)[j]? = some u → Cel β [] b (off + j) u) (hi : ls[i]? = some x) (σ : Heap) : Cel β σ b (off + (i : Int).toNat * 4 + 3) (.slice x.q x.k x.d) := by
  rw [Int.toNat_natCast, Nat.add_assoc]
  exact (h _ _ (fl4_get hi).2.2.2).mono (fun _ hq => by cases hq)
theorem cl4c {β : Nat → Option Obj} {b off i : Nat} {ls : List LookV} {x : LookV} (h : ∀ (j : Nat) (u : Value), (fl4 ls)[j]? = some u → Cel β [] b (off + j) u) (hi : ls[i]? = some x) (σ : Heap) : Cel β σ b (off + (i : Int).toNat * 4 + 0 + 2) (.slice x.p x.m x.c) := by
  rw [Int.toNat_natCast, Nat.add_zero, Nat.add_assoc]
  exact (h _ _ (fl4_get hi).2.2.1).mono (fun _ hq => by cases hq)
def smS (w h : Int) : Bool := !gMay w h || (decide (w ≤ 24) && decide (h ≤ 24))
def lkB (x : LookV) : Bool := sml x.w x.h x.m && decide (x.k ≤ 100)
def fewB (w h : Int) (k : Nat) (ls : List LookV) : Bool := smS w h && decide (k ≤ 20) && ls.all lkB
theorem few_p (β : Nat → Option Obj) (w h : Int) (q : Option Addr) (k d : Nat) (ls : List LookV) (hl : LooksR β ls q k) :
    Go.K.Tr Tryd.prog 9 [.agg #[.int .i64 w, .int .i64 h], .slice q k d] β [] (fun z σ => z = .bool (fewB w h k ls) ∧ σ = []) := by
  refine Tr.sub ?_
  refine Tr.of_body Tryd.tt (args := [.agg #[.int .i64 w, .int .i64 h], .slice q k d]) (fr := [(0, true, .agg #[.int .i64 w, .int .i64 h]), (1, true, .slice q k d)]) Tryd.func9 rfl (by decide) rfl Tryd.ntmps9 rfl rfl ?_
  intro E hE
  subst hE
  have hs := SmallS_p w h
  obtain ⟨B, hB⟩ : ∃ B, B = smS w h := ⟨_, rfl⟩
  rw [show (!gMay w h || (decide (w ≤ 24) && decide (h ≤ 24))) = B from hB.symm] at hs
  unfold fewB
  rw [← hB]
  have hkl := hl.len
  repeat' (first | refine KW.seq ?_ | refine KW.region ?_ | refine KO.nil ?_ | refine At.then_normal ?_ | refine KW.skip ?_ | refine KW.ret ?_ | refine At.then_ret ?_ | refine KW.block ?_ | refine KW.exit ?_ | refine At.block_normal ?_ | refine At.block_ret ?_ | refine At.loop_ret ?_ | refine At.then_exit ?_ | refine At.block_here rfl ?_ | refine At.block_there rfl ?_ | refine At.loop_exit ?_ | refine At.cut_ret ?_ | refine At.cutA_ret ?_ | refine At.cutA_exit ?_ | refine At.cut_exit ?_ | (refine At.cut_same ?_; repeat' (first | exact FLe.nil _ | refine FLe.cons rfl rfl ?_)) | refine KW.cond_t rfl (by first | with_reducible rfl | decide) ?_ | refine KW.cond_f rfl (by first | with_reducible rfl | decide) ?_ | refine KW.scope ?_ | refine KW.label ?_ | refine At.scope_normal ?_ | refine At.scope_ret ?_ | refine At.scope_exit ?_ | refine KO.skip' rfl (by first | with_reducible rfl | decide) rfl rfl ?_ | refine KO.skip0' rfl (by first | with_reducible rfl | decide) rfl ?_ | refine KO.skipIn rfl (by first | with_reducible rfl | decide) rfl rfl ?_ | ((first | apply KO.val rfl rfl rfl ?kq ?_ | apply KO.valIn rfl rfl rfl ?kq ?_); (case kq => ((first | ((first | apply qt_add rfl rfl rfl ?hi ?om | apply qt_indexAddr_arr rfl rfl rfl ?hi rfl rfl ?om | apply qt_indexAddr_slice rfl rfl rfl ?hi rfl rfl ?om); (case om => (intro hg; first | omega | (simp only [kBool] at hg; omega)))) | apply qt_ev rfl ?hi | ((first | apply qt_load1 rfl rfl ?hi rfl rfl ?hm ?hc | apply qt_loadN rfl rfl ?hi rfl rfl rfl ?hm ?hc); (case hm => repeat (first | exact List.Mem.head _ | apply List.Mem.tail _ | apply List.mem_append_right _)); (case hc => rfl)) | refine qt_call rfl rfl ?hi (fun hg => hs) | apply qt_pick_t rfl rfl (by first | with_reducible rfl | decide) rfl ?hi | apply qt_pick_f rfl rfl (by first | with_reducible rfl | decide) rfl ?hi | ((first | apply qt_pick_and rfl rfl rfl ?hi ?pj | apply qt_pick_or rfl rfl rfl ?hi ?pj); (case pj => (intro h h2; first | with_reducible exact h2 | with_reducible exact andi h h2 | (rw [h2]; rfl) | (rw [h, h2]; rfl) | with_reducible rfl | (simp [h2]; done) | (simp_all; done)))) | apply qt_cap rfl rfl ?hi rfl | apply qt_eqs rfl rfl rfl ?hi rfl (Or.inl rfl) | apply qt_nes rfl rfl rfl ?hi rfl (Or.inl rfl)); (case hi => (intro h; (repeat' (first | with_reducible exact alln | with_reducible refine allc ?_ ?_ | with_reducible refine andi ?_ ?_)); all_goals (first | with_reducible rfl | with_reducible exact h | with_reducible exact andl h | with_reducible exact andr h | with_reducible exact andl (andl h) | (simp only [h, Bool.and_self]; done) | (simp [h]; done) | (simp_all; done))))))) | (refine KO.box rfl rfl rfl rfl rfl rfl ?_; intro _ _) | (refine KW.cond rfl ?_ ?_ <;> (intro hc; try simp only [kBool] at hc)) | exact absurd trivial ‹¬True› | fail)
  · ((first | apply At.done_ret | apply At.done_normal); (focus (repeat' (first | exact ResVs.nil' | apply ResVs.cons' | exact ResV.tmp' rfl | (apply ResV.cell1 rfl ?hm rfl rfl ?hc; (case hm => repeat (first | exact List.Mem.head _ | apply List.Mem.tail _ | apply List.mem_append_right _)); (case hc => rfl)) | (apply ResV.cellN rfl ?hm rfl rfl rfl ?hc; (case hm => repeat (first | exact List.Mem.head _ | apply List.Mem.tail _ | apply List.mem_append_right _)); (case hc => rfl))))); dsimp only [resVal])
    refine ⟨[], List.nil_sublist _, ?_, rfl⟩
    rcases hc with h1 | h1
    · rw [h1]; rfl
    · rw [decide_eq_false (show ¬ k ≤ 20 by omega), Bool.and_false, Bool.false_and]
  · have hc1 := hc
    clear hc
    rw [hc1.1, decide_eq_true (show k ≤ 20 by omega), Bool.true_and, Bool.true_and]
    refine KW.loop (fun j : Nat => j ≤ k ∧ (ls.take j).all lkB = true) (fun j => ([(5, true, .int .i64 (j : Int)), (1, true, .slice q k d)], [])) (fun j => k - j) 0
      ⟨Nat.zero_le _, rfl⟩ (Le.sub (by repeat' (first | exact FLe.nil _ | refine FLe.cons rfl rfl ?_)) (List.nil_sublist _)) ?_
    rintro j ⟨hj, ha⟩
    dsimp only
    by_cases hjk : j < k
    · obtain ⟨x, hx⟩ : ∃ z, ls[j]? = some z := ⟨_, List.getElem?_eq_getElem (by omega)⟩
      obtain ⟨bq, oq, rfl, hq1⟩ := hl.sl.2 (by omega)
      have hf := cl4f hq1 hx
      have ha4 := cl4a hq1 hx
      have hsm := SmallF_p x.w x.h x.p x.m x.c
      obtain ⟨S, hS⟩ : ∃ S, S = sml x.w x.h x.m := ⟨_, rfl⟩
      rw [← hS] at hsm
      have hlb : lkB x = (S && decide (x.k ≤ 100)) := by rw [hS]; rfl
      repeat' (first | refine KW.seq ?_ | refine KW.region ?_ | refine KO.nil ?_ | refine At.then_normal ?_ | refine KW.skip ?_ | refine KW.ret ?_ | refine At.then_ret ?_ | refine KW.block ?_ | refine KW.exit ?_ | refine At.block_normal ?_ | refine At.block_ret ?_ | refine At.loop_ret ?_ | refine At.then_exit ?_ | refine At.block_here rfl ?_ | refine At.block_there rfl ?_ | refine At.loop_exit ?_ | refine At.cut_ret ?_ | refine At.cutA_ret ?_ | refine At.cutA_exit ?_ | refine At.cut_exit ?_ | (refine At.cut_same ?_; repeat' (first | exact FLe.nil _ | refine FLe.cons rfl rfl ?_)) | refine KW.cond_t rfl (by first | with_reducible rfl | decide) ?_ | refine KW.cond_f rfl (by first | with_reducible rfl | decide) ?_ | refine KW.scope ?_ | refine KW.label ?_ | refine At.scope_normal ?_ | refine At.scope_ret ?_ | refine At.scope_exit ?_ | refine KO.skip' rfl (by first | with_reducible rfl | decide) rfl rfl ?_ | refine KO.skip0' rfl (by first | with_reducible rfl | decide) rfl ?_ | refine KO.skipIn rfl (by first | with_reducible rfl | decide) rfl rfl ?_ | ((first | apply KO.val rfl rfl rfl ?kq ?_ | apply KO.valIn rfl rfl rfl ?kq ?_); (case kq => ((first | ((first | apply qt_add rfl rfl rfl ?hi ?om | apply qt_indexAddr_arr rfl rfl rfl ?hi rfl rfl ?om | apply qt_indexAddr_slice rfl rfl rfl ?hi rfl rfl ?om); (case om => (intro hg; first | omega | (simp only [kBool] at hg; omega)))) | apply qt_ev rfl ?hi | ((first | apply qt_load1 rfl rfl ?hi rfl rfl ?hm ?hc | apply qt_loadN rfl rfl ?hi rfl rfl rfl ?hm ?hc); (case hm => repeat (first | exact List.Mem.head _ | apply List.Mem.tail _ | apply List.mem_append_right _)); (case hc => rfl)) | refine qt_call rfl rfl ?hi (fun hg => hsm) | apply qt_pick_t rfl rfl (by first | with_reducible rfl | decide) rfl ?hi | apply qt_pick_f rfl rfl (by first | with_reducible rfl | decide) rfl ?hi | ((first | apply qt_pick_and rfl rfl rfl ?hi ?pj | apply qt_pick_or rfl rfl rfl ?hi ?pj); (case pj => (intro h h2; first | with_reducible exact h2 | with_reducible exact andi h h2 | (rw [h2]; rfl) | (rw [h, h2]; rfl) | with_reducible rfl | (simp [h2]; done) | (simp_all; done)))) | apply qt_cap rfl rfl ?hi rfl | apply qt_eqs rfl rfl rfl ?hi rfl (Or.inl rfl) | apply qt_nes rfl rfl rfl ?hi rfl (Or.inl rfl)); (case hi => (intro h; (repeat' (first | with_reducible exact alln | with_reducible refine allc ?_ ?_ | with_reducible refine andi ?_ ?_)); all_goals (first | with_reducible rfl | with_reducible exact h | with_reducible exact andl h | with_reducible exact andr h | with_reducible exact andl (andl h) | (simp only [h, Bool.and_self]; done) | (simp [h]; done) | (simp_all; done))))))) | (refine KO.box rfl rfl rfl rfl rfl rfl ?_; intro _ _) | (refine KW.cond rfl ?_ ?_ <;> (intro hc; try simp only [kBool] at hc)) | exact absurd trivial ‹¬True› | ((first | apply KO.val (g := true) rfl rfl rfl | apply KO.val rfl rfl rfl | apply KO.valIn rfl rfl rfl); (first | (apply qt_loadN_cel rfl rfl ?hi rfl rfl rfl ?hl ?hc; (case hc => exact fun _ => (hf _)); (case hl => rfl)) | (apply qt_loadN_cel rfl rfl ?hi rfl rfl rfl ?hl ?hc; (case hc => exact fun _ => (ha4 _)); (case hl => rfl)) | (apply qt_load1_cel rfl rfl ?hi rfl rfl ?hc; (case hc => first | exact fun _ => (hf _) | exact fun _ => (ha4 _)))); (case hi => (first | exact fun _ => rfl | (intro h; first | rfl | exact h | (simp [h]; done) | (simp_all; done))))) | (exfalso; omega) | fail)
      · ((first | apply At.done_ret | apply At.done_normal); (focus (repeat' (first | exact ResVs.nil' | apply ResVs.cons' | exact ResV.tmp' rfl | (apply ResV.cell1 rfl ?hm rfl rfl ?hc; (case hm => repeat (first | exact List.Mem.head _ | apply List.Mem.tail _ | apply List.mem_append_right _)); (case hc => rfl)) | (apply ResV.cellN rfl ?hm rfl rfl rfl ?hc; (case hm => repeat (first | exact List.Mem.head _ | apply List.Mem.tail _ | apply List.mem_append_right _)); (case hc => rfl))))); dsimp only [resVal])
        refine ⟨[], List.nil_sublist _, ?_, rfl⟩
        have : ls.all lkB = false := by
          rw [List.all_eq_false]
          refine ⟨x, List.mem_of_getElem? hx, ?_⟩
          rw [hlb]
          rcases hc with h1 | h1
          · rw [h1]; simp
          · rw [decide_eq_false (show ¬ x.k ≤ 100 by omega), Bool.and_false]; simp
        rw [this]
      · refine At.loop_on (j + 1) ⟨by omega, ?_⟩ (by omega) (Le.sub (FLe.cons rfl (by rw [Int.natCast_add]; rfl) (by repeat' (first | exact FLe.nil _ | refine FLe.cons rfl rfl ?_))) (List.nil_sublist _))
        rw [List.take_add_one, hx, List.all_append, ha]
        show (true && (lkB x && true)) = true
        rw [hlb, hc.1, decide_eq_true (show x.k ≤ 100 by omega)]; rfl
    · have htr := trivial
      repeat' (first | refine KW.seq ?_ | refine KW.region ?_ | refine KO.nil ?_ | refine At.then_normal ?_ | refine KW.skip ?_ | refine KW.ret ?_ | refine At.then_ret ?_ | refine KW.block ?_ | refine KW.exit ?_ | refine At.block_normal ?_ | refine At.block_ret ?_ | refine At.loop_ret ?_ | refine At.then_exit ?_ | refine At.block_here rfl ?_ | refine At.block_there rfl ?_ | refine At.loop_exit ?_ | refine At.cut_ret ?_ | refine At.cutA_ret ?_ | refine At.cutA_exit ?_ | refine At.cut_exit ?_ | (refine At.cut_same ?_; repeat' (first | exact FLe.nil _ | refine FLe.cons rfl rfl ?_)) | refine KW.cond_t rfl (by first | with_reducible rfl | decide) ?_ | refine KW.cond_f rfl (by first | with_reducible rfl | decide) ?_ | refine KW.scope ?_ | refine KW.label ?_ | refine At.scope_normal ?_ | refine At.scope_ret ?_ | refine At.scope_exit ?_ | refine KO.skip' rfl (by first | with_reducible rfl | decide) rfl rfl ?_ | refine KO.skip0' rfl (by first | with_reducible rfl | decide) rfl ?_ | refine KO.skipIn rfl (by first | with_reducible rfl | decide) rfl rfl ?_ | ((first | apply KO.val rfl rfl rfl ?kq ?_ | apply KO.valIn rfl rfl rfl ?kq ?_); (case kq => ((first | ((first | apply qt_add rfl rfl rfl ?hi ?om | apply qt_indexAddr_arr rfl rfl rfl ?hi rfl rfl ?om | apply qt_indexAddr_slice rfl rfl rfl ?hi rfl rfl ?om); (case om => (intro hg; first | omega | (simp only [kBool] at hg; omega)))) | apply qt_ev rfl ?hi | ((first | apply qt_load1 rfl rfl ?hi rfl rfl ?hm ?hc | apply qt_loadN rfl rfl ?hi rfl rfl rfl ?hm ?hc); (case hm => repeat (first | exact List.Mem.head _ | apply List.Mem.tail _ | apply List.mem_append_right _)); (case hc => rfl)) | apply qt_pick_t rfl rfl (by first | with_reducible rfl | decide) rfl ?hi | apply qt_pick_f rfl rfl (by first | with_reducible rfl | decide) rfl ?hi | ((first | apply qt_pick_and rfl rfl rfl ?hi ?pj | apply qt_pick_or rfl rfl rfl ?hi ?pj); (case pj => (intro h h2; first | with_reducible exact h2 | with_reducible exact andi h h2 | (rw [h2]; rfl) | (rw [h, h2]; rfl) | with_reducible rfl | (simp [h2]; done) | (simp_all; done)))) | apply qt_cap rfl rfl ?hi rfl | apply qt_eqs rfl rfl rfl ?hi rfl (Or.inl rfl) | apply qt_nes rfl rfl rfl ?hi rfl (Or.inl rfl)); (case hi => (intro h; (repeat' (first | with_reducible exact alln | with_reducible refine allc ?_ ?_ | with_reducible refine andi ?_ ?_)); all_goals (first | with_reducible rfl | with_reducible exact h | with_reducible exact andl h | with_reducible exact andr h | with_reducible exact andl (andl h) | (simp only [h, Bool.and_self]; done) | (simp [h]; done) | (simp_all; done))))))) | (refine KO.box rfl rfl rfl rfl rfl rfl ?_; intro _ _) | (refine KW.cond rfl ?_ ?_ <;> (intro hc; try simp only [kBool] at hc)) | exact absurd trivial ‹¬True› | ((first | apply KO.val (g := true) rfl rfl rfl | apply KO.val rfl rfl rfl | apply KO.valIn rfl rfl rfl); (first | (apply qt_loadN_cel rfl rfl ?hi rfl rfl rfl ?hl ?hc; (case hc => exact fun _ => (hf _)); (case hl => rfl)) | (apply qt_loadN_cel rfl rfl ?hi rfl rfl rfl ?hl ?hc; (case hc => exact fun _ => (ha4 _)); (case hl => rfl)) | (apply qt_load1_cel rfl rfl ?hi rfl rfl ?hc; (case hc => first | exact fun _ => (hf _) | exact fun _ => (ha4 _)))); (case hi => (first | exact fun _ => rfl | (intro h; first | rfl | exact h | (simp [h]; done) | (simp_all; done))))) | (exfalso; omega) | fail)
      ((first | apply At.done_ret | apply At.done_normal); (focus (repeat' (first | exact ResVs.nil' | apply ResVs.cons' | exact ResV.tmp' rfl | (apply ResV.cell1 rfl ?hm rfl rfl ?hc; (case hm => repeat (first | exact List.Mem.head _ | apply List.Mem.tail _ | apply List.mem_append_right _)); (case hc => rfl)) | (apply ResV.cellN rfl ?hm rfl rfl rfl ?hc; (case hm => repeat (first | exact List.Mem.head _ | apply List.Mem.tail _ | apply List.mem_append_right _)); (case hc => rfl))))); dsimp only [resVal])
      refine ⟨[], List.nil_sublist _, ?_, rfl⟩
      rw [List.take_of_length_le (by omega)] at ha
      rw [ha]
theorem shorts_of {ns : List Int} (h : ∀ x ∈ ns, (Lit.int .u16 x).wf = true) : ∃ l : List Nat, ns.map (Value.int .u16) = by16 l ∧ (∀ q ∈ l, q < 65536) ∧ l.length = ns.length := by
  have e1 : IntKind.u16.min = 0 := by decide
  have e2 : IntKind.u16.max = 65535 := by decide
  refine ⟨ns.map Int.toNat, ?_, ?_, by simp⟩
  · unfold by16
    rw [List.map_map]
    apply List.map_congr_left
    intro x hx
    have := h x hx
    simp only [Lit.wf, Bool.and_eq_true, decide_eq_true_eq] at this
    simp only [Function.comp, Value.int.injEq, true_and]
    omega
  · intro n hn
    obtain ⟨x, hx, rfl⟩ := List.mem_map.1 hn
    have := h x hx
    simp only [Lit.wf, Bool.and_eq_true, decide_eq_true_eq] at this
    omega
/-- Costs that were handed in. -/
structure FIn (β : Nat → Option Obj) (p : Option Addr) (m c : Nat) (l : List Nat) : Prop where
  len : l.length = m
  lt : ∀ q ∈ l, q < 65536
  sl : SL β [] 1 m (by16 l) p
  none : p = none → c = 0 ∧ m = 0
  cap : m ≤ c
  bd : m * 2 ≤ 140737488351232
theorem rd_shorts {β : Nat → Option Obj} {p : Option Addr} {m c : Nat} {xs : List Value} {P : Program} {e : TypeId} (he : P.underlying e = some (.int .u16)) (hb : P.bytesOf e = 2) (hs : SlR β [e].length m (P.bytesOf e) xs p c) (hr : ∀ i, i < m → RdL P β [e] ((xs.drop (i * [e].length)).take [e].length)) : ∃ l, FIn β p m c l := by
  rw [hb] at hs
  have hs' : SlR β 1 m 2 xs p c := hs
  obtain ⟨h1, h2, h3, h4, h5, h6⟩ := hs
  obtain ⟨ns, rfl, hns⟩ := ints_of he (m := m) (xs := xs) (by simpa using h5) (by simpa using hr)
  obtain ⟨l, e1, e2, e3⟩ := shorts_of hns
  refine ⟨l, ⟨by rw [e3]; simpa using h5, e2, ?_, fun h => ⟨h4 h, by have := h4 h; omega⟩, h1, by omega⟩⟩
  rw [← e1]
  exact SL.ofR (by omega) hs'

theorem FIn.look {β : Nat → Option Obj} {w h : Int} {p : Option Addr} {m c : Nat} {l : List Nat} {q : Option Addr} {k d : Nat} {cl : List (Int × Int)} (h1 : FIn β p m c l) (h2 : PIn β q k d cl) : LookR β ⟨w, h, p, m, c, l, q, k, d, cl⟩ := ⟨h1.len, h1.lt, h1.sl, h2.len, h2.sl⟩
theorem looks_of {P : Program} {β : Nat → Option Obj} {t u s1 s2 e1 e2 a b : TypeId} (ht : P.underlying t = some (.int .i64)) (hu : P.underlying u = some (.int .i64)) (h1 : P.underlying s1 = some (.slice e1)) (h1l : lvs P 8 e1 = some [e1]) (h1n : [e1].length = P.cellsOf e1) (h1e : P.underlying e1 = some (.int .u16)) (h1b : P.bytesOf e1 = 2)
    (h2 : P.underlying s2 = some (.slice e2)) (h2l : lvs P 8 e2 = some [a, b]) (h2n : [a, b].length = P.cellsOf e2) (ha : P.underlying a = some (.int .i64)) (hb : P.underlying b = some (.int .i64)) : ∀ {m : Nat} {xs : List Value}, xs.length = m * 4 → (∀ i, i < m → RdL P β [t, u, s1, s2] ((xs.drop (i * 4)).take 4)) →
    ∃ ls : List LookV, xs = fl4 ls ∧ ls.length = m ∧ ∀ x ∈ ls, LookR β x
  | 0, xs, hl, _ => ⟨[], by simpa [fl4] using hl, rfl, fun x hx => by cases hx⟩
  | m + 1, xs, hl, h => by
    match xs, hl with
    | [], hl => simp at hl
    | [_], hl => simp at hl; omega
    | [_, _], hl => simp at hl; omega
    | [_, _, _], hl => simp at hl; omega
    | x :: y :: z :: v :: r', hl =>
      obtain ⟨c1, r1, g1, k1, k2⟩ := (h 0 (by omega)).cons
      obtain ⟨c2, r2, g2, k3, k4⟩ := k2.cons
      obtain ⟨c3, r3, g3, k5, k6⟩ := k4.cons
      obtain ⟨c4, r4, g4, k7, k8⟩ := k6.cons
      simp only [Nat.zero_mul, List.drop_zero, List.take_succ_cons, List.take_zero, List.cons.injEq] at g1
      obtain ⟨rfl, rfl⟩ := g1
      simp only [List.cons.injEq] at g2
      obtain ⟨rfl, rfl⟩ := g2
      simp only [List.cons.injEq] at g3
      obtain ⟨rfl, rfl⟩ := g3
      simp only [List.cons.injEq] at g4
      obtain ⟨rfl, _⟩ := g4
      obtain ⟨w, rfl, _⟩ := rd_i64 ht k1
      obtain ⟨hh, rfl, _⟩ := rd_i64 hu k3
      obtain ⟨p, mm, cc, xs1, rfl, q1, q2⟩ := rd_slice h1 h1l h1n k5
      obtain ⟨q, kk, dd, xs2, rfl, q3, q4⟩ := rd_slice h2 h2l h2n k7
      obtain ⟨al, hal⟩ := rd_shorts h1e h1b q1 q2
      obtain ⟨pl, hpl⟩ := rd_pairs ha hb q3 q4
      obtain ⟨ls, rfl, hl2, hl3⟩ := looks_of ht hu h1 h1l h1n h1e h1b h2 h2l h2n ha hb (m := m) (xs := r') (by simp at hl; omega) (fun i hi => by
        have := h (i + 1) (by omega)
        rwa [show (i + 1) * 4 = i * 4 + 4 by omega] at this)
      refine ⟨⟨w, hh, p, mm, cc, al, q, kk, dd, pl⟩ :: ls, rfl, by simp [hl2], fun x hx => ?_⟩
      rcases List.mem_cons.1 hx with rfl | hx
      · exact hal.look hpl
      · exact hl3 x hx
theorem rd_looks {P : Program} {β : Nat → Option Obj} {q : Option Addr} {n d : Nat} {xs : List Value} {by' : Nat} {t u s1 s2 e1 e2 a b : TypeId} (ht : P.underlying t = some (.int .i64)) (hu : P.underlying u = some (.int .i64)) (h1 : P.underlying s1 = some (.slice e1)) (h1l : lvs P 8 e1 = some [e1]) (h1n : [e1].length = P.cellsOf e1) (h1e : P.underlying e1 = some (.int .u16)) (h1b : P.bytesOf e1 = 2)
    (h2 : P.underlying s2 = some (.slice e2)) (h2l : lvs P 8 e2 = some [a, b]) (h2n : [a, b].length = P.cellsOf e2) (ha : P.underlying a = some (.int .i64)) (hb : P.underlying b = some (.int .i64)) (hs : SlR β [t, u, s1, s2].length n by' xs q d) (hr : ∀ i, i < n → RdL P β [t, u, s1, s2] ((xs.drop (i * [t, u, s1, s2].length)).take [t, u, s1, s2].length)) : ∃ ls, LooksR β ls q n := by
  have hs' : SlR β 4 n by' xs q d := hs
  obtain ⟨g1, g2, g3, g4, g5, g6⟩ := hs
  obtain ⟨ls, rfl, e2, e3⟩ := looks_of ht hu h1 h1l h1n h1e h1b h2 h2l h2n ha hb (m := n) (xs := xs) g5 hr
  exact ⟨ls, e2, e3, SL.ofR (by omega) hs'⟩
end Go.Proofs.YteehbjdohionlaaDoor

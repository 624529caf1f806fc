/- Routes: fields, and the steps of a path. -/
import Derived.Test.YtefjpccldjacfaaG7
import Derived.Test.YtefjpccldjacfaaG3
import Derived.Test.YtefjpccldjacfaaK16
namespace Go.Proofs.Ytefjpccldjacfaa
open Go Go.K Go.RowKit

def by16 (l : List Nat) : List Value := l.map fun (n : Nat) => Value.int .u16 (n : Int)
theorem by16_get {l : List Nat} {i n : Nat} (h : l[i]? = some n) : (by16 l)[i]? = some (.int .u16 (n : Int)) := by simp [by16, h]
theorem by16_len (l : List Nat) : (by16 l).length = l.length := by simp [by16]
theorem cel16 {β : Nat → Option Obj} {σ : Heap} {b off n : Nat} {i : Int} {l : List Nat} (h : ∀ (j : Nat) (u : Value), (by16 l)[j]? = some u → Cel β σ b (off + j) u) (hi : l[i.toNat]? = some n) : Cel β σ b (off + i.toNat * 1) (.int .u16 (n : Int)) := by
  have := h _ _ (by16_get hi)
  rwa [Nat.mul_one]
theorem celB {β : Nat → Option Obj} {σ : Heap} {b : Nat} {e : TypeId} {xs : List Value} (h : (b, cl xs e) ∈ σ) : ∀ (j : Nat) (u : Value), xs[j]? = some u → Cel β σ b (0 + j) u := fun j u hj => .inl ⟨xs, e, h, by simpa using hj⟩
theorem shorts_of {ns : List Int} (h : ∀ x ∈ ns, (Lit.int .u16 x).wf = true) : ∃ l : List Nat, ns.map (Value.int .u16) = by16 l ∧ (∀ q ∈ l, q < 65536) ∧ l.length = ns.length := by
  have e1 : IntKind.u16.min = 0 := by decide
  have e2 : IntKind.u16.max = 65535 := by decide
  refine ⟨ns.map Int.toNat, ?_, ?_, by simp⟩
  · unfold by16
    rw [List.map_map]
    apply List.map_congr_left
    intro x hx
    have := h x hx
    simp only [Lit.wf, Bool.and_eq_true, decide_eq_true_eq] at this
    simp only [Function.comp, Value.int.injEq, true_and]
    omega
  · intro n hn
    obtain ⟨x, hx, rfl⟩ := List.mem_map.1 hn
    have := h x hx
    simp only [Lit.wf, Bool.and_eq_true, decide_eq_true_eq] at this
    omega
/-- Costs that were handed in. -/
structure FIn (β : Nat → Option Obj) (p : Option Addr) (m c : Nat) (l : List Nat) : Prop where
  len : l.length = m
  lt : ∀ q ∈ l, q < 65536
  sl : SL β [] 1 m (by16 l) p
  none : p = none → c = 0 ∧ m = 0
  cap : m ≤ c
  bd : m * 2 ≤ 140737488351232
theorem rd_shorts {β : Nat → Option Obj} {p : Option Addr} {m c : Nat} {xs : List Value} {P : Program} {e : TypeId} (he : P.underlying e = some (.int .u16)) (hb : P.bytesOf e = 2) (hs : SlR β [e].length m (P.bytesOf e) xs p c) (hr : ∀ i, i < m → RdL P β [e] ((xs.drop (i * [e].length)).take [e].length)) : ∃ l, FIn β p m c l := by
  rw [hb] at hs
  have hs' : SlR β 1 m 2 xs p c := hs
  obtain ⟨h1, h2, h3, h4, h5, h6⟩ := hs
  obtain ⟨ns, rfl, hns⟩ := ints_of he (m := m) (xs := xs) (by simpa using h5) (by simpa using hr)
  obtain ⟨l, e1, e2, e3⟩ := shorts_of hns
  refine ⟨l, ⟨by rw [e3]; simpa using h5, e2, ?_, fun h => ⟨h4 h, by have := h4 h; omega⟩, h1, by omega⟩⟩
  rw [← e1]
  exact SL.ofR (by omega) hs'
def chkE (w h : Int) (m : Nat) : Int := if gMay w h then (if (m : Int) = w * h then 0 else 12) else 10
theorem Check_p (w h : Int) (p : Option Addr) (m c : Nat) : Go.K.Pure Try.prog 25 #[.agg #[.int .i64 w, .int .i64 h, .slice p m c]] (.int .i64 (chkE w h m)) := by
  refine Tr.pure (Tr.of_body Try.tt (args := [.agg #[.int .i64 w, .int .i64 h, .slice p m c]]) (fr := [(0, true, .agg #[.int .i64 w, .int .i64 h, .slice p m c])]) Try.func25 rfl (by decide) rfl Try.ntmps25 rfl rfl ?_)
  intro E _
  have hm := fun a b => mulb (A := 256) (B := 256) (a := w) (b := h) a b
  repeat' (first
    | refine KW.seq ?_
    | refine KW.region ?_
    | refine KO.nil ?_
    | refine At.then_normal ?_
    | refine KW.skip ?_
    | refine KW.ret ?_
    | refine At.then_ret ?_
    | refine KW.block ?_
    | refine KW.exit ?_
    | refine At.block_normal ?_
    | refine At.block_ret ?_
    | refine At.loop_ret ?_
    | refine At.then_exit ?_
    | refine At.block_here rfl ?_
    | refine At.block_there rfl ?_
    | refine At.loop_exit ?_
    | refine At.cut_ret ?_
    | refine At.cutA_ret ?_
    | refine At.cutA_exit ?_
    | refine At.cut_exit ?_
    | (refine At.cut_same ?_; repeat' (first | exact FLe.nil _ | refine FLe.cons rfl rfl ?_))
    | refine KW.cond_t rfl (by first | with_reducible rfl | decide) ?_
    | refine KW.cond_f rfl (by first | with_reducible rfl | decide) ?_
    | refine KW.draw 0 (by decide +kernel) ?_
    | refine KW.drawU rfl (by decide +kernel) ?_
    | refine KD.zero ?_
    | refine KD.skip' rfl (by first | with_reducible rfl | decide) rfl rfl ?_
    | refine KO.skip' rfl (by first | with_reducible rfl | decide) rfl rfl ?_
    | refine KO.skip0' rfl (by first | with_reducible rfl | decide) rfl ?_
    | refine KO.skipIn rfl (by first | with_reducible rfl | decide) rfl rfl ?_
    | refine KD.skipIn rfl (by first | with_reducible rfl | decide) rfl rfl ?_
    | ((first | apply KO.val rfl rfl rfl ?kq ?_ | apply KO.valIn rfl rfl rfl ?kq ?_ | apply KD.val rfl rfl rfl ?kq ?_ | apply KD.valIn rfl rfl rfl ?kq ?_); (case kq => ((first | ((first | apply qt_add rfl rfl rfl ?hi ?om | apply qt_sub rfl rfl rfl ?hi ?om | apply qt_mul rfl rfl rfl ?hi ?om | apply qt_remN rfl rfl rfl ?hi ?om | apply qt_quoN rfl rfl rfl ?hi ?om | apply qt_addU rfl rfl rfl ?hi ?om | apply qt_subU rfl rfl rfl ?hi ?om | apply qt_mulU rfl rfl rfl ?hi ?om | apply qt_quoU rfl rfl rfl ?hi ?om | apply qt_convI rfl rfl rfl rfl ?hi ?om | apply qt_convU rfl rfl rfl rfl ?hi ?om | apply qt_indexAddr_arr rfl rfl rfl ?hi rfl rfl ?om | apply qt_indexAddr_slice rfl rfl rfl ?hi rfl rfl ?om | apply qt_sliceL rfl rfl rfl ?hi rfl rfl ?om | apply qt_sliceH rfl rfl rfl ?hi rfl rfl ?om | apply qt_sliceLH rfl rfl rfl rfl ?hi rfl rfl ?om | apply qt_sliceLHM rfl rfl rfl rfl rfl ?hi rfl rfl ?om | apply qt_sliceHM rfl rfl rfl rfl ?hi rfl rfl ?om); (case om => (intro hg; first | omega | (simp only [Bool.or_eq_false_iff, Bool.or_eq_true, Bool.and_eq_true, Bool.and_eq_false_iff, Bool.not_eq_true', Bool.not_eq_false', Bool.not_eq_true, Bool.not_eq_false, decide_eq_true_eq, decide_eq_false_iff_not, Bool.not_not, beq_iff_eq, bne_iff_ne, Bool.beq_eq_decide_eq, gMay, btw] at hg; omega)))) | apply qt_ev rfl ?hi | ((first | apply qt_load1 rfl rfl ?hi rfl rfl ?hm ?hc | apply qt_loadN rfl rfl ?hi rfl rfl rfl ?hm ?hc); (case hm => repeat (first | exact List.Mem.head _ | apply List.Mem.tail _ | apply List.mem_append_right _)); (case hc => rfl)) | refine qt_call rfl rfl ?hi (fun hg => May_p _ _) | apply qt_pick_t rfl rfl (by first | with_reducible rfl | decide) rfl ?hi | apply qt_pick_f rfl rfl (by first | with_reducible rfl | decide) rfl ?hi | ((first | apply qt_pick_and rfl rfl rfl ?hi ?pj | apply qt_pick_or rfl rfl rfl ?hi ?pj); (case pj => (intro h h2; first | with_reducible exact h2 | with_reducible rfl | (simp [h2]; done) | (simp_all; done)))) | apply qt_build rfl rfl ?hi rfl | apply qt_eqs rfl rfl rfl ?hi rfl (Or.inl rfl) | apply qt_nes rfl rfl rfl ?hi rfl (Or.inl rfl) | ((first | apply qt_quoT rfl rfl rfl ?hi ?om); (case om => (intro hg; first | omega | (simp only [Bool.or_eq_false_iff, Bool.or_eq_true, Bool.and_eq_true, Bool.and_eq_false_iff, Bool.not_eq_true', Bool.not_eq_false', Bool.not_eq_true, Bool.not_eq_false, decide_eq_true_eq, decide_eq_false_iff_not, Bool.not_not, beq_iff_eq, bne_iff_ne, Bool.beq_eq_decide_eq, gMay, btw] at hg; omega)))) | ((first | apply qt_rem rfl rfl rfl ?hi ?om | apply qt_quo rfl rfl rfl ?hi ?om | apply qt_shr rfl rfl rfl ?hi ?om | apply qt_shl rfl rfl rfl ?hi ?om); (case om => (intro hg; first | omega | (simp only [Bool.or_eq_false_iff, Bool.or_eq_true, Bool.and_eq_true, Bool.and_eq_false_iff, Bool.not_eq_true', Bool.not_eq_false', Bool.not_eq_true, Bool.not_eq_false, decide_eq_true_eq, decide_eq_false_iff_not, Bool.not_not, beq_iff_eq, bne_iff_ne, Bool.beq_eq_decide_eq, gMay, btw] at hg; omega))))); (case hi => (intro h; (repeat' (first | with_reducible exact alln | with_reducible refine allc ?_ ?_ | with_reducible refine andi ?_ ?_)); all_goals (first | with_reducible rfl | with_reducible exact h | with_reducible exact andl h | with_reducible exact andr h | with_reducible exact andl (andl h) | (simp only [h, Bool.and_self]; done) | (simp [h]; done) | (simp_all; done)))))))
    | (refine KO.box rfl rfl rfl rfl rfl rfl ?_; intro _ _)
    | (refine KO.alloc rfl rfl rfl rfl rfl rfl ?_; intro _ _)
    | (refine KO.buildSlice rfl rfl rfl rfl rfl rfl rfl rfl rfl rfl rfl rfl rfl rfl ?_; intro _ _)
    | ((first | apply KO.store (i := 0) rfl rfl rfl rfl rfl rfl rfl rfl ?hl rfl ?hw ?ho ?hs | apply KO.store (i := 1) rfl rfl rfl rfl rfl rfl rfl rfl ?hl rfl ?hw ?ho ?hs | apply KO.store (i := 2) rfl rfl rfl rfl rfl rfl rfl rfl ?hl rfl ?hw ?ho ?hs | apply KO.store (i := 3) rfl rfl rfl rfl rfl rfl rfl rfl ?hl rfl ?hw ?ho ?hs | apply KO.store (i := 4) rfl rfl rfl rfl rfl rfl rfl rfl ?hl rfl ?hw ?ho ?hs | apply KO.store (i := 5) rfl rfl rfl rfl rfl rfl rfl rfl ?hl rfl ?hw ?ho ?hs | apply KO.store (i := 6) rfl rfl rfl rfl rfl rfl rfl rfl ?hl rfl ?hw ?ho ?hs | apply KO.store (i := 7) rfl rfl rfl rfl rfl rfl rfl rfl ?hl rfl ?hw ?ho ?hs); (case hl => rfl); (case hw => rfl); (case ho => rfl); (case hs => rfl))
    | (refine KW.cond rfl ?_ ?_ <;> (intro hc; try simp only [Bool.or_eq_false_iff, Bool.or_eq_true, Bool.and_eq_true, Bool.and_eq_false_iff, Bool.not_eq_true', Bool.not_eq_false', Bool.not_eq_true, Bool.not_eq_false, decide_eq_true_eq, decide_eq_false_iff_not, Bool.not_not, beq_iff_eq, bne_iff_ne, Bool.beq_eq_decide_eq, gMay, btw] at hc))
    | exact absurd trivial ‹¬True›
    | fail)
  all_goals ((first | apply At.done_ret | apply At.done_normal); (focus (repeat' (first | exact ResVs.nil' | apply ResVs.cons' | exact ResV.tmp' rfl | (apply ResV.cell1 rfl ?hm rfl rfl ?hc; (case hm => repeat (first | exact List.Mem.head _ | apply List.Mem.tail _ | apply List.mem_append_right _)); (case hc => rfl)) | (apply ResV.cellN rfl ?hm rfl rfl rfl ?hc; (case hm => repeat (first | exact List.Mem.head _ | apply List.Mem.tail _ | apply List.mem_append_right _)); (case hc => rfl))))); dsimp only [resVal])
  all_goals simp only [chkE, gMay, btw]; grind
theorem rCheck_p (w h : Int) (p : Option Addr) (m c : Nat) : Go.K.Pure Try.prog 21 #[.agg #[.int .i64 w, .int .i64 h, .slice p m c]] (.int .i64 (chkE w h m)) := by
  refine Tr.pure (Tr.of_body Try.tt (args := [.agg #[.int .i64 w, .int .i64 h, .slice p m c]]) (fr := [(0, true, .agg #[.int .i64 w, .int .i64 h, .slice p m c])]) Try.func21 rfl (by decide) rfl Try.ntmps21 rfl rfl ?_)
  intro E _
  have hm := fun a b => mulb (A := 256) (B := 256) (a := w) (b := h) a b
  repeat' (first
    | refine KW.seq ?_
    | refine KW.region ?_
    | refine KO.nil ?_
    | refine At.then_normal ?_
    | refine KW.skip ?_
    | refine KW.ret ?_
    | refine At.then_ret ?_
    | refine KW.block ?_
    | refine KW.exit ?_
    | refine At.block_normal ?_
    | refine At.block_ret ?_
    | refine At.loop_ret ?_
    | refine At.then_exit ?_
    | refine At.block_here rfl ?_
    | refine At.block_there rfl ?_
    | refine At.loop_exit ?_
    | refine At.cut_ret ?_
    | refine At.cutA_ret ?_
    | refine At.cutA_exit ?_
    | refine At.cut_exit ?_
    | (refine At.cut_same ?_; repeat' (first | exact FLe.nil _ | refine FLe.cons rfl rfl ?_))
    | refine KW.cond_t rfl (by first | with_reducible rfl | decide) ?_
    | refine KW.cond_f rfl (by first | with_reducible rfl | decide) ?_
    | refine KW.draw 0 (by decide +kernel) ?_
    | refine KW.drawU rfl (by decide +kernel) ?_
    | refine KD.zero ?_
    | refine KD.skip' rfl (by first | with_reducible rfl | decide) rfl rfl ?_
    | refine KO.skip' rfl (by first | with_reducible rfl | decide) rfl rfl ?_
    | refine KO.skip0' rfl (by first | with_reducible rfl | decide) rfl ?_
    | refine KO.skipIn rfl (by first | with_reducible rfl | decide) rfl rfl ?_
    | refine KD.skipIn rfl (by first | with_reducible rfl | decide) rfl rfl ?_
    | ((first | apply KO.val rfl rfl rfl ?kq ?_ | apply KO.valIn rfl rfl rfl ?kq ?_ | apply KD.val rfl rfl rfl ?kq ?_ | apply KD.valIn rfl rfl rfl ?kq ?_); (case kq => ((first | ((first | apply qt_add rfl rfl rfl ?hi ?om | apply qt_sub rfl rfl rfl ?hi ?om | apply qt_mul rfl rfl rfl ?hi ?om | apply qt_remN rfl rfl rfl ?hi ?om | apply qt_quoN rfl rfl rfl ?hi ?om | apply qt_addU rfl rfl rfl ?hi ?om | apply qt_subU rfl rfl rfl ?hi ?om | apply qt_mulU rfl rfl rfl ?hi ?om | apply qt_quoU rfl rfl rfl ?hi ?om | apply qt_convI rfl rfl rfl rfl ?hi ?om | apply qt_convU rfl rfl rfl rfl ?hi ?om | apply qt_indexAddr_arr rfl rfl rfl ?hi rfl rfl ?om | apply qt_indexAddr_slice rfl rfl rfl ?hi rfl rfl ?om | apply qt_sliceL rfl rfl rfl ?hi rfl rfl ?om | apply qt_sliceH rfl rfl rfl ?hi rfl rfl ?om | apply qt_sliceLH rfl rfl rfl rfl ?hi rfl rfl ?om | apply qt_sliceLHM rfl rfl rfl rfl rfl ?hi rfl rfl ?om | apply qt_sliceHM rfl rfl rfl rfl ?hi rfl rfl ?om); (case om => (intro hg; first | omega | (simp only [Bool.or_eq_false_iff, Bool.or_eq_true, Bool.and_eq_true, Bool.and_eq_false_iff, Bool.not_eq_true', Bool.not_eq_false', Bool.not_eq_true, Bool.not_eq_false, decide_eq_true_eq, decide_eq_false_iff_not, Bool.not_not, beq_iff_eq, bne_iff_ne, Bool.beq_eq_decide_eq, gMay, btw] at hg; omega)))) | apply qt_ev rfl ?hi | ((first | apply qt_load1 rfl rfl ?hi rfl rfl ?hm ?hc | apply qt_loadN rfl rfl ?hi rfl rfl rfl ?hm ?hc); (case hm => repeat (first | exact List.Mem.head _ | apply List.Mem.tail _ | apply List.mem_append_right _)); (case hc => rfl)) | refine qt_call rfl rfl ?hi (fun hg => rMay_p _ _) | apply qt_pick_t rfl rfl (by first | with_reducible rfl | decide) rfl ?hi | apply qt_pick_f rfl rfl (by first | with_reducible rfl | decide) rfl ?hi | ((first | apply qt_pick_and rfl rfl rfl ?hi ?pj | apply qt_pick_or rfl rfl rfl ?hi ?pj); (case pj => (intro h h2; first | with_reducible exact h2 | with_reducible rfl | (simp [h2]; done) | (simp_all; done)))) | apply qt_build rfl rfl ?hi rfl | apply qt_eqs rfl rfl rfl ?hi rfl (Or.inl rfl) | apply qt_nes rfl rfl rfl ?hi rfl (Or.inl rfl) | ((first | apply qt_quoT rfl rfl rfl ?hi ?om); (case om => (intro hg; first | omega | (simp only [Bool.or_eq_false_iff, Bool.or_eq_true, Bool.and_eq_true, Bool.and_eq_false_iff, Bool.not_eq_true', Bool.not_eq_false', Bool.not_eq_true, Bool.not_eq_false, decide_eq_true_eq, decide_eq_false_iff_not, Bool.not_not, beq_iff_eq, bne_iff_ne, Bool.beq_eq_decide_eq, gMay, btw] at hg; omega)))) | ((first | apply qt_rem rfl rfl rfl ?hi ?om | apply qt_quo rfl rfl rfl ?hi ?om | apply qt_shr rfl rfl rfl ?hi ?om | apply qt_shl rfl rfl rfl ?hi ?om); (case om => (intro hg; first | omega | (simp only [Bool.or_eq_false_iff, Bool.or_eq_true, Bool.and_eq_true, Bool.and_eq_false_iff, Bool.not_eq_true', Bool.not_eq_false', Bool.not_eq_true, Bool.not_eq_false, decide_eq_true_eq, decide_eq_false_iff_not, Bool.not_not, beq_iff_eq, bne_iff_ne, Bool.beq_eq_decide_eq, gMay, btw] at hg; omega))))); (case hi => (intro h; (repeat' (first | with_reducible exact alln | with_reducible refine allc ?_ ?_ | with_reducible refine andi ?_ ?_)); all_goals (first | with_reducible rfl | with_reducible exact h | with_reducible exact andl h | with_reducible exact andr h | with_reducible exact andl (andl h) | (simp only [h, Bool.and_self]; done) | (simp [h]; done) | (simp_all; done)))))))
    | (refine KO.box rfl rfl rfl rfl rfl rfl ?_; intro _ _)
    | (refine KO.alloc rfl rfl rfl rfl rfl rfl ?_; intro _ _)
    | (refine KO.buildSlice rfl rfl rfl rfl rfl rfl rfl rfl rfl rfl rfl rfl rfl rfl ?_; intro _ _)
    | ((first | apply KO.store (i := 0) rfl rfl rfl rfl rfl rfl rfl rfl ?hl rfl ?hw ?ho ?hs | apply KO.store (i := 1) rfl rfl rfl rfl rfl rfl rfl rfl ?hl rfl ?hw ?ho ?hs | apply KO.store (i := 2) rfl rfl rfl rfl rfl rfl rfl rfl ?hl rfl ?hw ?ho ?hs | apply KO.store (i := 3) rfl rfl rfl rfl rfl rfl rfl rfl ?hl rfl ?hw ?ho ?hs | apply KO.store (i := 4) rfl rfl rfl rfl rfl rfl rfl rfl ?hl rfl ?hw ?ho ?hs | apply KO.store (i := 5) rfl rfl rfl rfl rfl rfl rfl rfl ?hl rfl ?hw ?ho ?hs | apply KO.store (i := 6) rfl rfl rfl rfl rfl rfl rfl rfl ?hl rfl ?hw ?ho ?hs | apply KO.store (i := 7) rfl rfl rfl rfl rfl rfl rfl rfl ?hl rfl ?hw ?ho ?hs); (case hl => rfl); (case hw => rfl); (case ho => rfl); (case hs => rfl))
    | (refine KW.cond rfl ?_ ?_ <;> (intro hc; try simp only [Bool.or_eq_false_iff, Bool.or_eq_true, Bool.and_eq_true, Bool.and_eq_false_iff, Bool.not_eq_true', Bool.not_eq_false', Bool.not_eq_true, Bool.not_eq_false, decide_eq_true_eq, decide_eq_false_iff_not, Bool.not_not, beq_iff_eq, bne_iff_ne, Bool.beq_eq_decide_eq, gMay, btw] at hc))
    | exact absurd trivial ‹¬True›
    | fail)
  all_goals ((first | apply At.done_ret | apply At.done_normal); (focus (repeat' (first | exact ResVs.nil' | apply ResVs.cons' | exact ResV.tmp' rfl | (apply ResV.cell1 rfl ?hm rfl rfl ?hc; (case hm => repeat (first | exact List.Mem.head _ | apply List.Mem.tail _ | apply List.mem_append_right _)); (case hc => rfl)) | (apply ResV.cellN rfl ?hm rfl rfl rfl ?hc; (case hm => repeat (first | exact List.Mem.head _ | apply List.Mem.tail _ | apply List.mem_append_right _)); (case hc => rfl))))); dsimp only [resVal])
  all_goals simp only [chkE, gMay, btw]; grind

/-- A path's cells, each with the one ahead of it. -/
def stV (a c : Int × Int) : List Value := [.agg #[.int .i64 a.1, .int .i64 a.2], .agg #[.int .i64 c.1, .int .i64 c.2]]
def stepsL (Ps : List (Int × Int)) : List (List Value) := (List.range Ps.length).map fun i => stV (Ps.getD (i - 1) (0, 0)) (Ps.getD i (0, 0))
theorem stepsL_get {Ps : List (Int × Int)} {j : Nat} {a c : Int × Int} (ha : Ps[j - 1]? = some a) (hc : Ps[j]? = some c) : (stepsL Ps)[j]? = some (stV a c) := by
  have := (List.getElem?_eq_some_iff.1 hc).1
  have h2 := (List.getElem?_eq_some_iff.1 hc).2
  simp [stepsL, this, ha, h2]
theorem steps_p (p : Option Addr) (m c : Nat) (β : Nat → Option Obj) : Go.K.Tr Try.prog 26 [.slice p m c] β [] (fun v σ => ∃ b, v = .func (.func 36) #[] #[.pointer (some ⟨b, 0, none⟩)] ∧ σ = [(b, cl [.slice p m c] 27)]) := by
  refine Tr.of_body Try.tt (args := [.slice p m c]) (fr := [(0, true, .slice p m c)]) Try.func26 rfl (by decide) rfl Try.ntmps26 rfl rfl ?_
  intro E hE
  repeat' (first
    | refine KW.seq ?_
    | refine KW.region ?_
    | refine KO.nil ?_
    | refine At.then_normal ?_
    | refine KW.skip ?_
    | refine KW.ret ?_
    | refine At.then_ret ?_
    | refine KW.block ?_
    | refine KW.exit ?_
    | refine At.block_normal ?_
    | refine At.block_ret ?_
    | refine At.loop_ret ?_
    | refine At.then_exit ?_
    | refine At.block_here rfl ?_
    | refine At.block_there rfl ?_
    | refine At.loop_exit ?_
    | refine At.cut_ret ?_
    | refine At.cutA_ret ?_
    | refine At.cutA_exit ?_
    | refine At.cut_exit ?_
    | (refine At.cut_same ?_; repeat' (first | exact FLe.nil _ | refine FLe.cons rfl rfl ?_))
    | refine KW.cond_t rfl (by first | with_reducible rfl | decide) ?_
    | refine KW.cond_f rfl (by first | with_reducible rfl | decide) ?_
    | refine KW.draw 0 (by decide +kernel) ?_
    | refine KW.drawU rfl (by decide +kernel) ?_
    | refine KD.zero ?_
    | refine KD.skip' rfl (by first | with_reducible rfl | decide) rfl rfl ?_
    | refine KO.skip' rfl (by first | with_reducible rfl | decide) rfl rfl ?_
    | refine KO.skip0' rfl (by first | with_reducible rfl | decide) rfl ?_
    | refine KO.skipIn rfl (by first | with_reducible rfl | decide) rfl rfl ?_
    | refine KD.skipIn rfl (by first | with_reducible rfl | decide) rfl rfl ?_
    | ((first | apply KO.val rfl rfl rfl ?kq ?_ | apply KO.valIn rfl rfl rfl ?kq ?_ | apply KD.val rfl rfl rfl ?kq ?_ | apply KD.valIn rfl rfl rfl ?kq ?_); (case kq => ((first | ((first | apply qt_add rfl rfl rfl ?hi ?om | apply qt_sub rfl rfl rfl ?hi ?om | apply qt_mul rfl rfl rfl ?hi ?om | apply qt_remN rfl rfl rfl ?hi ?om | apply qt_quoN rfl rfl rfl ?hi ?om | apply qt_addU rfl rfl rfl ?hi ?om | apply qt_subU rfl rfl rfl ?hi ?om | apply qt_mulU rfl rfl rfl ?hi ?om | apply qt_quoU rfl rfl rfl ?hi ?om | apply qt_convI rfl rfl rfl rfl ?hi ?om | apply qt_convU rfl rfl rfl rfl ?hi ?om | apply qt_indexAddr_arr rfl rfl rfl ?hi rfl rfl ?om | apply qt_indexAddr_slice rfl rfl rfl ?hi rfl rfl ?om | apply qt_sliceL rfl rfl rfl ?hi rfl rfl ?om | apply qt_sliceH rfl rfl rfl ?hi rfl rfl ?om | apply qt_sliceLH rfl rfl rfl rfl ?hi rfl rfl ?om | apply qt_sliceLHM rfl rfl rfl rfl rfl ?hi rfl rfl ?om | apply qt_sliceHM rfl rfl rfl rfl ?hi rfl rfl ?om); (case om => (intro hg; first | omega | (simp only [Bool.or_eq_false_iff, Bool.or_eq_true, Bool.and_eq_true, Bool.and_eq_false_iff, Bool.not_eq_true', Bool.not_eq_false', Bool.not_eq_true, Bool.not_eq_false, decide_eq_true_eq, decide_eq_false_iff_not, Bool.not_not, beq_iff_eq, bne_iff_ne, Bool.beq_eq_decide_eq] at hg; omega)))) | apply qt_ev rfl ?hi | ((first | apply qt_load1 rfl rfl ?hi rfl rfl ?hm ?hc | apply qt_loadN rfl rfl ?hi rfl rfl rfl ?hm ?hc); (case hm => repeat (first | exact List.Mem.head _ | apply List.Mem.tail _ | apply List.mem_append_right _)); (case hc => rfl)) | apply qt_pick_t rfl rfl (by first | with_reducible rfl | decide) rfl ?hi | apply qt_pick_f rfl rfl (by first | with_reducible rfl | decide) rfl ?hi | ((first | apply qt_pick_and rfl rfl rfl ?hi ?pj | apply qt_pick_or rfl rfl rfl ?hi ?pj); (case pj => (intro h h2; first | with_reducible exact h2 | with_reducible rfl | (simp [h2]; done) | (simp_all; done)))) | apply qt_build rfl rfl ?hi rfl | apply qt_eqs rfl rfl rfl ?hi rfl (Or.inl rfl) | apply qt_nes rfl rfl rfl ?hi rfl (Or.inl rfl) | ((first | apply qt_quoT rfl rfl rfl ?hi ?om); (case om => (intro hg; first | omega | (simp only [Bool.or_eq_false_iff, Bool.or_eq_true, Bool.and_eq_true, Bool.and_eq_false_iff, Bool.not_eq_true', Bool.not_eq_false', Bool.not_eq_true, Bool.not_eq_false, decide_eq_true_eq, decide_eq_false_iff_not, Bool.not_not, beq_iff_eq, bne_iff_ne, Bool.beq_eq_decide_eq] at hg; omega)))) | ((first | apply qt_rem rfl rfl rfl ?hi ?om | apply qt_quo rfl rfl rfl ?hi ?om | apply qt_shr rfl rfl rfl ?hi ?om | apply qt_shl rfl rfl rfl ?hi ?om); (case om => (intro hg; first | omega | (simp only [Bool.or_eq_false_iff, Bool.or_eq_true, Bool.and_eq_true, Bool.and_eq_false_iff, Bool.not_eq_true', Bool.not_eq_false', Bool.not_eq_true, Bool.not_eq_false, decide_eq_true_eq, decide_eq_false_iff_not, Bool.not_not, beq_iff_eq, bne_iff_ne, Bool.beq_eq_decide_eq] at hg; omega))))); (case hi => (intro h; (repeat' (first | with_reducible exact alln | with_reducible refine allc ?_ ?_ | with_reducible refine andi ?_ ?_)); all_goals (first | with_reducible rfl | with_reducible exact h | with_reducible exact andl h | with_reducible exact andr h | with_reducible exact andl (andl h) | (simp only [h, Bool.and_self]; done) | (simp [h]; done) | (simp_all; done)))))))
    | (refine KO.box rfl rfl rfl rfl rfl rfl ?_; intro _ _)
    | (refine KO.alloc rfl rfl rfl rfl rfl rfl ?_; intro _ _)
    | (refine KO.buildSlice rfl rfl rfl rfl rfl rfl rfl rfl rfl rfl rfl rfl rfl rfl ?_; intro _ _)
    | ((first | apply KO.store (i := 0) rfl rfl rfl rfl rfl rfl rfl rfl ?hl rfl ?hw ?ho ?hs | apply KO.store (i := 1) rfl rfl rfl rfl rfl rfl rfl rfl ?hl rfl ?hw ?ho ?hs | apply KO.store (i := 2) rfl rfl rfl rfl rfl rfl rfl rfl ?hl rfl ?hw ?ho ?hs | apply KO.store (i := 3) rfl rfl rfl rfl rfl rfl rfl rfl ?hl rfl ?hw ?ho ?hs | apply KO.store (i := 4) rfl rfl rfl rfl rfl rfl rfl rfl ?hl rfl ?hw ?ho ?hs | apply KO.store (i := 5) rfl rfl rfl rfl rfl rfl rfl rfl ?hl rfl ?hw ?ho ?hs | apply KO.store (i := 6) rfl rfl rfl rfl rfl rfl rfl rfl ?hl rfl ?hw ?ho ?hs | apply KO.store (i := 7) rfl rfl rfl rfl rfl rfl rfl rfl ?hl rfl ?hw ?ho ?hs); (case hl => rfl); (case hw => rfl); (case ho => rfl); (case hs => rfl))
    | (refine KW.cond rfl ?_ ?_ <;> (intro hc; try simp only [Bool.or_eq_false_iff, Bool.or_eq_true, Bool.and_eq_true, Bool.and_eq_false_iff, Bool.not_eq_true', Bool.not_eq_false', Bool.not_eq_true, Bool.not_eq_false, decide_eq_true_eq, decide_eq_false_iff_not, Bool.not_not, beq_iff_eq, bne_iff_ne, Bool.beq_eq_decide_eq] at hc))
    | exact absurd trivial ‹¬True›
    | fail)
  ((first | apply At.done_ret | apply At.done_normal); (focus (repeat' (first | exact ResVs.nil' | apply ResVs.cons' | exact ResV.tmp' rfl | (apply ResV.cell1 rfl ?hm rfl rfl ?hc; (case hm => repeat (first | exact List.Mem.head _ | apply List.Mem.tail _ | apply List.mem_append_right _)); (case hc => rfl)) | (apply ResV.cellN rfl ?hm rfl rfl rfl ?hc; (case hm => repeat (first | exact List.Mem.head _ | apply List.Mem.tail _ | apply List.mem_append_right _)); (case hc => rfl))))); dsimp only [resVal])
  exact ⟨_, rfl, rfl⟩
set_option maxHeartbeats 4000000 in
theorem steps1_p (p : Option Addr) (m c b : Nat) (Ps : List (Int × Int)) (β : Nat → Option Obj) (hl : Ps.length = m) (hp : SL β [] 2 m (fl2 Ps) p) (hm : m ≤ 1000000) :
    Iter Try.prog 36 [] [.pointer (some ⟨b, 0, none⟩)] β [(b, cl [.slice p m c] 27)] (stepsL Ps) := by
  refine ⟨⟨Try.f36, Try.func36, by decide, by rfl⟩, fun l β' J Jx hββ hY σ h0 => ?_⟩
  refine Tr.sub (Tr.perm ?_)
  refine Tr.of_body Try.tt (args := [.func (.yield l) #[] #[], .pointer (some ⟨b, 0, none⟩)]) (fr := [(0, true, .func (.yield l) #[] #[]), (1, true, .pointer (some ⟨b, 0, none⟩))]) Try.func36 rfl (by decide) rfl Try.ntmps36 rfl rfl ?_
  intro E hE
  subst hE
  repeat' (first
    | refine KW.seq ?_
    | refine KW.region ?_
    | refine KO.nil ?_
    | refine At.then_normal ?_
    | refine KW.skip ?_
    | refine KW.ret ?_
    | refine At.then_ret ?_
    | refine KW.block ?_
    | refine KW.exit ?_
    | refine At.block_normal ?_
    | refine At.block_ret ?_
    | refine At.loop_ret ?_
    | refine At.then_exit ?_
    | refine At.block_here rfl ?_
    | refine At.block_there rfl ?_
    | refine At.loop_exit ?_
    | refine At.cut_ret ?_
    | refine At.cutA_ret ?_
    | refine At.cutA_exit ?_
    | refine At.cut_exit ?_
    | (refine At.cut_same ?_; repeat' (first | exact FLe.nil _ | refine FLe.cons rfl rfl ?_))
    | refine KW.cond_t rfl (by first | with_reducible rfl | decide) ?_
    | refine KW.cond_f rfl (by first | with_reducible rfl | decide) ?_
    | refine KW.draw 0 (by decide +kernel) ?_
    | refine KW.drawU rfl (by decide +kernel) ?_
    | refine KD.zero ?_
    | refine KD.skip' rfl (by first | with_reducible rfl | decide) rfl rfl ?_
    | refine KO.skip' rfl (by first | with_reducible rfl | decide) rfl rfl ?_
    | refine KO.skip0' rfl (by first | with_reducible rfl | decide) rfl ?_
    | refine KO.skipIn rfl (by first | with_reducible rfl | decide) rfl rfl ?_
    | refine KD.skipIn rfl (by first | with_reducible rfl | decide) rfl rfl ?_
    | ((first | apply KO.val rfl rfl rfl ?kq ?_ | apply KO.valIn rfl rfl rfl ?kq ?_ | apply KD.val rfl rfl rfl ?kq ?_ | apply KD.valIn rfl rfl rfl ?kq ?_); (case kq => ((first | ((first | apply qt_add rfl rfl rfl ?hi ?om | apply qt_sub rfl rfl rfl ?hi ?om | apply qt_mul rfl rfl rfl ?hi ?om | apply qt_remN rfl rfl rfl ?hi ?om | apply qt_quoN rfl rfl rfl ?hi ?om | apply qt_addU rfl rfl rfl ?hi ?om | apply qt_subU rfl rfl rfl ?hi ?om | apply qt_mulU rfl rfl rfl ?hi ?om | apply qt_quoU rfl rfl rfl ?hi ?om | apply qt_convI rfl rfl rfl rfl ?hi ?om | apply qt_convU rfl rfl rfl rfl ?hi ?om | apply qt_indexAddr_arr rfl rfl rfl ?hi rfl rfl ?om | apply qt_indexAddr_slice rfl rfl rfl ?hi rfl rfl ?om | apply qt_sliceL rfl rfl rfl ?hi rfl rfl ?om | apply qt_sliceH rfl rfl rfl ?hi rfl rfl ?om | apply qt_sliceLH rfl rfl rfl rfl ?hi rfl rfl ?om | apply qt_sliceLHM rfl rfl rfl rfl rfl ?hi rfl rfl ?om | apply qt_sliceHM rfl rfl rfl rfl ?hi rfl rfl ?om); (case om => (intro hg; first | omega | (simp only [Bool.or_eq_false_iff, Bool.or_eq_true, Bool.and_eq_true, Bool.and_eq_false_iff, Bool.not_eq_true', Bool.not_eq_false', Bool.not_eq_true, Bool.not_eq_false, decide_eq_true_eq, decide_eq_false_iff_not, Bool.not_not, beq_iff_eq, bne_iff_ne, Bool.beq_eq_decide_eq] at hg; omega)))) | apply qt_ev rfl ?hi | ((first | apply qt_load1 rfl rfl ?hi rfl rfl ?hm ?hc | apply qt_loadN rfl rfl ?hi rfl rfl rfl ?hm ?hc); (case hm => repeat (first | exact List.Mem.head _ | apply List.Mem.tail _ | apply List.mem_append_right _)); (case hc => rfl)) | apply qt_pick_t rfl rfl (by first | with_reducible rfl | decide) rfl ?hi | apply qt_pick_f rfl rfl (by first | with_reducible rfl | decide) rfl ?hi | ((first | apply qt_pick_and rfl rfl rfl ?hi ?pj | apply qt_pick_or rfl rfl rfl ?hi ?pj); (case pj => (intro h h2; first | with_reducible exact h2 | with_reducible rfl | (simp [h2]; done) | (simp_all; done)))) | apply qt_build rfl rfl ?hi rfl | apply qt_eqs rfl rfl rfl ?hi rfl (Or.inl rfl) | apply qt_nes rfl rfl rfl ?hi rfl (Or.inl rfl) | ((first | apply qt_quoT rfl rfl rfl ?hi ?om); (case om => (intro hg; first | omega | (simp only [Bool.or_eq_false_iff, Bool.or_eq_true, Bool.and_eq_true, Bool.and_eq_false_iff, Bool.not_eq_true', Bool.not_eq_false', Bool.not_eq_true, Bool.not_eq_false, decide_eq_true_eq, decide_eq_false_iff_not, Bool.not_not, beq_iff_eq, bne_iff_ne, Bool.beq_eq_decide_eq] at hg; omega)))) | ((first | apply qt_rem rfl rfl rfl ?hi ?om | apply qt_quo rfl rfl rfl ?hi ?om | apply qt_shr rfl rfl rfl ?hi ?om | apply qt_shl rfl rfl rfl ?hi ?om); (case om => (intro hg; first | omega | (simp only [Bool.or_eq_false_iff, Bool.or_eq_true, Bool.and_eq_true, Bool.and_eq_false_iff, Bool.not_eq_true', Bool.not_eq_false', Bool.not_eq_true, Bool.not_eq_false, decide_eq_true_eq, decide_eq_false_iff_not, Bool.not_not, beq_iff_eq, bne_iff_ne, Bool.beq_eq_decide_eq] at hg; omega))))); (case hi => (intro h; (repeat' (first | with_reducible exact alln | with_reducible refine allc ?_ ?_ | with_reducible refine andi ?_ ?_)); all_goals (first | with_reducible rfl | with_reducible exact h | with_reducible exact andl h | with_reducible exact andr h | with_reducible exact andl (andl h) | (simp only [h, Bool.and_self]; done) | (simp [h]; done) | (simp_all; done)))))))
    | (refine KO.box rfl rfl rfl rfl rfl rfl ?_; intro _ _)
    | (refine KO.alloc rfl rfl rfl rfl rfl rfl ?_; intro _ _)
    | (refine KO.buildSlice rfl rfl rfl rfl rfl rfl rfl rfl rfl rfl rfl rfl rfl rfl ?_; intro _ _)
    | ((first | apply KO.store (i := 0) rfl rfl rfl rfl rfl rfl rfl rfl ?hl rfl ?hw ?ho ?hs | apply KO.store (i := 1) rfl rfl rfl rfl rfl rfl rfl rfl ?hl rfl ?hw ?ho ?hs | apply KO.store (i := 2) rfl rfl rfl rfl rfl rfl rfl rfl ?hl rfl ?hw ?ho ?hs | apply KO.store (i := 3) rfl rfl rfl rfl rfl rfl rfl rfl ?hl rfl ?hw ?ho ?hs | apply KO.store (i := 4) rfl rfl rfl rfl rfl rfl rfl rfl ?hl rfl ?hw ?ho ?hs | apply KO.store (i := 5) rfl rfl rfl rfl rfl rfl rfl rfl ?hl rfl ?hw ?ho ?hs | apply KO.store (i := 6) rfl rfl rfl rfl rfl rfl rfl rfl ?hl rfl ?hw ?ho ?hs | apply KO.store (i := 7) rfl rfl rfl rfl rfl rfl rfl rfl ?hl rfl ?hw ?ho ?hs); (case hl => rfl); (case hw => rfl); (case ho => rfl); (case hs => rfl))
    | (refine KW.cond rfl ?_ ?_ <;> (intro hc; try simp only [Bool.or_eq_false_iff, Bool.or_eq_true, Bool.and_eq_true, Bool.and_eq_false_iff, Bool.not_eq_true', Bool.not_eq_false', Bool.not_eq_true, Bool.not_eq_false, decide_eq_true_eq, decide_eq_false_iff_not, Bool.not_not, beq_iff_eq, bne_iff_ne, Bool.beq_eq_decide_eq] at hc))
    | exact absurd trivial ‹¬True›
    | fail)
  refine KW.loop (fun s : Nat × Heap => s.1 ≤ m ∧ J s.1 s.2) (fun s => ([(7, true, .int .i64 (s.1 : Int)), (6, true, .int .i64 (m : Int)), (5, true, .slice p m c), (0, true, .func (.yield l) #[] #[]), (1, true, .pointer (some ⟨b, 0, none⟩))], s.2 ++ [(b, cl [.slice p m c] 27)])) (fun s => m - s.1) (0, σ)
    ⟨Nat.zero_le _, h0⟩ (Le.perm (by repeat' (first | exact FLe.nil _ | refine FLe.cons rfl rfl ?_)) (List.Perm.refl _)) ?_
  rintro ⟨j, σ⟩ ⟨hj, hJ⟩
  dsimp only at hj hJ ⊢
  by_cases hjm : j < m
  · have hp2 : SL E.β [] 2 m (fl2 Ps) p := hp.up hββ
    obtain ⟨b1, o1, rfl, h1⟩ := hp2.2 (by omega)
    obtain ⟨⟨x, y⟩, hxy⟩ : ∃ z, Ps[j]? = some z := ⟨_, List.getElem?_eq_getElem (by omega)⟩
    obtain ⟨⟨u, v⟩, huv⟩ : ∃ z, Ps[j - 1]? = some z := ⟨_, List.getElem?_eq_getElem (by omega)⟩
    have huv2 : Ps[(max ((j : Int) - 1) 0).toNat]? = some (u, v) := by rw [← huv]; congr 1; omega
    repeat' (first
      | refine KW.seq ?_
      | refine KW.region ?_
      | refine KO.nil ?_
      | refine At.then_normal ?_
      | refine KW.skip ?_
      | refine KW.ret ?_
      | refine At.then_ret ?_
      | refine KW.block ?_
      | refine KW.exit ?_
      | refine At.block_normal ?_
      | refine At.block_ret ?_
      | refine At.loop_ret ?_
      | refine At.then_exit ?_
      | refine At.block_here rfl ?_
      | refine At.block_there rfl ?_
      | refine At.loop_exit ?_
      | refine At.cut_ret ?_
      | refine At.cutA_ret ?_
      | refine At.cutA_exit ?_
      | refine At.cut_exit ?_
      | (refine At.cut_same ?_; repeat' (first | exact FLe.nil _ | refine FLe.cons rfl rfl ?_))
      | refine KW.cond_t rfl (by first | with_reducible rfl | decide) ?_
      | refine KW.cond_f rfl (by first | with_reducible rfl | decide) ?_
      | refine KW.draw (id := 3) 8 (by decide +kernel) ?_
      | refine KDH.mid2 ?_
      | refine KDH.mid3 ?_
      | refine KDH.done ?_
      | refine KDM.head0 ?_
      | refine KDM.head1 ?_
      | refine KDM.fin ?_
      | refine KDH.skip0' rfl (by first | with_reducible rfl | decide) rfl rfl ?_
      | refine KDH.skip1' rfl (by first | with_reducible rfl | decide) rfl rfl ?_
      | ((first | refine KDM.eo2f rfl rfl rfl (eo_alloc rfl rfl rfl) ?_ | refine KDM.eo2t rfl rfl rfl (eo_alloc rfl rfl rfl) ?_); rintro _ _ ⟨_, _, rfl, rfl⟩; refine ⟨?sub, ?_⟩; (case sub => (intro _ hp; first | exact hp | (cases hp; done) | (repeat (first | exact hp | apply List.mem_cons_of_mem | apply List.mem_append_right)) | (simp_all; done))))
      | ((first | refine KDM.eo2f rfl rfl rfl (eo_box rfl rfl rfl) ?_ | refine KDM.eo2t rfl rfl rfl (eo_box rfl rfl rfl) ?_); rintro _ _ ⟨_, _, rfl, rfl⟩; refine ⟨?sub, ?_⟩; (case sub => (intro _ hp; first | exact hp | (cases hp; done) | (repeat (first | exact hp | apply List.mem_cons_of_mem | apply List.mem_append_right)) | (simp_all; done))))
      | ((first | refine KDM.eo2f rfl rfl rfl (eo_buildSlice rfl rfl rfl rfl rfl rfl rfl rfl rfl rfl rfl) ?_ | refine KDM.eo2t rfl rfl rfl (eo_buildSlice rfl rfl rfl rfl rfl rfl rfl rfl rfl rfl rfl) ?_); rintro _ _ ⟨_, _, rfl, rfl⟩; refine ⟨?sub, ?_⟩; (case sub => (intro _ hp; first | exact hp | (cases hp; done) | (repeat (first | exact hp | apply List.mem_cons_of_mem | apply List.mem_append_right)) | (simp_all; done))))
      | ((first | refine KDM.eo30 rfl rfl (eo_store (i := 0) rfl rfl rfl rfl rfl rfl rfl rfl rfl rfl rfl) ?_ | refine KDM.eo30 rfl rfl (eo_store (i := 1) rfl rfl rfl rfl rfl rfl rfl rfl rfl rfl rfl) ?_ | refine KDM.eo30 rfl rfl (eo_store (i := 2) rfl rfl rfl rfl rfl rfl rfl rfl rfl rfl rfl) ?_ | refine KDM.eo30 rfl rfl (eo_store (i := 3) rfl rfl rfl rfl rfl rfl rfl rfl rfl rfl rfl) ?_ | refine KDM.eo30 rfl rfl (eo_store (i := 4) rfl rfl rfl rfl rfl rfl rfl rfl rfl rfl rfl) ?_ | refine KDM.eo30 rfl rfl (eo_store (i := 5) rfl rfl rfl rfl rfl rfl rfl rfl rfl rfl rfl) ?_ | refine KDM.eo30 rfl rfl (eo_store (i := 6) rfl rfl rfl rfl rfl rfl rfl rfl rfl rfl rfl) ?_ | refine KDM.eo30 rfl rfl (eo_store (i := 7) rfl rfl rfl rfl rfl rfl rfl rfl rfl rfl rfl) ?_); rintro _ _ rfl; refine ⟨?sub, ?_⟩; (case sub => (intro _ hp; first | exact hp | (cases hp; done) | (repeat (first | exact hp | apply List.mem_cons_of_mem | apply List.mem_append_right)) | (simp_all; done))))
      | refine KW.draw 0 (by decide +kernel) ?_
      | refine KW.drawU rfl (by decide +kernel) ?_
      | refine KD.zero ?_
      | refine KD.skip' rfl (by first | with_reducible rfl | decide) rfl rfl ?_
      | refine KO.skip' rfl (by first | with_reducible rfl | decide) rfl rfl ?_
      | refine KO.skip0' rfl (by first | with_reducible rfl | decide) rfl ?_
      | refine KO.skipIn rfl (by first | with_reducible rfl | decide) rfl rfl ?_
      | refine KD.skipIn rfl (by first | with_reducible rfl | decide) rfl rfl ?_
      | ((first | apply KO.val rfl rfl rfl ?kq ?_ | apply KO.valIn rfl rfl rfl ?kq ?_ | apply KD.val rfl rfl rfl ?kq ?_ | apply KD.valIn rfl rfl rfl ?kq ?_ | apply KDH.val0 rfl rfl rfl ?kq ?_ | apply KDH.val1 rfl rfl rfl ?kq ?_ | apply KDH.valIn0 rfl rfl rfl ?kq ?_ | apply KDH.valIn1 rfl rfl rfl ?kq ?_ | apply KDM.q2f rfl rfl rfl ?kq ?ksub ?_ | apply KDM.q2t rfl rfl rfl ?kq ?ksub ?_); (try (case ksub => (intro _ hp; first | exact hp | (cases hp; done) | (repeat (first | exact hp | apply List.mem_cons_of_mem | apply List.mem_append_right)) | (simp_all; done)))); (case kq => ((first | ((first | apply qt_add rfl rfl rfl ?hi ?om | apply qt_sub rfl rfl rfl ?hi ?om | apply qt_mul rfl rfl rfl ?hi ?om | apply qt_remN rfl rfl rfl ?hi ?om | apply qt_quoN rfl rfl rfl ?hi ?om | apply qt_addU rfl rfl rfl ?hi ?om | apply qt_subU rfl rfl rfl ?hi ?om | apply qt_mulU rfl rfl rfl ?hi ?om | apply qt_quoU rfl rfl rfl ?hi ?om | apply qt_convI rfl rfl rfl rfl ?hi ?om | apply qt_convU rfl rfl rfl rfl ?hi ?om | apply qt_indexAddr_arr rfl rfl rfl ?hi rfl rfl ?om | apply qt_indexAddr_slice rfl rfl rfl ?hi rfl rfl ?om | apply qt_sliceL rfl rfl rfl ?hi rfl rfl ?om | apply qt_sliceH rfl rfl rfl ?hi rfl rfl ?om | apply qt_sliceLH rfl rfl rfl rfl ?hi rfl rfl ?om | apply qt_sliceLHM rfl rfl rfl rfl rfl ?hi rfl rfl ?om | apply qt_sliceHM rfl rfl rfl rfl ?hi rfl rfl ?om); (case om => (intro hg; first | omega | (simp only [Bool.or_eq_false_iff, Bool.or_eq_true, Bool.and_eq_true, Bool.and_eq_false_iff, Bool.not_eq_true', Bool.not_eq_false', Bool.not_eq_true, Bool.not_eq_false, decide_eq_true_eq, decide_eq_false_iff_not, Bool.not_not, beq_iff_eq, bne_iff_ne, Bool.beq_eq_decide_eq] at hg; omega)))) | apply qt_ev rfl ?hi | ((first | apply qt_load1 rfl rfl ?hi rfl rfl ?hm ?hc | apply qt_loadN rfl rfl ?hi rfl rfl rfl ?hm ?hc); (case hm => repeat (first | exact List.Mem.head _ | apply List.Mem.tail _ | apply List.mem_append_right _)); (case hc => rfl)) | apply qt_pick_t rfl rfl (by first | with_reducible rfl | decide) rfl ?hi | apply qt_pick_f rfl rfl (by first | with_reducible rfl | decide) rfl ?hi | ((first | apply qt_pick_and rfl rfl rfl ?hi ?pj | apply qt_pick_or rfl rfl rfl ?hi ?pj); (case pj => (intro h h2; first | with_reducible exact h2 | with_reducible rfl | (simp [h2]; done) | (simp_all; done)))) | apply qt_build rfl rfl ?hi rfl | apply qt_eqs rfl rfl rfl ?hi rfl (Or.inl rfl) | apply qt_nes rfl rfl rfl ?hi rfl (Or.inl rfl) | ((first | apply qt_quoT rfl rfl rfl ?hi ?om); (case om => (intro hg; first | omega | (simp only [Bool.or_eq_false_iff, Bool.or_eq_true, Bool.and_eq_true, Bool.and_eq_false_iff, Bool.not_eq_true', Bool.not_eq_false', Bool.not_eq_true, Bool.not_eq_false, decide_eq_true_eq, decide_eq_false_iff_not, Bool.not_not, beq_iff_eq, bne_iff_ne, Bool.beq_eq_decide_eq] at hg; omega)))) | ((first | apply qt_rem rfl rfl rfl ?hi ?om | apply qt_quo rfl rfl rfl ?hi ?om | apply qt_shr rfl rfl rfl ?hi ?om | apply qt_shl rfl rfl rfl ?hi ?om); (case om => (intro hg; first | omega | (simp only [Bool.or_eq_false_iff, Bool.or_eq_true, Bool.and_eq_true, Bool.and_eq_false_iff, Bool.not_eq_true', Bool.not_eq_false', Bool.not_eq_true, Bool.not_eq_false, decide_eq_true_eq, decide_eq_false_iff_not, Bool.not_not, beq_iff_eq, bne_iff_ne, Bool.beq_eq_decide_eq] at hg; omega))))); (case hi => (intro h; (repeat' (first | with_reducible exact alln | with_reducible refine allc ?_ ?_ | with_reducible refine andi ?_ ?_)); all_goals (first | with_reducible rfl | with_reducible exact h | with_reducible exact andl h | with_reducible exact andr h | with_reducible exact andl (andl h) | (simp only [h, Bool.and_self]; done) | (simp [h]; done) | (simp_all; done)))))))
      | (refine KO.box rfl rfl rfl rfl rfl rfl ?_; intro _ _)
      | (refine KO.alloc rfl rfl rfl rfl rfl rfl ?_; intro _ _)
      | (refine KO.buildSlice rfl rfl rfl rfl rfl rfl rfl rfl rfl rfl rfl rfl rfl rfl ?_; intro _ _)
      | ((first | apply KO.store (i := 0) rfl rfl rfl rfl rfl rfl rfl rfl ?hl rfl ?hw ?ho ?hs | apply KO.store (i := 1) rfl rfl rfl rfl rfl rfl rfl rfl ?hl rfl ?hw ?ho ?hs | apply KO.store (i := 2) rfl rfl rfl rfl rfl rfl rfl rfl ?hl rfl ?hw ?ho ?hs | apply KO.store (i := 3) rfl rfl rfl rfl rfl rfl rfl rfl ?hl rfl ?hw ?ho ?hs | apply KO.store (i := 4) rfl rfl rfl rfl rfl rfl rfl rfl ?hl rfl ?hw ?ho ?hs | apply KO.store (i := 5) rfl rfl rfl rfl rfl rfl rfl rfl ?hl rfl ?hw ?ho ?hs | apply KO.store (i := 6) rfl rfl rfl rfl rfl rfl rfl rfl ?hl rfl ?hw ?ho ?hs | apply KO.store (i := 7) rfl rfl rfl rfl rfl rfl rfl rfl ?hl rfl ?hw ?ho ?hs); (case hl => rfl); (case hw => rfl); (case ho => rfl); (case hs => rfl))
      | (refine KW.cond rfl ?_ ?_ <;> (intro hc; try simp only [Bool.or_eq_false_iff, Bool.or_eq_true, Bool.and_eq_true, Bool.and_eq_false_iff, Bool.not_eq_true', Bool.not_eq_false', Bool.not_eq_true, Bool.not_eq_false, decide_eq_true_eq, decide_eq_false_iff_not, Bool.not_not, beq_iff_eq, bne_iff_ne, Bool.beq_eq_decide_eq] at hc))
      | exact absurd trivial ‹¬True›
      | (exfalso; omega)
      | ((first | apply KO.val (g := true) rfl rfl rfl | apply KD.val (g := true) rfl rfl rfl | apply KDE.val (g := true) rfl rfl rfl | apply KDE.val rfl rfl rfl | apply KDH.val0 (g := true) rfl rfl rfl | apply KDH.val1 (g := true) rfl rfl rfl | apply KO.val rfl rfl rfl | apply KD.val rfl rfl rfl | apply KDH.val0 rfl rfl rfl | apply KO.valIn rfl rfl rfl | apply KD.valIn rfl rfl rfl); (apply qt_loadN_cel rfl rfl ?hi rfl rfl rfl ?hl ?hc); (case hc => first | exact fun _ => (fun i v hv => (cel2 h1 hxy i v hv).mono (fun _ hq => by cases hq)) | exact fun _ => (fun i v hv => (cel2 h1 huv2 i v hv).mono (fun _ hq => by cases hq)) | exact fun hg => (fun i v hv => (cel2 h1 hxy i v hv).mono (fun _ hq => by cases hq)) | exact fun hg => (fun i v hv => (cel2 h1 huv2 i v hv).mono (fun _ hq => by cases hq))); (case hl => rfl); (case hi => (first | exact fun _ => rfl | (intro h; first | rfl | exact h | (simp [h]; done) | (simp_all; done)))))
      | ((first | apply KO.val (g := true) rfl rfl rfl | apply KD.val (g := true) rfl rfl rfl | apply KDE.val (g := true) rfl rfl rfl | apply KDE.val rfl rfl rfl | apply KDH.val0 (g := true) rfl rfl rfl | apply KDH.val1 (g := true) rfl rfl rfl | apply KO.val rfl rfl rfl | apply KD.val rfl rfl rfl | apply KDH.val0 rfl rfl rfl | apply KO.valIn rfl rfl rfl | apply KD.valIn rfl rfl rfl); (apply qt_load1_cel rfl rfl ?hi rfl rfl ?hc); (case hc => first | exact fun _ => (fun i v hv => (cel2 h1 hxy i v hv).mono (fun _ hq => by cases hq)) | exact fun _ => (fun i v hv => (cel2 h1 huv2 i v hv).mono (fun _ hq => by cases hq)) | exact fun hg => (fun i v hv => (cel2 h1 hxy i v hv).mono (fun _ hq => by cases hq)) | exact fun hg => (fun i v hv => (cel2 h1 huv2 i v hv).mono (fun _ hq => by cases hq))); (case hi => (first | exact fun _ => rfl | (intro h; first | rfl | exact h | (simp [h]; done) | (simp_all; done)))))
      | fail)
    rename_i b4 _
    refine KO.perm (σ' := σ ++ [(b4, cl [.int .i64 x, .int .i64 y] 39), (b, cl [.slice (some ⟨b1, o1, none⟩) m c] 27)]) (by classical exact List.perm_iff_count.2 (fun _ => by first | (simp only [List.count_append, List.count_cons, List.count_nil, List.append_assoc, List.cons_append, List.nil_append]; done) | (simp only [List.count_append, List.count_cons, List.count_nil, List.append_assoc, List.cons_append, List.nil_append]; omega))) ?_
    refine KO.yield σ [(b4, cl [.int .i64 x, .int .i64 y] 39), (b, cl [.slice (some ⟨b1, o1, none⟩) m c] 27)] rfl rfl rfl rfl rfl rfl rfl rfl (hY j _ σ (stepsL_get huv hxy) hJ) ?_
    intro v σ' hv
    rcases hv with ⟨rfl, hJ'⟩ | ⟨rfl, hJ'⟩
    · skip
      repeat' (first
        | refine KW.seq ?_
        | refine KW.region ?_
        | refine KO.nil ?_
        | refine At.then_normal ?_
        | refine KW.skip ?_
        | refine KW.ret ?_
        | refine At.then_ret ?_
        | refine KW.block ?_
        | refine KW.exit ?_
        | refine At.block_normal ?_
        | refine At.block_ret ?_
        | refine At.loop_ret ?_
        | refine At.then_exit ?_
        | refine At.block_here rfl ?_
        | refine At.block_there rfl ?_
        | refine At.loop_exit ?_
        | refine At.cut_ret ?_
        | refine At.cutA_ret ?_
        | refine At.cutA_exit ?_
        | refine At.cut_exit ?_
        | (refine At.cut_same ?_; repeat' (first | exact FLe.nil _ | refine FLe.cons rfl rfl ?_))
        | refine KW.cond_t rfl (by first | with_reducible rfl | decide) ?_
        | refine KW.cond_f rfl (by first | with_reducible rfl | decide) ?_
        | refine KW.draw (id := 3) 8 (by decide +kernel) ?_
        | refine KDH.mid2 ?_
        | refine KDH.mid3 ?_
        | refine KDH.done ?_
        | refine KDM.head0 ?_
        | refine KDM.head1 ?_
        | refine KDM.fin ?_
        | refine KDH.skip0' rfl (by first | with_reducible rfl | decide) rfl rfl ?_
        | refine KDH.skip1' rfl (by first | with_reducible rfl | decide) rfl rfl ?_
        | ((first | refine KDM.eo2f rfl rfl rfl (eo_alloc rfl rfl rfl) ?_ | refine KDM.eo2t rfl rfl rfl (eo_alloc rfl rfl rfl) ?_); rintro _ _ ⟨_, _, rfl, rfl⟩; refine ⟨?sub, ?_⟩; (case sub => (intro _ hp; first | exact hp | (cases hp; done) | (repeat (first | exact hp | apply List.mem_cons_of_mem | apply List.mem_append_right)) | (simp_all; done))))
        | ((first | refine KDM.eo2f rfl rfl rfl (eo_box rfl rfl rfl) ?_ | refine KDM.eo2t rfl rfl rfl (eo_box rfl rfl rfl) ?_); rintro _ _ ⟨_, _, rfl, rfl⟩; refine ⟨?sub, ?_⟩; (case sub => (intro _ hp; first | exact hp | (cases hp; done) | (repeat (first | exact hp | apply List.mem_cons_of_mem | apply List.mem_append_right)) | (simp_all; done))))
        | ((first | refine KDM.eo2f rfl rfl rfl (eo_buildSlice rfl rfl rfl rfl rfl rfl rfl rfl rfl rfl rfl) ?_ | refine KDM.eo2t rfl rfl rfl (eo_buildSlice rfl rfl rfl rfl rfl rfl rfl rfl rfl rfl rfl) ?_); rintro _ _ ⟨_, _, rfl, rfl⟩; refine ⟨?sub, ?_⟩; (case sub => (intro _ hp; first | exact hp | (cases hp; done) | (repeat (first | exact hp | apply List.mem_cons_of_mem | apply List.mem_append_right)) | (simp_all; done))))
        | ((first | refine KDM.eo30 rfl rfl (eo_store (i := 0) rfl rfl rfl rfl rfl rfl rfl rfl rfl rfl rfl) ?_ | refine KDM.eo30 rfl rfl (eo_store (i := 1) rfl rfl rfl rfl rfl rfl rfl rfl rfl rfl rfl) ?_ | refine KDM.eo30 rfl rfl (eo_store (i := 2) rfl rfl rfl rfl rfl rfl rfl rfl rfl rfl rfl) ?_ | refine KDM.eo30 rfl rfl (eo_store (i := 3) rfl rfl rfl rfl rfl rfl rfl rfl rfl rfl rfl) ?_ | refine KDM.eo30 rfl rfl (eo_store (i := 4) rfl rfl rfl rfl rfl rfl rfl rfl rfl rfl rfl) ?_ | refine KDM.eo30 rfl rfl (eo_store (i := 5) rfl rfl rfl rfl rfl rfl rfl rfl rfl rfl rfl) ?_ | refine KDM.eo30 rfl rfl (eo_store (i := 6) rfl rfl rfl rfl rfl rfl rfl rfl rfl rfl rfl) ?_ | refine KDM.eo30 rfl rfl (eo_store (i := 7) rfl rfl rfl rfl rfl rfl rfl rfl rfl rfl rfl) ?_); rintro _ _ rfl; refine ⟨?sub, ?_⟩; (case sub => (intro _ hp; first | exact hp | (cases hp; done) | (repeat (first | exact hp | apply List.mem_cons_of_mem | apply List.mem_append_right)) | (simp_all; done))))
        | refine KW.draw 0 (by decide +kernel) ?_
        | refine KW.drawU rfl (by decide +kernel) ?_
        | refine KD.zero ?_
        | refine KD.skip' rfl (by first | with_reducible rfl | decide) rfl rfl ?_
        | refine KO.skip' rfl (by first | with_reducible rfl | decide) rfl rfl ?_
        | refine KO.skip0' rfl (by first | with_reducible rfl | decide) rfl ?_
        | refine KO.skipIn rfl (by first | with_reducible rfl | decide) rfl rfl ?_
        | refine KD.skipIn rfl (by first | with_reducible rfl | decide) rfl rfl ?_
        | ((first | apply KO.val rfl rfl rfl ?kq ?_ | apply KO.valIn rfl rfl rfl ?kq ?_ | apply KD.val rfl rfl rfl ?kq ?_ | apply KD.valIn rfl rfl rfl ?kq ?_ | apply KDH.val0 rfl rfl rfl ?kq ?_ | apply KDH.val1 rfl rfl rfl ?kq ?_ | apply KDH.valIn0 rfl rfl rfl ?kq ?_ | apply KDH.valIn1 rfl rfl rfl ?kq ?_ | apply KDM.q2f rfl rfl rfl ?kq ?ksub ?_ | apply KDM.q2t rfl rfl rfl ?kq ?ksub ?_); (try (case ksub => (intro _ hp; first | exact hp | (cases hp; done) | (repeat (first | exact hp | apply List.mem_cons_of_mem | apply List.mem_append_right)) | (simp_all; done)))); (case kq => ((first | ((first | apply qt_add rfl rfl rfl ?hi ?om | apply qt_sub rfl rfl rfl ?hi ?om | apply qt_mul rfl rfl rfl ?hi ?om | apply qt_remN rfl rfl rfl ?hi ?om | apply qt_quoN rfl rfl rfl ?hi ?om | apply qt_addU rfl rfl rfl ?hi ?om | apply qt_subU rfl rfl rfl ?hi ?om | apply qt_mulU rfl rfl rfl ?hi ?om | apply qt_quoU rfl rfl rfl ?hi ?om | apply qt_convI rfl rfl rfl rfl ?hi ?om | apply qt_convU rfl rfl rfl rfl ?hi ?om | apply qt_indexAddr_arr rfl rfl rfl ?hi rfl rfl ?om | apply qt_indexAddr_slice rfl rfl rfl ?hi rfl rfl ?om | apply qt_sliceL rfl rfl rfl ?hi rfl rfl ?om | apply qt_sliceH rfl rfl rfl ?hi rfl rfl ?om | apply qt_sliceLH rfl rfl rfl rfl ?hi rfl rfl ?om | apply qt_sliceLHM rfl rfl rfl rfl rfl ?hi rfl rfl ?om | apply qt_sliceHM rfl rfl rfl rfl ?hi rfl rfl ?om); (case om => (intro hg; first | omega | (simp only [Bool.or_eq_false_iff, Bool.or_eq_true, Bool.and_eq_true, Bool.and_eq_false_iff, Bool.not_eq_true', Bool.not_eq_false', Bool.not_eq_true, Bool.not_eq_false, decide_eq_true_eq, decide_eq_false_iff_not, Bool.not_not, beq_iff_eq, bne_iff_ne, Bool.beq_eq_decide_eq] at hg; omega)))) | apply qt_ev rfl ?hi | ((first | apply qt_load1 rfl rfl ?hi rfl rfl ?hm ?hc | apply qt_loadN rfl rfl ?hi rfl rfl rfl ?hm ?hc); (case hm => repeat (first | exact List.Mem.head _ | apply List.Mem.tail _ | apply List.mem_append_right _)); (case hc => rfl)) | apply qt_pick_t rfl rfl (by first | with_reducible rfl | decide) rfl ?hi | apply qt_pick_f rfl rfl (by first | with_reducible rfl | decide) rfl ?hi | ((first | apply qt_pick_and rfl rfl rfl ?hi ?pj | apply qt_pick_or rfl rfl rfl ?hi ?pj); (case pj => (intro h h2; first | with_reducible exact h2 | with_reducible rfl | (simp [h2]; done) | (simp_all; done)))) | apply qt_build rfl rfl ?hi rfl | apply qt_eqs rfl rfl rfl ?hi rfl (Or.inl rfl) | apply qt_nes rfl rfl rfl ?hi rfl (Or.inl rfl) | ((first | apply qt_quoT rfl rfl rfl ?hi ?om); (case om => (intro hg; first | omega | (simp only [Bool.or_eq_false_iff, Bool.or_eq_true, Bool.and_eq_true, Bool.and_eq_false_iff, Bool.not_eq_true', Bool.not_eq_false', Bool.not_eq_true, Bool.not_eq_false, decide_eq_true_eq, decide_eq_false_iff_not, Bool.not_not, beq_iff_eq, bne_iff_ne, Bool.beq_eq_decide_eq] at hg; omega)))) | ((first | apply qt_rem rfl rfl rfl ?hi ?om | apply qt_quo rfl rfl rfl ?hi ?om | apply qt_shr rfl rfl rfl ?hi ?om | apply qt_shl rfl rfl rfl ?hi ?om); (case om => (intro hg; first | omega | (simp only [Bool.or_eq_false_iff, Bool.or_eq_true, Bool.and_eq_true, Bool.and_eq_false_iff, Bool.not_eq_true', Bool.not_eq_false', Bool.not_eq_true, Bool.not_eq_false, decide_eq_true_eq, decide_eq_false_iff_not, Bool.not_not, beq_iff_eq, bne_iff_ne, Bool.beq_eq_decide_eq] at hg; omega))))); (case hi => (intro h; (repeat' (first | with_reducible exact alln | with_reducible refine allc ?_ ?_ | with_reducible refine andi ?_ ?_)); all_goals (first | with_reducible rfl | with_reducible exact h | with_reducible exact andl h | with_reducible exact andr h | with_reducible exact andl (andl h) | (simp only [h, Bool.and_self]; done) | (simp [h]; done) | (simp_all; done)))))))
        | (refine KO.box rfl rfl rfl rfl rfl rfl ?_; intro _ _)
        | (refine KO.alloc rfl rfl rfl rfl rfl rfl ?_; intro _ _)
        | (refine KO.buildSlice rfl rfl rfl rfl rfl rfl rfl rfl rfl rfl rfl rfl rfl rfl ?_; intro _ _)
        | ((first | apply KO.store (i := 0) rfl rfl rfl rfl rfl rfl rfl rfl ?hl rfl ?hw ?ho ?hs | apply KO.store (i := 1) rfl rfl rfl rfl rfl rfl rfl rfl ?hl rfl ?hw ?ho ?hs | apply KO.store (i := 2) rfl rfl rfl rfl rfl rfl rfl rfl ?hl rfl ?hw ?ho ?hs | apply KO.store (i := 3) rfl rfl rfl rfl rfl rfl rfl rfl ?hl rfl ?hw ?ho ?hs | apply KO.store (i := 4) rfl rfl rfl rfl rfl rfl rfl rfl ?hl rfl ?hw ?ho ?hs | apply KO.store (i := 5) rfl rfl rfl rfl rfl rfl rfl rfl ?hl rfl ?hw ?ho ?hs | apply KO.store (i := 6) rfl rfl rfl rfl rfl rfl rfl rfl ?hl rfl ?hw ?ho ?hs | apply KO.store (i := 7) rfl rfl rfl rfl rfl rfl rfl rfl ?hl rfl ?hw ?ho ?hs); (case hl => rfl); (case hw => rfl); (case ho => rfl); (case hs => rfl))
        | (refine KW.cond rfl ?_ ?_ <;> (intro hc; try simp only [Bool.or_eq_false_iff, Bool.or_eq_true, Bool.and_eq_true, Bool.and_eq_false_iff, Bool.not_eq_true', Bool.not_eq_false', Bool.not_eq_true, Bool.not_eq_false, decide_eq_true_eq, decide_eq_false_iff_not, Bool.not_not, beq_iff_eq, bne_iff_ne, Bool.beq_eq_decide_eq] at hc))
        | exact absurd trivial ‹¬True›
        | (exfalso; omega)
        | ((first | apply KO.val (g := true) rfl rfl rfl | apply KD.val (g := true) rfl rfl rfl | apply KDE.val (g := true) rfl rfl rfl | apply KDE.val rfl rfl rfl | apply KDH.val0 (g := true) rfl rfl rfl | apply KDH.val1 (g := true) rfl rfl rfl | apply KO.val rfl rfl rfl | apply KD.val rfl rfl rfl | apply KDH.val0 rfl rfl rfl | apply KO.valIn rfl rfl rfl | apply KD.valIn rfl rfl rfl); (apply qt_loadN_cel rfl rfl ?hi rfl rfl rfl ?hl ?hc); (case hc => first | exact fun _ => (fun i v hv => (cel2 h1 hxy i v hv).mono (fun _ hq => by cases hq)) | exact fun _ => (fun i v hv => (cel2 h1 huv2 i v hv).mono (fun _ hq => by cases hq)) | exact fun hg => (fun i v hv => (cel2 h1 hxy i v hv).mono (fun _ hq => by cases hq)) | exact fun hg => (fun i v hv => (cel2 h1 huv2 i v hv).mono (fun _ hq => by cases hq))); (case hl => rfl); (case hi => (first | exact fun _ => rfl | (intro h; first | rfl | exact h | (simp [h]; done) | (simp_all; done)))))
        | ((first | apply KO.val (g := true) rfl rfl rfl | apply KD.val (g := true) rfl rfl rfl | apply KDE.val (g := true) rfl rfl rfl | apply KDE.val rfl rfl rfl | apply KDH.val0 (g := true) rfl rfl rfl | apply KDH.val1 (g := true) rfl rfl rfl | apply KO.val rfl rfl rfl | apply KD.val rfl rfl rfl | apply KDH.val0 rfl rfl rfl | apply KO.valIn rfl rfl rfl | apply KD.valIn rfl rfl rfl); (apply qt_load1_cel rfl rfl ?hi rfl rfl ?hc); (case hc => first | exact fun _ => (fun i v hv => (cel2 h1 hxy i v hv).mono (fun _ hq => by cases hq)) | exact fun _ => (fun i v hv => (cel2 h1 huv2 i v hv).mono (fun _ hq => by cases hq)) | exact fun hg => (fun i v hv => (cel2 h1 hxy i v hv).mono (fun _ hq => by cases hq)) | exact fun hg => (fun i v hv => (cel2 h1 huv2 i v hv).mono (fun _ hq => by cases hq))); (case hi => (first | exact fun _ => rfl | (intro h; first | rfl | exact h | (simp [h]; done) | (simp_all; done)))))
        | fail)
      refine At.loop_on (j + 1, σ') ⟨hjm, hJ'⟩ (by dsimp only; omega) (Le.permS (φ := [(b4, cl [.int .i64 x, .int .i64 y] 39)]) (by repeat' (first | exact FLe.nil _ | refine FLe.cons rfl rfl ?_)) (by classical exact List.perm_iff_count.2 (fun _ => by first | (simp only [List.count_append, List.count_cons, List.count_nil, List.append_assoc, List.cons_append, List.nil_append]; done) | (simp only [List.count_append, List.count_cons, List.count_nil, List.append_assoc, List.cons_append, List.nil_append]; omega))))
    · skip
      repeat' (first
        | refine KW.seq ?_
        | refine KW.region ?_
        | refine KO.nil ?_
        | refine At.then_normal ?_
        | refine KW.skip ?_
        | refine KW.ret ?_
        | refine At.then_ret ?_
        | refine KW.block ?_
        | refine KW.exit ?_
        | refine At.block_normal ?_
        | refine At.block_ret ?_
        | refine At.loop_ret ?_
        | refine At.then_exit ?_
        | refine At.block_here rfl ?_
        | refine At.block_there rfl ?_
        | refine At.loop_exit ?_
        | refine At.cut_ret ?_
        | refine At.cutA_ret ?_
        | refine At.cutA_exit ?_
        | refine At.cut_exit ?_
        | (refine At.cut_same ?_; repeat' (first | exact FLe.nil _ | refine FLe.cons rfl rfl ?_))
        | refine KW.cond_t rfl (by first | with_reducible rfl | decide) ?_
        | refine KW.cond_f rfl (by first | with_reducible rfl | decide) ?_
        | refine KW.draw (id := 3) 8 (by decide +kernel) ?_
        | refine KDH.mid2 ?_
        | refine KDH.mid3 ?_
        | refine KDH.done ?_
        | refine KDM.head0 ?_
        | refine KDM.head1 ?_
        | refine KDM.fin ?_
        | refine KDH.skip0' rfl (by first | with_reducible rfl | decide) rfl rfl ?_
        | refine KDH.skip1' rfl (by first | with_reducible rfl | decide) rfl rfl ?_
        | ((first | refine KDM.eo2f rfl rfl rfl (eo_alloc rfl rfl rfl) ?_ | refine KDM.eo2t rfl rfl rfl (eo_alloc rfl rfl rfl) ?_); rintro _ _ ⟨_, _, rfl, rfl⟩; refine ⟨?sub, ?_⟩; (case sub => (intro _ hp; first | exact hp | (cases hp; done) | (repeat (first | exact hp | apply List.mem_cons_of_mem | apply List.mem_append_right)) | (simp_all; done))))
        | ((first | refine KDM.eo2f rfl rfl rfl (eo_box rfl rfl rfl) ?_ | refine KDM.eo2t rfl rfl rfl (eo_box rfl rfl rfl) ?_); rintro _ _ ⟨_, _, rfl, rfl⟩; refine ⟨?sub, ?_⟩; (case sub => (intro _ hp; first | exact hp | (cases hp; done) | (repeat (first | exact hp | apply List.mem_cons_of_mem | apply List.mem_append_right)) | (simp_all; done))))
        | ((first | refine KDM.eo2f rfl rfl rfl (eo_buildSlice rfl rfl rfl rfl rfl rfl rfl rfl rfl rfl rfl) ?_ | refine KDM.eo2t rfl rfl rfl (eo_buildSlice rfl rfl rfl rfl rfl rfl rfl rfl rfl rfl rfl) ?_); rintro _ _ ⟨_, _, rfl, rfl⟩; refine ⟨?sub, ?_⟩; (case sub => (intro _ hp; first | exact hp | (cases hp; done) | (repeat (first | exact hp | apply List.mem_cons_of_mem | apply List.mem_append_right)) | (simp_all; done))))
        | ((first | refine KDM.eo30 rfl rfl (eo_store (i := 0) rfl rfl rfl rfl rfl rfl rfl rfl rfl rfl rfl) ?_ | refine KDM.eo30 rfl rfl (eo_store (i := 1) rfl rfl rfl rfl rfl rfl rfl rfl rfl rfl rfl) ?_ | refine KDM.eo30 rfl rfl (eo_store (i := 2) rfl rfl rfl rfl rfl rfl rfl rfl rfl rfl rfl) ?_ | refine KDM.eo30 rfl rfl (eo_store (i := 3) rfl rfl rfl rfl rfl rfl rfl rfl rfl rfl rfl) ?_ | refine KDM.eo30 rfl rfl (eo_store (i := 4) rfl rfl rfl rfl rfl rfl rfl rfl rfl rfl rfl) ?_ | refine KDM.eo30 rfl rfl (eo_store (i := 5) rfl rfl rfl rfl rfl rfl rfl rfl rfl rfl rfl) ?_ | refine KDM.eo30 rfl rfl (eo_store (i := 6) rfl rfl rfl rfl rfl rfl rfl rfl rfl rfl rfl) ?_ | refine KDM.eo30 rfl rfl (eo_store (i := 7) rfl rfl rfl rfl rfl rfl rfl rfl rfl rfl rfl) ?_); rintro _ _ rfl; refine ⟨?sub, ?_⟩; (case sub => (intro _ hp; first | exact hp | (cases hp; done) | (repeat (first | exact hp | apply List.mem_cons_of_mem | apply List.mem_append_right)) | (simp_all; done))))
        | refine KW.draw 0 (by decide +kernel) ?_
        | refine KW.drawU rfl (by decide +kernel) ?_
        | refine KD.zero ?_
        | refine KD.skip' rfl (by first | with_reducible rfl | decide) rfl rfl ?_
        | refine KO.skip' rfl (by first | with_reducible rfl | decide) rfl rfl ?_
        | refine KO.skip0' rfl (by first | with_reducible rfl | decide) rfl ?_
        | refine KO.skipIn rfl (by first | with_reducible rfl | decide) rfl rfl ?_
        | refine KD.skipIn rfl (by first | with_reducible rfl | decide) rfl rfl ?_
        | ((first | apply KO.val rfl rfl rfl ?kq ?_ | apply KO.valIn rfl rfl rfl ?kq ?_ | apply KD.val rfl rfl rfl ?kq ?_ | apply KD.valIn rfl rfl rfl ?kq ?_ | apply KDH.val0 rfl rfl rfl ?kq ?_ | apply KDH.val1 rfl rfl rfl ?kq ?_ | apply KDH.valIn0 rfl rfl rfl ?kq ?_ | apply KDH.valIn1 rfl rfl rfl ?kq ?_ | apply KDM.q2f rfl rfl rfl ?kq ?ksub ?_ | apply KDM.q2t rfl rfl rfl ?kq ?ksub ?_); (try (case ksub => (intro _ hp; first | exact hp | (cases hp; done) | (repeat (first | exact hp | apply List.mem_cons_of_mem | apply List.mem_append_right)) | (simp_all; done)))); (case kq => ((first | ((first | apply qt_add rfl rfl rfl ?hi ?om | apply qt_sub rfl rfl rfl ?hi ?om | apply qt_mul rfl rfl rfl ?hi ?om | apply qt_remN rfl rfl rfl ?hi ?om | apply qt_quoN rfl rfl rfl ?hi ?om | apply qt_addU rfl rfl rfl ?hi ?om | apply qt_subU rfl rfl rfl ?hi ?om | apply qt_mulU rfl rfl rfl ?hi ?om | apply qt_quoU rfl rfl rfl ?hi ?om | apply qt_convI rfl rfl rfl rfl ?hi ?om | apply qt_convU rfl rfl rfl rfl ?hi ?om | apply qt_indexAddr_arr rfl rfl rfl ?hi rfl rfl ?om | apply qt_indexAddr_slice rfl rfl rfl ?hi rfl rfl ?om | apply qt_sliceL rfl rfl rfl ?hi rfl rfl ?om | apply qt_sliceH rfl rfl rfl ?hi rfl rfl ?om | apply qt_sliceLH rfl rfl rfl rfl ?hi rfl rfl ?om | apply qt_sliceLHM rfl rfl rfl rfl rfl ?hi rfl rfl ?om | apply qt_sliceHM rfl rfl rfl rfl ?hi rfl rfl ?om); (case om => (intro hg; first | omega | (simp only [Bool.or_eq_false_iff, Bool.or_eq_true, Bool.and_eq_true, Bool.and_eq_false_iff, Bool.not_eq_true', Bool.not_eq_false', Bool.not_eq_true, Bool.not_eq_false, decide_eq_true_eq, decide_eq_false_iff_not, Bool.not_not, beq_iff_eq, bne_iff_ne, Bool.beq_eq_decide_eq] at hg; omega)))) | apply qt_ev rfl ?hi | ((first | apply qt_load1 rfl rfl ?hi rfl rfl ?hm ?hc | apply qt_loadN rfl rfl ?hi rfl rfl rfl ?hm ?hc); (case hm => repeat (first | exact List.Mem.head _ | apply List.Mem.tail _ | apply List.mem_append_right _)); (case hc => rfl)) | apply qt_pick_t rfl rfl (by first | with_reducible rfl | decide) rfl ?hi | apply qt_pick_f rfl rfl (by first | with_reducible rfl | decide) rfl ?hi | ((first | apply qt_pick_and rfl rfl rfl ?hi ?pj | apply qt_pick_or rfl rfl rfl ?hi ?pj); (case pj => (intro h h2; first | with_reducible exact h2 | with_reducible rfl | (simp [h2]; done) | (simp_all; done)))) | apply qt_build rfl rfl ?hi rfl | apply qt_eqs rfl rfl rfl ?hi rfl (Or.inl rfl) | apply qt_nes rfl rfl rfl ?hi rfl (Or.inl rfl) | ((first | apply qt_quoT rfl rfl rfl ?hi ?om); (case om => (intro hg; first | omega | (simp only [Bool.or_eq_false_iff, Bool.or_eq_true, Bool.and_eq_true, Bool.and_eq_false_iff, Bool.not_eq_true', Bool.not_eq_false', Bool.not_eq_true, Bool.not_eq_false, decide_eq_true_eq, decide_eq_false_iff_not, Bool.not_not, beq_iff_eq, bne_iff_ne, Bool.beq_eq_decide_eq] at hg; omega)))) | ((first | apply qt_rem rfl rfl rfl ?hi ?om | apply qt_quo rfl rfl rfl ?hi ?om | apply qt_shr rfl rfl rfl ?hi ?om | apply qt_shl rfl rfl rfl ?hi ?om); (case om => (intro hg; first | omega | (simp only [Bool.or_eq_false_iff, Bool.or_eq_true, Bool.and_eq_true, Bool.and_eq_false_iff, Bool.not_eq_true', Bool.not_eq_false', Bool.not_eq_true, Bool.not_eq_false, decide_eq_true_eq, decide_eq_false_iff_not, Bool.not_not, beq_iff_eq, bne_iff_ne, Bool.beq_eq_decide_eq] at hg; omega))))); (case hi => (intro h; (repeat' (first | with_reducible exact alln | with_reducible refine allc ?_ ?_ | with_reducible refine andi ?_ ?_)); all_goals (first | with_reducible rfl | with_reducible exact h | with_reducible exact andl h | with_reducible exact andr h | with_reducible exact andl (andl h) | (simp only [h, Bool.and_self]; done) | (simp [h]; done) | (simp_all; done)))))))
        | (refine KO.box rfl rfl rfl rfl rfl rfl ?_; intro _ _)
        | (refine KO.alloc rfl rfl rfl rfl rfl rfl ?_; intro _ _)
        | (refine KO.buildSlice rfl rfl rfl rfl rfl rfl rfl rfl rfl rfl rfl rfl rfl rfl ?_; intro _ _)
        | ((first | apply KO.store (i := 0) rfl rfl rfl rfl rfl rfl rfl rfl ?hl rfl ?hw ?ho ?hs | apply KO.store (i := 1) rfl rfl rfl rfl rfl rfl rfl rfl ?hl rfl ?hw ?ho ?hs | apply KO.store (i := 2) rfl rfl rfl rfl rfl rfl rfl rfl ?hl rfl ?hw ?ho ?hs | apply KO.store (i := 3) rfl rfl rfl rfl rfl rfl rfl rfl ?hl rfl ?hw ?ho ?hs | apply KO.store (i := 4) rfl rfl rfl rfl rfl rfl rfl rfl ?hl rfl ?hw ?ho ?hs | apply KO.store (i := 5) rfl rfl rfl rfl rfl rfl rfl rfl ?hl rfl ?hw ?ho ?hs | apply KO.store (i := 6) rfl rfl rfl rfl rfl rfl rfl rfl ?hl rfl ?hw ?ho ?hs | apply KO.store (i := 7) rfl rfl rfl rfl rfl rfl rfl rfl ?hl rfl ?hw ?ho ?hs); (case hl => rfl); (case hw => rfl); (case ho => rfl); (case hs => rfl))
        | (refine KW.cond rfl ?_ ?_ <;> (intro hc; try simp only [Bool.or_eq_false_iff, Bool.or_eq_true, Bool.and_eq_true, Bool.and_eq_false_iff, Bool.not_eq_true', Bool.not_eq_false', Bool.not_eq_true, Bool.not_eq_false, decide_eq_true_eq, decide_eq_false_iff_not, Bool.not_not, beq_iff_eq, bne_iff_ne, Bool.beq_eq_decide_eq] at hc))
        | exact absurd trivial ‹¬True›
        | (exfalso; omega)
        | ((first | apply KO.val (g := true) rfl rfl rfl | apply KD.val (g := true) rfl rfl rfl | apply KDE.val (g := true) rfl rfl rfl | apply KDE.val rfl rfl rfl | apply KDH.val0 (g := true) rfl rfl rfl | apply KDH.val1 (g := true) rfl rfl rfl | apply KO.val rfl rfl rfl | apply KD.val rfl rfl rfl | apply KDH.val0 rfl rfl rfl | apply KO.valIn rfl rfl rfl | apply KD.valIn rfl rfl rfl); (apply qt_loadN_cel rfl rfl ?hi rfl rfl rfl ?hl ?hc); (case hc => first | exact fun _ => (fun i v hv => (cel2 h1 hxy i v hv).mono (fun _ hq => by cases hq)) | exact fun _ => (fun i v hv => (cel2 h1 huv2 i v hv).mono (fun _ hq => by cases hq)) | exact fun hg => (fun i v hv => (cel2 h1 hxy i v hv).mono (fun _ hq => by cases hq)) | exact fun hg => (fun i v hv => (cel2 h1 huv2 i v hv).mono (fun _ hq => by cases hq))); (case hl => rfl); (case hi => (first | exact fun _ => rfl | (intro h; first | rfl | exact h | (simp [h]; done) | (simp_all; done)))))
        | ((first | apply KO.val (g := true) rfl rfl rfl | apply KD.val (g := true) rfl rfl rfl | apply KDE.val (g := true) rfl rfl rfl | apply KDE.val rfl rfl rfl | apply KDH.val0 (g := true) rfl rfl rfl | apply KDH.val1 (g := true) rfl rfl rfl | apply KO.val rfl rfl rfl | apply KD.val rfl rfl rfl | apply KDH.val0 rfl rfl rfl | apply KO.valIn rfl rfl rfl | apply KD.valIn rfl rfl rfl); (apply qt_load1_cel rfl rfl ?hi rfl rfl ?hc); (case hc => first | exact fun _ => (fun i v hv => (cel2 h1 hxy i v hv).mono (fun _ hq => by cases hq)) | exact fun _ => (fun i v hv => (cel2 h1 huv2 i v hv).mono (fun _ hq => by cases hq)) | exact fun hg => (fun i v hv => (cel2 h1 hxy i v hv).mono (fun _ hq => by cases hq)) | exact fun hg => (fun i v hv => (cel2 h1 huv2 i v hv).mono (fun _ hq => by cases hq))); (case hi => (first | exact fun _ => rfl | (intro h; first | rfl | exact h | (simp [h]; done) | (simp_all; done)))))
        | fail)
      ((first | apply At.done_ret | apply At.done_normal); (focus (repeat' (first | exact ResVs.nil' | apply ResVs.cons' | exact ResV.tmp' rfl | (apply ResV.cell1 rfl ?hm rfl rfl ?hc; (case hm => repeat (first | exact List.Mem.head _ | apply List.Mem.tail _ | apply List.mem_append_right _)); (case hc => rfl)) | (apply ResV.cellN rfl ?hm rfl rfl rfl ?hc; (case hm => repeat (first | exact List.Mem.head _ | apply List.Mem.tail _ | apply List.mem_append_right _)); (case hc => rfl))))); dsimp only [resVal])
      exact ⟨(σ' ++ [(b, cl [.slice (some ⟨b1, o1, none⟩) m c] 27)]) ++ [(b4, cl [.int .i64 x, .int .i64 y] 39)], (by classical exact List.perm_iff_count.2 (fun _ => by first | (simp only [List.count_append, List.count_cons, List.count_nil, List.append_assoc, List.cons_append, List.nil_append]; done) | (simp only [List.count_append, List.count_cons, List.count_nil, List.append_assoc, List.cons_append, List.nil_append]; omega))), _, List.sublist_append_left _ _, rfl, σ', rfl, .inr hJ'⟩
  · have hjm2 : j = m := by omega
    subst hjm2
    repeat' (first
      | refine KW.seq ?_
      | refine KW.region ?_
      | refine KO.nil ?_
      | refine At.then_normal ?_
      | refine KW.skip ?_
      | refine KW.ret ?_
      | refine At.then_ret ?_
      | refine KW.block ?_
      | refine KW.exit ?_
      | refine At.block_normal ?_
      | refine At.block_ret ?_
      | refine At.loop_ret ?_
      | refine At.then_exit ?_
      | refine At.block_here rfl ?_
      | refine At.block_there rfl ?_
      | refine At.loop_exit ?_
      | refine At.cut_ret ?_
      | refine At.cutA_ret ?_
      | refine At.cutA_exit ?_
      | refine At.cut_exit ?_
      | (refine At.cut_same ?_; repeat' (first | exact FLe.nil _ | refine FLe.cons rfl rfl ?_))
      | refine KW.cond_t rfl (by first | with_reducible rfl | decide) ?_
      | refine KW.cond_f rfl (by first | with_reducible rfl | decide) ?_
      | refine KW.draw (id := 3) 8 (by decide +kernel) ?_
      | refine KDH.mid2 ?_
      | refine KDH.mid3 ?_
      | refine KDH.done ?_
      | refine KDM.head0 ?_
      | refine KDM.head1 ?_
      | refine KDM.fin ?_
      | refine KDH.skip0' rfl (by first | with_reducible rfl | decide) rfl rfl ?_
      | refine KDH.skip1' rfl (by first | with_reducible rfl | decide) rfl rfl ?_
      | ((first | refine KDM.eo2f rfl rfl rfl (eo_alloc rfl rfl rfl) ?_ | refine KDM.eo2t rfl rfl rfl (eo_alloc rfl rfl rfl) ?_); rintro _ _ ⟨_, _, rfl, rfl⟩; refine ⟨?sub, ?_⟩; (case sub => (intro _ hp; first | exact hp | (cases hp; done) | (repeat (first | exact hp | apply List.mem_cons_of_mem | apply List.mem_append_right)) | (simp_all; done))))
      | ((first | refine KDM.eo2f rfl rfl rfl (eo_box rfl rfl rfl) ?_ | refine KDM.eo2t rfl rfl rfl (eo_box rfl rfl rfl) ?_); rintro _ _ ⟨_, _, rfl, rfl⟩; refine ⟨?sub, ?_⟩; (case sub => (intro _ hp; first | exact hp | (cases hp; done) | (repeat (first | exact hp | apply List.mem_cons_of_mem | apply List.mem_append_right)) | (simp_all; done))))
      | ((first | refine KDM.eo2f rfl rfl rfl (eo_buildSlice rfl rfl rfl rfl rfl rfl rfl rfl rfl rfl rfl) ?_ | refine KDM.eo2t rfl rfl rfl (eo_buildSlice rfl rfl rfl rfl rfl rfl rfl rfl rfl rfl rfl) ?_); rintro _ _ ⟨_, _, rfl, rfl⟩; refine ⟨?sub, ?_⟩; (case sub => (intro _ hp; first | exact hp | (cases hp; done) | (repeat (first | exact hp | apply List.mem_cons_of_mem | apply List.mem_append_right)) | (simp_all; done))))
      | ((first | refine KDM.eo30 rfl rfl (eo_store (i := 0) rfl rfl rfl rfl rfl rfl rfl rfl rfl rfl rfl) ?_ | refine KDM.eo30 rfl rfl (eo_store (i := 1) rfl rfl rfl rfl rfl rfl rfl rfl rfl rfl rfl) ?_ | refine KDM.eo30 rfl rfl (eo_store (i := 2) rfl rfl rfl rfl rfl rfl rfl rfl rfl rfl rfl) ?_ | refine KDM.eo30 rfl rfl (eo_store (i := 3) rfl rfl rfl rfl rfl rfl rfl rfl rfl rfl rfl) ?_ | refine KDM.eo30 rfl rfl (eo_store (i := 4) rfl rfl rfl rfl rfl rfl rfl rfl rfl rfl rfl) ?_ | refine KDM.eo30 rfl rfl (eo_store (i := 5) rfl rfl rfl rfl rfl rfl rfl rfl rfl rfl rfl) ?_ | refine KDM.eo30 rfl rfl (eo_store (i := 6) rfl rfl rfl rfl rfl rfl rfl rfl rfl rfl rfl) ?_ | refine KDM.eo30 rfl rfl (eo_store (i := 7) rfl rfl rfl rfl rfl rfl rfl rfl rfl rfl rfl) ?_); rintro _ _ rfl; refine ⟨?sub, ?_⟩; (case sub => (intro _ hp; first | exact hp | (cases hp; done) | (repeat (first | exact hp | apply List.mem_cons_of_mem | apply List.mem_append_right)) | (simp_all; done))))
      | refine KW.draw 0 (by decide +kernel) ?_
      | refine KW.drawU rfl (by decide +kernel) ?_
      | refine KD.zero ?_
      | refine KD.skip' rfl (by first | with_reducible rfl | decide) rfl rfl ?_
      | refine KO.skip' rfl (by first | with_reducible rfl | decide) rfl rfl ?_
      | refine KO.skip0' rfl (by first | with_reducible rfl | decide) rfl ?_
      | refine KO.skipIn rfl (by first | with_reducible rfl | decide) rfl rfl ?_
      | refine KD.skipIn rfl (by first | with_reducible rfl | decide) rfl rfl ?_
      | ((first | apply KO.val rfl rfl rfl ?kq ?_ | apply KO.valIn rfl rfl rfl ?kq ?_ | apply KD.val rfl rfl rfl ?kq ?_ | apply KD.valIn rfl rfl rfl ?kq ?_ | apply KDH.val0 rfl rfl rfl ?kq ?_ | apply KDH.val1 rfl rfl rfl ?kq ?_ | apply KDH.valIn0 rfl rfl rfl ?kq ?_ | apply KDH.valIn1 rfl rfl rfl ?kq ?_ | apply KDM.q2f rfl rfl rfl ?kq ?ksub ?_ | apply KDM.q2t rfl rfl rfl ?kq ?ksub ?_); (try (case ksub => (intro _ hp; first | exact hp | (cases hp; done) | (repeat (first | exact hp | apply List.mem_cons_of_mem | apply List.mem_append_right)) | (simp_all; done)))); (case kq => ((first | ((first | apply qt_add rfl rfl rfl ?hi ?om | apply qt_sub rfl rfl rfl ?hi ?om | apply qt_mul rfl rfl rfl ?hi ?om | apply qt_remN rfl rfl rfl ?hi ?om | apply qt_quoN rfl rfl rfl ?hi ?om | apply qt_addU rfl rfl rfl ?hi ?om | apply qt_subU rfl rfl rfl ?hi ?om | apply qt_mulU rfl rfl rfl ?hi ?om | apply qt_quoU rfl rfl rfl ?hi ?om | apply qt_convI rfl rfl rfl rfl ?hi ?om | apply qt_convU rfl rfl rfl rfl ?hi ?om | apply qt_indexAddr_arr rfl rfl rfl ?hi rfl rfl ?om | apply qt_indexAddr_slice rfl rfl rfl ?hi rfl rfl ?om | apply qt_sliceL rfl rfl rfl ?hi rfl rfl ?om | apply qt_sliceH rfl rfl rfl ?hi rfl rfl ?om | apply qt_sliceLH rfl rfl rfl rfl ?hi rfl rfl ?om | apply qt_sliceLHM rfl rfl rfl rfl rfl ?hi rfl rfl ?om | apply qt_sliceHM rfl rfl rfl rfl ?hi rfl rfl ?om); (case om => (intro hg; first | omega | (simp only [Bool.or_eq_false_iff, Bool.or_eq_true, Bool.and_eq_true, Bool.and_eq_false_iff, Bool.not_eq_true', Bool.not_eq_false', Bool.not_eq_true, Bool.not_eq_false, decide_eq_true_eq, decide_eq_false_iff_not, Bool.not_not, beq_iff_eq, bne_iff_ne, Bool.beq_eq_decide_eq] at hg; omega)))) | apply qt_ev rfl ?hi | ((first | apply qt_load1 rfl rfl ?hi rfl rfl ?hm ?hc | apply qt_loadN rfl rfl ?hi rfl rfl rfl ?hm ?hc); (case hm => repeat (first | exact List.Mem.head _ | apply List.Mem.tail _ | apply List.mem_append_right _)); (case hc => rfl)) | apply qt_pick_t rfl rfl (by first | with_reducible rfl | decide) rfl ?hi | apply qt_pick_f rfl rfl (by first | with_reducible rfl | decide) rfl ?hi | ((first | apply qt_pick_and rfl rfl rfl ?hi ?pj | apply qt_pick_or rfl rfl rfl ?hi ?pj); (case pj => (intro h h2; first | with_reducible exact h2 | with_reducible rfl | (simp [h2]; done) | (simp_all; done)))) | apply qt_build rfl rfl ?hi rfl | apply qt_eqs rfl rfl rfl ?hi rfl (Or.inl rfl) | apply qt_nes rfl rfl rfl ?hi rfl (Or.inl rfl) | ((first | apply qt_quoT rfl rfl rfl ?hi ?om); (case om => (intro hg; first | omega | (simp only [Bool.or_eq_false_iff, Bool.or_eq_true, Bool.and_eq_true, Bool.and_eq_false_iff, Bool.not_eq_true', Bool.not_eq_false', Bool.not_eq_true, Bool.not_eq_false, decide_eq_true_eq, decide_eq_false_iff_not, Bool.not_not, beq_iff_eq, bne_iff_ne, Bool.beq_eq_decide_eq] at hg; omega)))) | ((first | apply qt_rem rfl rfl rfl ?hi ?om | apply qt_quo rfl rfl rfl ?hi ?om | apply qt_shr rfl rfl rfl ?hi ?om | apply qt_shl rfl rfl rfl ?hi ?om); (case om => (intro hg; first | omega | (simp only [Bool.or_eq_false_iff, Bool.or_eq_true, Bool.and_eq_true, Bool.and_eq_false_iff, Bool.not_eq_true', Bool.not_eq_false', Bool.not_eq_true, Bool.not_eq_false, decide_eq_true_eq, decide_eq_false_iff_not, Bool.not_not, beq_iff_eq, bne_iff_ne, Bool.beq_eq_decide_eq] at hg; omega))))); (case hi => (intro h; (repeat' (first | with_reducible exact alln | with_reducible refine allc ?_ ?_ | with_reducible refine andi ?_ ?_)); all_goals (first | with_reducible rfl | with_reducible exact h | with_reducible exact andl h | with_reducible exact andr h | with_reducible exact andl (andl h) | (simp only [h, Bool.and_self]; done) | (simp [h]; done) | (simp_all; done)))))))
      | (refine KO.box rfl rfl rfl rfl rfl rfl ?_; intro _ _)
      | (refine KO.alloc rfl rfl rfl rfl rfl rfl ?_; intro _ _)
      | (refine KO.buildSlice rfl rfl rfl rfl rfl rfl rfl rfl rfl rfl rfl rfl rfl rfl ?_; intro _ _)
      | ((first | apply KO.store (i := 0) rfl rfl rfl rfl rfl rfl rfl rfl ?hl rfl ?hw ?ho ?hs | apply KO.store (i := 1) rfl rfl rfl rfl rfl rfl rfl rfl ?hl rfl ?hw ?ho ?hs | apply KO.store (i := 2) rfl rfl rfl rfl rfl rfl rfl rfl ?hl rfl ?hw ?ho ?hs | apply KO.store (i := 3) rfl rfl rfl rfl rfl rfl rfl rfl ?hl rfl ?hw ?ho ?hs | apply KO.store (i := 4) rfl rfl rfl rfl rfl rfl rfl rfl ?hl rfl ?hw ?ho ?hs | apply KO.store (i := 5) rfl rfl rfl rfl rfl rfl rfl rfl ?hl rfl ?hw ?ho ?hs | apply KO.store (i := 6) rfl rfl rfl rfl rfl rfl rfl rfl ?hl rfl ?hw ?ho ?hs | apply KO.store (i := 7) rfl rfl rfl rfl rfl rfl rfl rfl ?hl rfl ?hw ?ho ?hs); (case hl => rfl); (case hw => rfl); (case ho => rfl); (case hs => rfl))
      | (refine KW.cond rfl ?_ ?_ <;> (intro hc; try simp only [Bool.or_eq_false_iff, Bool.or_eq_true, Bool.and_eq_true, Bool.and_eq_false_iff, Bool.not_eq_true', Bool.not_eq_false', Bool.not_eq_true, Bool.not_eq_false, decide_eq_true_eq, decide_eq_false_iff_not, Bool.not_not, beq_iff_eq, bne_iff_ne, Bool.beq_eq_decide_eq] at hc))
      | exact absurd trivial ‹¬True›
      | (exfalso; omega)
      | ((first | apply KO.val (g := true) rfl rfl rfl | apply KD.val (g := true) rfl rfl rfl | apply KDE.val (g := true) rfl rfl rfl | apply KDE.val rfl rfl rfl | apply KDH.val0 (g := true) rfl rfl rfl | apply KDH.val1 (g := true) rfl rfl rfl | apply KO.val rfl rfl rfl | apply KD.val rfl rfl rfl | apply KDH.val0 rfl rfl rfl | apply KO.valIn rfl rfl rfl | apply KD.valIn rfl rfl rfl); (apply qt_loadN_cel rfl rfl ?hi rfl rfl rfl ?hl ?hc); (case hc => first | exact fun _ => (fun i v hv => (cel2 h1 hxy i v hv).mono (fun _ hq => by cases hq)) | exact fun _ => (fun i v hv => (cel2 h1 huv2 i v hv).mono (fun _ hq => by cases hq)) | exact fun hg => (fun i v hv => (cel2 h1 hxy i v hv).mono (fun _ hq => by cases hq)) | exact fun hg => (fun i v hv => (cel2 h1 huv2 i v hv).mono (fun _ hq => by cases hq))); (case hl => rfl); (case hi => (first | exact fun _ => rfl | (intro h; first | rfl | exact h | (simp [h]; done) | (simp_all; done)))))
      | ((first | apply KO.val (g := true) rfl rfl rfl | apply KD.val (g := true) rfl rfl rfl | apply KDE.val (g := true) rfl rfl rfl | apply KDE.val rfl rfl rfl | apply KDH.val0 (g := true) rfl rfl rfl | apply KDH.val1 (g := true) rfl rfl rfl | apply KO.val rfl rfl rfl | apply KD.val rfl rfl rfl | apply KDH.val0 rfl rfl rfl | apply KO.valIn rfl rfl rfl | apply KD.valIn rfl rfl rfl); (apply qt_load1_cel rfl rfl ?hi rfl rfl ?hc); (case hc => first | exact fun _ => (fun i v hv => (cel2 h1 hxy i v hv).mono (fun _ hq => by cases hq)) | exact fun _ => (fun i v hv => (cel2 h1 huv2 i v hv).mono (fun _ hq => by cases hq)) | exact fun hg => (fun i v hv => (cel2 h1 hxy i v hv).mono (fun _ hq => by cases hq)) | exact fun hg => (fun i v hv => (cel2 h1 huv2 i v hv).mono (fun _ hq => by cases hq))); (case hi => (first | exact fun _ => rfl | (intro h; first | rfl | exact h | (simp [h]; done) | (simp_all; done)))))
      | fail)
    ((first | apply At.done_ret | apply At.done_normal); (focus (repeat' (first | exact ResVs.nil' | apply ResVs.cons' | exact ResV.tmp' rfl | (apply ResV.cell1 rfl ?hm rfl rfl ?hc; (case hm => repeat (first | exact List.Mem.head _ | apply List.Mem.tail _ | apply List.mem_append_right _)); (case hc => rfl)) | (apply ResV.cellN rfl ?hm rfl rfl rfl ?hc; (case hm => repeat (first | exact List.Mem.head _ | apply List.Mem.tail _ | apply List.mem_append_right _)); (case hc => rfl))))); dsimp only [resVal])
    refine ⟨σ ++ [(b, cl [.slice p j c] 27)], List.Perm.refl _, _, List.Sublist.refl _, rfl, σ, rfl, .inl ?_⟩
    simpa [stepsL, hl] using hJ
end Go.Proofs.Ytefjpccldjacfaa

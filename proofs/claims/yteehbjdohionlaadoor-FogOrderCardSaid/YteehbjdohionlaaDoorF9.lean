/- FogOrder: two looks at one field come to the same in whichever order, and to what one look at all of their cells comes to. -/
import Derived.Test.YteehbjdohionlaaDoorF8
import Derived.Test.YteehbjdohionlaaDoorLT
namespace Go.Proofs.YteehbjdohionlaaDoor
open Go Go.K Go.ChangeShapes Go.WideShapes Go.ChangeAt Go.RowKit

theorem putL_or (w h : Int) : ∀ (l : List (Int × Int)) (f : Nat → Bool) (i : Nat), putL w h f l i = (f i || putL w h (fun _ => false) l i)
  | [], f, i => by simp [putL]
  | c :: l, f, i => by
    have e1 : putL w h f (c :: l) = putL w h (mSet w h f c.1 c.2 true) l := rfl
    have e2 : putL w h (fun _ => false) (c :: l) = putL w h (mSet w h (fun _ => false) c.1 c.2 true) l := rfl
    rw [e1, e2, putL_or w h l (mSet w h f c.1 c.2 true) i, putL_or w h l (mSet w h (fun _ => false) c.1 c.2 true) i, ← Bool.or_assoc]
    congr 1
    unfold mSet
    split
    · unfold upd
      by_cases e : i = (c.2 * w + c.1).toNat
      · simp [e]
      · simp [e]
    · simp
theorem stL_append (w h : Int) (a b : List (Int × Int)) (i : Nat) : stL w h (a ++ b) i = (stL w h a i || stL w h b i) := by
  unfold stL
  rw [putL_append, putL_or]
theorem cntB_pos {f : Nat → Bool} : ∀ {n : Nat}, 0 < cntB f n ↔ ∃ i, i < n ∧ f i = true
  | 0 => ⟨fun h => by simp [cntB] at h, fun ⟨i, h, _⟩ => by omega⟩
  | n + 1 => by
    rw [cntB]
    cases hf : f n with
    | true =>
      simp only [if_true]
      exact ⟨fun _ => ⟨n, by omega, hf⟩, fun _ => by omega⟩
    | false =>
      simp only [Bool.false_eq_true, if_false, Nat.add_zero]
      rw [cntB_pos (n := n)]
      constructor
      · rintro ⟨i, h1, h2⟩; exact ⟨i, by omega, h2⟩
      · rintro ⟨i, h1, h2⟩
        refine ⟨i, ?_, h2⟩
        rcases Nat.lt_or_ge i n with h3 | h3
        · exact h3
        · obtain rfl : i = n := by omega
          rw [hf] at h2; cases h2
def mkX (w h : Int) (p : Option Addr) (m c : Nat) (cs : List Nat) (q : Option Addr) (k d : Nat) (l : List (Int × Int)) : LookV := ⟨w, h, p, m, c, cs, q, k, d, l⟩
theorem mkX_e {w h : Int} {p : Option Addr} {m c : Nat} {cs : List Nat} {q : Option Addr} {k d : Nat} {l : List (Int × Int)} (hg : gMay w h = true) (hm : chkE w h m = 0) : lkE w h (mkX w h p m c cs q k d l) = 0 := by
  unfold lkE mkX
  dsimp only
  rw [hg, hm, if_neg (by simp), if_neg (by simp), if_pos ⟨rfl, rfl⟩]
theorem mkX_f {w h : Int} {p : Option Addr} {m c : Nat} {cs : List Nat} {q : Option Addr} {k d : Nat} {l : List (Int × Int)} (hg : gMay w h = true) (hm : chkE w h m = 0) : lkf w h (mkX w h p m c cs q k d l) = stL w h l := by
  unfold lkf
  rw [if_pos (mkX_e hg hm)]; rfl
theorem run_two {w h : Int} {n : Nat} {p : Option Addr} {m c : Nat} {cs : List Nat} {q1 q2 : Option Addr} {k1 d1 k2 d2 : Nat} {l1 l2 : List (Int × Int)} (hg : gMay w h = true) (hm : chkE w h m = 0) :
    (run w h n [mkX w h p m c cs q1 k1 d1 l1, mkX w h p m c cs q2 k2 d2 l2]).1 = (fun i => if stL w h l1 i || stL w h l2 i then some (cs.getD i 0) else none) ∧
    (0 < (run w h n [mkX w h p m c cs q1 k1 d1 l1, mkX w h p m c cs q2 k2 d2 l2]).2 ↔ ∃ i, i < n ∧ (stL w h l1 i || stL w h l2 i) = true) := by
  have e1 : run w h n [mkX w h p m c cs q1 k1 d1 l1, mkX w h p m c cs q2 k2 d2 l2] = stp w h n (stp w h n (fun _ => none, 0) (mkX w h p m c cs q1 k1 d1 l1)) (mkX w h p m c cs q2 k2 d2 l2) := rfl
  have e2 : ∀ q k d l, (mkX w h p m c cs q k d l).cs = cs := fun _ _ _ _ => rfl
  have e3 : newB (fun _ => none) (stL w h l1) cs = stL w h l1 := by funext i; unfold newB; simp
  have e4 : newB (mrg (fun _ => none) (stL w h l1) cs) (stL w h l2) cs = fun i => stL w h l2 i && !stL w h l1 i := by
    funext i
    unfold newB mrg
    cases stL w h l1 i <;> simp
  rw [e1]
  unfold stp
  dsimp only
  rw [mkX_f hg hm, mkX_f hg hm, e2, e2, e3, e4]
  refine ⟨?_, ?_⟩
  · funext i
    unfold mrg
    cases stL w h l1 i <;> cases stL w h l2 i <;> simp
  · by_cases h1 : 0 < cntB (stL w h l1) n
    · rw [if_pos h1]
      have hl : 0 < (if 0 < cntB (fun i => stL w h l2 i && !stL w h l1 i) n then (0 : Int) + 1 + 1 else 0 + 1) := by split <;> omega
      obtain ⟨i, i1, i2⟩ := cntB_pos.1 h1
      exact ⟨fun _ => ⟨i, i1, by rw [i2]; rfl⟩, fun _ => hl⟩
    · rw [if_neg h1]
      have hno : ∀ i, i < n → stL w h l1 i = false := fun i hi => by
        cases e : stL w h l1 i with
        | false => rfl
        | true => exact absurd (cntB_pos.2 ⟨i, hi, e⟩) h1
      by_cases h2 : 0 < cntB (fun i => stL w h l2 i && !stL w h l1 i) n
      · rw [if_pos h2]
        obtain ⟨i, i1, i2⟩ := cntB_pos.1 h2
        simp only [Bool.and_eq_true] at i2
        exact ⟨fun _ => ⟨i, i1, by rw [i2.1]; simp⟩, fun _ => by omega⟩
      · rw [if_neg h2]
        refine ⟨fun h => by omega, fun ⟨i, i1, i2⟩ => absurd (cntB_pos.2 ⟨i, i1, ?_⟩) h2⟩
        rw [hno i i1] at i2 ⊢
        simpa using i2
theorem run_one {w h : Int} {n : Nat} {p : Option Addr} {m c : Nat} {cs : List Nat} {q1 : Option Addr} {k1 d1 : Nat} {l1 : List (Int × Int)} (hg : gMay w h = true) (hm : chkE w h m = 0) :
    (run w h n [mkX w h p m c cs q1 k1 d1 l1]).1 = (fun i => if stL w h l1 i then some (cs.getD i 0) else none) ∧ (0 < (run w h n [mkX w h p m c cs q1 k1 d1 l1]).2 ↔ ∃ i, i < n ∧ stL w h l1 i = true) := by
  have e1 : run w h n [mkX w h p m c cs q1 k1 d1 l1] = stp w h n (fun _ => none, 0) (mkX w h p m c cs q1 k1 d1 l1) := rfl
  have e2 : ∀ q k d l, (mkX w h p m c cs q k d l).cs = cs := fun _ _ _ _ => rfl
  have e3 : newB (fun _ => none) (stL w h l1) cs = stL w h l1 := by funext i; unfold newB; simp
  rw [e1]
  unfold stp
  dsimp only
  rw [mkX_f hg hm, e2, e3]
  refine ⟨rfl, ?_⟩
  by_cases h1 : 0 < cntB (stL w h l1) n
  · rw [if_pos h1]; exact ⟨fun _ => cntB_pos.1 h1, fun _ => by omega⟩
  · rw [if_neg h1]; exact ⟨fun h => by omega, fun h => absurd (cntB_pos.2 h) h1⟩
theorem looksR2 {β : Nat → Option Obj} {x1 x2 : LookV} {q : Option Addr} (h1 : LookR β x1) (h2 : LookR β x2) (hs : SL β [] 4 2 (fl4 [x1, x2]) q) : LooksR β [x1, x2] q 2 := by
  refine ⟨rfl, fun x hx => ?_, hs⟩
  rcases List.mem_cons.1 hx with rfl | hx
  · exact h1
  · rcases List.mem_cons.1 hx with rfl | hx
    · exact h2
    · cases hx
theorem looksR1 {β : Nat → Option Obj} {x1 : LookV} {q : Option Addr} (h1 : LookR β x1) (hs : SL β [] 4 1 (fl4 [x1]) q) : LooksR β [x1] q 1 := by
  refine ⟨rfl, fun x hx => ?_, hs⟩
  rcases List.mem_cons.1 hx with rfl | hx
  · exact h1
  · cases hx
theorem kb2 {x1 x2 : LookV} (h1 : x1.k ≤ 1000000) (h2 : x2.k ≤ 1000000) : ∀ x ∈ [x1, x2], x.k ≤ 1000000 := by
  intro x hx
  rcases List.mem_cons.1 hx with rfl | hx
  · exact h1
  · rcases List.mem_cons.1 hx with rfl | hx
    · exact h2
    · cases hx
theorem kb1 {x1 : LookV} (h1 : x1.k ≤ 1000000) : ∀ x ∈ [x1], x.k ≤ 1000000 := by
  intro x hx
  rcases List.mem_cons.1 hx with rfl | hx
  · exact h1
  · cases hx
set_option maxRecDepth 4000 in
set_option maxHeartbeats 32000000 in
theorem FogOrder_p (β : Nat → Option Obj) (ht : TB β) (w h : Int) (p : Option Addr) (m c : Nat) (cs : List Nat) (q1 q2 : Option Addr) (k1 d1 k2 d2 : Nat) (l1 l2 : List (Int × Int)) (hl : cs.length = m) (hb : ∀ g ∈ cs, g < 65536) (hp : SL β [] 1 m (by16 cs) p) (h1 : PIn β q1 k1 d1 l1) (h2 : PIn β q2 k2 d2 l2) :
    Go.K.PureB Tryd.prog 4 #[.agg #[.int .i64 w, .int .i64 h, .slice p m c], .agg #[.slice q1 k1 d1, .slice q2 k2 d2]] β (.bool true) := by
  refine Tr.pureB ?_
  refine Tr.of_body Tryd.tt (args := [.agg #[.int .i64 w, .int .i64 h, .slice p m c], .agg #[.slice q1 k1 d1, .slice q2 k2 d2]]) (fr := [(0, true, .agg #[.int .i64 w, .int .i64 h, .slice p m c]), (1, true, .agg #[.slice q1 k1 d1, .slice q2 k2 d2])]) Tryd.func4 rfl (by decide) rfl Tryd.ntmps4 rfl rfl ?_
  intro E hE
  subst hE
  have hawk := awake_p E.β ht
  have hsm := SmallF_p w h p m c
  obtain ⟨B, hB⟩ : ∃ B, B = sml w h m := ⟨_, rfl⟩
  rw [← hB] at hsm
  have hck := Check_p w h p m c
  obtain ⟨e, hee⟩ : ∃ e, e = chkE w h m := ⟨_, rfl⟩
  rw [← hee] at hck
  repeat' (first | refine KW.seq ?_ | refine KW.region ?_ | refine KO.nil ?_ | refine At.then_normal ?_ | refine KW.skip ?_ | refine KW.ret ?_ | refine At.then_ret ?_ | refine KW.block ?_ | refine KW.exit ?_ | refine At.block_normal ?_ | refine At.block_ret ?_ | refine At.loop_ret ?_ | refine At.then_exit ?_ | refine At.block_here rfl ?_ | refine At.block_there rfl ?_ | refine At.loop_exit ?_ | refine At.cut_ret ?_ | refine At.cutA_ret ?_ | refine At.cutA_exit ?_ | refine At.cut_exit ?_ | (refine At.cut_same ?_; repeat' (first | exact FLe.nil _ | refine FLe.cons rfl rfl ?_)) | refine KW.cond_t rfl (by first | with_reducible rfl | decide) ?_ | refine KW.cond_f rfl (by first | with_reducible rfl | decide) ?_ | refine KW.scope ?_ | refine KW.label ?_ | refine At.scope_normal ?_ | refine At.scope_ret ?_ | refine At.scope_exit ?_ | refine KO.skip' rfl (by first | with_reducible rfl | decide) rfl rfl ?_ | refine KO.skip0' rfl (by first | with_reducible rfl | decide) rfl ?_ | refine KO.skipIn rfl (by first | with_reducible rfl | decide) rfl rfl ?_ | ((first | apply KO.val rfl rfl rfl ?kq ?_ | apply KO.valIn rfl rfl rfl ?kq ?_); (case kq => ((first | ((first | apply qt_indexAddr_arr rfl rfl rfl ?hi rfl rfl ?om | apply qt_indexAddr_slice rfl rfl rfl ?hi rfl rfl ?om); (case om => (intro hg; first | omega | (simp only [kBool] at hg; omega)))) | apply qt_ev rfl ?hi | ((first | apply qt_load1 rfl rfl ?hi rfl rfl ?hm ?hc | apply qt_loadN rfl rfl ?hi rfl rfl rfl ?hm ?hc); (case hm => repeat (first | exact List.Mem.head _ | apply List.Mem.tail _ | apply List.mem_append_right _)); (case hc => rfl)) | refine qt_call rfl rfl ?hi (fun hg => hsm) | refine qt_call rfl rfl ?hi (fun hg => hck) | refine qt_callQ rfl rfl ?hi (fun hg => Tr.quiet hawk) | apply qt_pick_t rfl rfl (by first | with_reducible rfl | decide) rfl ?hi | apply qt_pick_f rfl rfl (by first | with_reducible rfl | decide) rfl ?hi | ((first | apply qt_pick_and rfl rfl rfl ?hi ?pj | apply qt_pick_or rfl rfl rfl ?hi ?pj); (case pj => (intro h h2; first | with_reducible exact h2 | with_reducible exact andi h h2 | (rw [h2]; rfl) | (rw [h, h2]; rfl) | with_reducible rfl | (simp [h2]; done) | (simp_all; done)))) | apply qt_cap rfl rfl ?hi rfl | apply qt_build rfl rfl ?hi rfl | apply qt_eqs rfl rfl rfl ?hi rfl (Or.inl rfl) | apply qt_nes rfl rfl rfl ?hi rfl (Or.inl rfl)); (case hi => (intro h; (repeat' (first | with_reducible exact alln | with_reducible refine allc ?_ ?_ | with_reducible refine andi ?_ ?_)); all_goals (first | with_reducible rfl | with_reducible exact h | with_reducible exact andl h | with_reducible exact andr h | with_reducible exact andl (andl h) | (simp only [h, Bool.and_self]; done) | (simp [h]; done) | (simp_all; done))))))) | (refine KO.box rfl rfl rfl rfl rfl rfl ?_; intro _ _) | (refine KO.buildSlice rfl rfl rfl rfl rfl rfl rfl rfl rfl rfl rfl rfl rfl rfl ?_; intro _ _) | (refine KW.cond rfl ?_ ?_ <;> (intro hc; try simp only [kBool] at hc)) | exact absurd trivial ‹¬True› | fail)
  · ((first | apply At.done_ret | apply At.done_normal); (focus (repeat' (first | exact ResVs.nil' | apply ResVs.cons' | exact ResV.tmp' rfl | (apply ResV.cell1 rfl ?hm rfl rfl ?hc; (case hm => repeat (first | exact List.Mem.head _ | apply List.Mem.tail _ | apply List.mem_append_right _)); (case hc => rfl)) | (apply ResV.cellN rfl ?hm rfl rfl rfl ?hc; (case hm => repeat (first | exact List.Mem.head _ | apply List.Mem.tail _ | apply List.mem_append_right _)); (case hc => rfl))))); dsimp only [resVal])
  rename_i b2 _ b3 _ bL _
  have hc1 := hc
  clear hc
  have hck0 : chkE w h m = 0 := by rw [← hee]; exact hc1.2
  have hg : gMay w h = true := by
    cases hg : gMay w h with
    | true => rfl
    | false => unfold chkE at hck0; rw [hg, if_neg (by simp)] at hck0; cases hck0
  obtain ⟨m1, m2, m3, m4, m5, m6, m7⟩ := nCo_bd hg
  have r1 := run_two (n := nCo w h) (p := p) (c := c) (cs := cs) (q1 := q1) (q2 := q2) (k1 := k1) (d1 := d1) (k2 := k2) (d2 := d2) (l1 := l1) (l2 := l2) hg hck0
  have r2 := run_two (n := nCo w h) (p := p) (c := c) (cs := cs) (q1 := q2) (q2 := q1) (k1 := k2) (d1 := d2) (k2 := k1) (d2 := d1) (l1 := l2) (l2 := l1) hg hck0
  have hLk : ∀ β', (∀ b o, E.β b = some o → β' b = some o) → ∀ q k d l, PIn E.β q k d l → LookR β' (mkX w h p m c cs q k d l) := fun β' g1 q k d l hq => ⟨hl, hb, hp.up g1, hq.len, hq.sl.up g1⟩
  refine KO.callB [] ((bL, cl [.int .i64 w, .int .i64 h, .slice p m c, .slice q1 k1 d1, .int .i64 w, .int .i64 h, .slice p m c, .slice q2 k2 d2] 42) :: ((b3, cl [.slice q1 k1 d1, .slice q2 k2 d2] 52) :: [(b2, cl [.int .i64 w, .int .i64 h, .slice p m c] 39)])) (by classical exact List.perm_iff_count.2 (fun _ => by first | (simp only [List.count_append, List.count_cons, List.count_nil, List.append_assoc, List.cons_append, List.nil_append]; done) | (simp only [List.count_append, List.count_cons, List.count_nil, List.append_assoc, List.cons_append, List.nil_append]; omega))) rfl rfl rfl rfl rfl rfl rfl (fun β' g1 g2 => looks_p β' (Tab8.up g1 ht) w h (some ⟨bL, 0, none⟩) 2 2 [mkX w h p m c cs q1 k1 d1 l1, mkX w h p m c cs q2 k2 d2 l2] (looksR2 (hLk β' g1 _ _ _ _ h1) (hLk β' g1 _ _ _ _ h2) (SL.frz g1 g2 (SL.ofBlk (b := bL) (e := 42) (List.Mem.head _) rfl))) (by omega) (kb2 (show k1 ≤ 1000000 by omega) (show k2 ≤ 1000000 by omega))) ?_
  rintro _ _ (⟨hx, _⟩ | ⟨_, va0, va2, ba, na, rfl, rfl⟩)
  · rw [hg] at hx; cases hx
  obtain ⟨RA, hRA⟩ : ∃ R, R = (run w h (nCo w h) [mkX w h p m c cs q1 k1 d1 l1, mkX w h p m c cs q2 k2 d2 l2]) := ⟨_, rfl⟩
  rw [← hRA] at va0 va2 r1 ⊢
  repeat' (first | refine KW.seq ?_ | refine KW.region ?_ | refine KO.nil ?_ | refine At.then_normal ?_ | refine KW.skip ?_ | refine KW.ret ?_ | refine At.then_ret ?_ | refine KW.block ?_ | refine KW.exit ?_ | refine At.block_normal ?_ | refine At.block_ret ?_ | refine At.loop_ret ?_ | refine At.then_exit ?_ | refine At.block_here rfl ?_ | refine At.block_there rfl ?_ | refine At.loop_exit ?_ | refine At.cut_ret ?_ | refine At.cutA_ret ?_ | refine At.cutA_exit ?_ | refine At.cut_exit ?_ | (refine At.cut_same ?_; repeat' (first | exact FLe.nil _ | refine FLe.cons rfl rfl ?_)) | refine KW.cond_t rfl (by first | with_reducible rfl | decide) ?_ | refine KW.cond_f rfl (by first | with_reducible rfl | decide) ?_ | refine KW.scope ?_ | refine KW.label ?_ | refine At.scope_normal ?_ | refine At.scope_ret ?_ | refine At.scope_exit ?_ | refine KO.skip' rfl (by first | with_reducible rfl | decide) rfl rfl ?_ | refine KO.skip0' rfl (by first | with_reducible rfl | decide) rfl ?_ | refine KO.skipIn rfl (by first | with_reducible rfl | decide) rfl rfl ?_ | ((first | apply KO.val rfl rfl rfl ?kq ?_ | apply KO.valIn rfl rfl rfl ?kq ?_); (case kq => ((first | ((first | apply qt_indexAddr_arr rfl rfl rfl ?hi rfl rfl ?om | apply qt_indexAddr_slice rfl rfl rfl ?hi rfl rfl ?om); (case om => (intro hg; first | omega | (simp only [kBool] at hg; omega)))) | apply qt_ev rfl ?hi | ((first | apply qt_load1 rfl rfl ?hi rfl rfl ?hm ?hc | apply qt_loadN rfl rfl ?hi rfl rfl rfl ?hm ?hc); (case hm => repeat (first | exact List.Mem.head _ | apply List.Mem.tail _ | apply List.mem_append_right _)); (case hc => rfl)) | apply qt_pick_t rfl rfl (by first | with_reducible rfl | decide) rfl ?hi | apply qt_pick_f rfl rfl (by first | with_reducible rfl | decide) rfl ?hi | ((first | apply qt_pick_and rfl rfl rfl ?hi ?pj | apply qt_pick_or rfl rfl rfl ?hi ?pj); (case pj => (intro h h2; first | with_reducible exact h2 | with_reducible exact andi h h2 | (rw [h2]; rfl) | (rw [h, h2]; rfl) | with_reducible rfl | (simp [h2]; done) | (simp_all; done)))) | apply qt_cap rfl rfl ?hi rfl | apply qt_build rfl rfl ?hi rfl | apply qt_eqs rfl rfl rfl ?hi rfl (Or.inl rfl) | apply qt_nes rfl rfl rfl ?hi rfl (Or.inl rfl)); (case hi => (intro h; (repeat' (first | with_reducible exact alln | with_reducible refine allc ?_ ?_ | with_reducible refine andi ?_ ?_)); all_goals (first | with_reducible rfl | with_reducible exact h | with_reducible exact andl h | with_reducible exact andr h | with_reducible exact andl (andl h) | (simp only [h, Bool.and_self]; done) | (simp [h]; done) | (simp_all; done))))))) | (refine KO.box rfl rfl rfl rfl rfl rfl ?_; intro _ _) | (refine KO.buildSlice rfl rfl rfl rfl rfl rfl rfl rfl rfl rfl rfl rfl rfl rfl ?_; intro _ _) | (refine KW.cond rfl ?_ ?_ <;> (intro hc; try simp only [kBool] at hc)) | exact absurd trivial ‹¬True› | fail)
  rename_i bL2 _
  refine KO.callB [] ((bL2, cl [.int .i64 w, .int .i64 h, .slice p m c, .slice q2 k2 d2, .int .i64 w, .int .i64 h, .slice p m c, .slice q1 k1 d1] 42) :: (fogC ba na (nCo w h) (nCo w h) [] w h RA.2 RA.1 ++ (bL, cl [.int .i64 w, .int .i64 h, .slice p m c, .slice q1 k1 d1, .int .i64 w, .int .i64 h, .slice p m c, .slice q2 k2 d2] 42) :: ((b3, cl [.slice q1 k1 d1, .slice q2 k2 d2] 52) :: [(b2, cl [.int .i64 w, .int .i64 h, .slice p m c] 39)]))) (by classical exact List.perm_iff_count.2 (fun _ => by first | (simp only [List.count_append, List.count_cons, List.count_nil, List.append_assoc, List.cons_append, List.nil_append]; done) | (simp only [List.count_append, List.count_cons, List.count_nil, List.append_assoc, List.cons_append, List.nil_append]; omega))) rfl rfl rfl rfl rfl rfl rfl (fun β' g1 g2 => looks_p β' (Tab8.up g1 ht) w h (some ⟨bL2, 0, none⟩) 2 2 [mkX w h p m c cs q2 k2 d2 l2, mkX w h p m c cs q1 k1 d1 l1] (looksR2 (hLk β' g1 _ _ _ _ h2) (hLk β' g1 _ _ _ _ h1) (SL.frz g1 g2 (SL.ofBlk (b := bL2) (e := 42) (List.Mem.head _) rfl))) (by omega) (kb2 (show k2 ≤ 1000000 by omega) (show k1 ≤ 1000000 by omega))) ?_
  rintro _ _ (⟨hx, _⟩ | ⟨_, vb0, vb2, bb, nb, rfl, rfl⟩)
  · rw [hg] at hx; cases hx
  obtain ⟨RB, hRB⟩ : ∃ R, R = (run w h (nCo w h) [mkX w h p m c cs q2 k2 d2 l2, mkX w h p m c cs q1 k1 d1 l1]) := ⟨_, rfl⟩
  rw [← hRB] at r2 ⊢
  refine KO.drop (σ' := fogC bb nb (nCo w h) (nCo w h) [] w h RB.2 RB.1 ++ (fogC ba na (nCo w h) (nCo w h) [] w h RA.2 RA.1 ++ ((b3, cl [.slice q1 k1 d1, .slice q2 k2 d2] 52) :: [(b2, cl [.int .i64 w, .int .i64 h, .slice p m c] 39)]))) [(bL2, cl [.int .i64 w, .int .i64 h, .slice p m c, .slice q2 k2 d2, .int .i64 w, .int .i64 h, .slice p m c, .slice q1 k1 d1] 42), (bL, cl [.int .i64 w, .int .i64 h, .slice p m c, .slice q1 k1 d1, .int .i64 w, .int .i64 h, .slice p m c, .slice q2 k2 d2] 42)] (by classical exact List.perm_iff_count.2 (fun _ => by first | (simp only [List.count_append, List.count_cons, List.count_nil, List.append_assoc, List.cons_append, List.nil_append]; done) | (simp only [List.count_append, List.count_cons, List.count_nil, List.append_assoc, List.cons_append, List.nil_append]; omega))) ?_
  repeat' (first | refine KW.seq ?_ | refine KW.region ?_ | refine KO.nil ?_ | refine At.then_normal ?_ | refine KW.skip ?_ | refine KW.ret ?_ | refine At.then_ret ?_ | refine KW.block ?_ | refine KW.exit ?_ | refine At.block_normal ?_ | refine At.block_ret ?_ | refine At.loop_ret ?_ | refine At.then_exit ?_ | refine At.block_here rfl ?_ | refine At.block_there rfl ?_ | refine At.loop_exit ?_ | refine At.cut_ret ?_ | refine At.cutA_ret ?_ | refine At.cutA_exit ?_ | refine At.cut_exit ?_ | (refine At.cut_same ?_; repeat' (first | exact FLe.nil _ | refine FLe.cons rfl rfl ?_)) | refine KW.cond_t rfl (by first | with_reducible rfl | decide) ?_ | refine KW.cond_f rfl (by first | with_reducible rfl | decide) ?_ | refine KW.scope ?_ | refine KW.label ?_ | refine At.scope_normal ?_ | refine At.scope_ret ?_ | refine At.scope_exit ?_ | refine KO.skip' rfl (by first | with_reducible rfl | decide) rfl rfl ?_ | refine KO.skip0' rfl (by first | with_reducible rfl | decide) rfl ?_ | refine KO.skipIn rfl (by first | with_reducible rfl | decide) rfl rfl ?_ | ((first | apply KO.val rfl rfl rfl ?kq ?_ | apply KO.valIn rfl rfl rfl ?kq ?_); (case kq => ((first | ((first | apply qt_indexAddr_arr rfl rfl rfl ?hi rfl rfl ?om | apply qt_indexAddr_slice rfl rfl rfl ?hi rfl rfl ?om); (case om => (intro hg; first | omega | (simp only [kBool] at hg; omega)))) | apply qt_ev rfl ?hi | ((first | apply qt_load1 rfl rfl ?hi rfl rfl ?hm ?hc | apply qt_loadN rfl rfl ?hi rfl rfl rfl ?hm ?hc); (case hm => repeat (first | exact List.Mem.head _ | apply List.Mem.tail _ | apply List.mem_append_right _)); (case hc => rfl)) | apply qt_pick_t rfl rfl (by first | with_reducible rfl | decide) rfl ?hi | apply qt_pick_f rfl rfl (by first | with_reducible rfl | decide) rfl ?hi | ((first | apply qt_pick_and rfl rfl rfl ?hi ?pj | apply qt_pick_or rfl rfl rfl ?hi ?pj); (case pj => (intro h h2; first | with_reducible exact h2 | with_reducible exact andi h h2 | (rw [h2]; rfl) | (rw [h, h2]; rfl) | with_reducible rfl | (simp [h2]; done) | (simp_all; done)))) | apply qt_cap rfl rfl ?hi rfl | apply qt_build rfl rfl ?hi rfl | apply qt_eqs rfl rfl rfl ?hi rfl (Or.inl rfl) | apply qt_nes rfl rfl rfl ?hi rfl (Or.inl rfl)); (case hi => (intro h; (repeat' (first | with_reducible exact alln | with_reducible refine allc ?_ ?_ | with_reducible refine andi ?_ ?_)); all_goals (first | with_reducible rfl | with_reducible exact h | with_reducible exact andl h | with_reducible exact andr h | with_reducible exact andl (andl h) | (simp only [h, Bool.and_self]; done) | (simp [h]; done) | (simp_all; done))))))) | (refine KO.box rfl rfl rfl rfl rfl rfl ?_; intro _ _) | (refine KO.buildSlice rfl rfl rfl rfl rfl rfl rfl rfl rfl rfl rfl rfl rfl rfl ?_; intro _ _) | (refine KW.cond rfl ?_ ?_ <;> (intro hc; try simp only [kBool] at hc)) | exact absurd trivial ‹¬True› | fail)
  refine KO.appendL (fogC bb nb (nCo w h) (nCo w h) [] w h RB.2 RB.1 ++ (fogC ba na (nCo w h) (nCo w h) [] w h RA.2 RA.1 ++ ((b3, cl [.slice q1 k1 d1, .slice q2 k2 d2] 52) :: [(b2, cl [.int .i64 w, .int .i64 h, .slice p m c] 39)]))) [] (by classical exact List.perm_iff_count.2 (fun _ => by first | (simp only [List.count_append, List.count_cons, List.count_nil, List.append_assoc, List.cons_append, List.nil_append]; done) | (simp only [List.count_append, List.count_cons, List.count_nil, List.append_assoc, List.cons_append, List.nil_append]; omega))) rfl rfl rfl rfl rfl rfl rfl rfl rfl rfl (by decide) (Vec.nil _ 2) (h1.sl.mono (fun _ hq => by cases hq)) h1.none fl2_one (by simp only [maxLen]; omega) (by omega) ?_
  intro v1 φ1 hv1
  obtain ⟨p1, cp1, rfl⟩ := hv1.len
  repeat' (first | refine KW.seq ?_ | refine KW.region ?_ | refine KO.nil ?_ | refine At.then_normal ?_ | refine KW.skip ?_ | refine KW.ret ?_ | refine At.then_ret ?_ | refine KW.block ?_ | refine KW.exit ?_ | refine At.block_normal ?_ | refine At.block_ret ?_ | refine At.loop_ret ?_ | refine At.then_exit ?_ | refine At.block_here rfl ?_ | refine At.block_there rfl ?_ | refine At.loop_exit ?_ | refine At.cut_ret ?_ | refine At.cutA_ret ?_ | refine At.cutA_exit ?_ | refine At.cut_exit ?_ | (refine At.cut_same ?_; repeat' (first | exact FLe.nil _ | refine FLe.cons rfl rfl ?_)) | refine KW.cond_t rfl (by first | with_reducible rfl | decide) ?_ | refine KW.cond_f rfl (by first | with_reducible rfl | decide) ?_ | refine KW.scope ?_ | refine KW.label ?_ | refine At.scope_normal ?_ | refine At.scope_ret ?_ | refine At.scope_exit ?_ | refine KO.skip' rfl (by first | with_reducible rfl | decide) rfl rfl ?_ | refine KO.skip0' rfl (by first | with_reducible rfl | decide) rfl ?_ | refine KO.skipIn rfl (by first | with_reducible rfl | decide) rfl rfl ?_ | ((first | apply KO.val rfl rfl rfl ?kq ?_ | apply KO.valIn rfl rfl rfl ?kq ?_); (case kq => ((first | ((first | apply qt_indexAddr_arr rfl rfl rfl ?hi rfl rfl ?om | apply qt_indexAddr_slice rfl rfl rfl ?hi rfl rfl ?om); (case om => (intro hg; first | omega | (simp only [kBool] at hg; omega)))) | apply qt_ev rfl ?hi | ((first | apply qt_load1 rfl rfl ?hi rfl rfl ?hm ?hc | apply qt_loadN rfl rfl ?hi rfl rfl rfl ?hm ?hc); (case hm => repeat (first | exact List.Mem.head _ | apply List.Mem.tail _ | apply List.mem_append_right _)); (case hc => rfl)) | apply qt_pick_t rfl rfl (by first | with_reducible rfl | decide) rfl ?hi | apply qt_pick_f rfl rfl (by first | with_reducible rfl | decide) rfl ?hi | ((first | apply qt_pick_and rfl rfl rfl ?hi ?pj | apply qt_pick_or rfl rfl rfl ?hi ?pj); (case pj => (intro h h2; first | with_reducible exact h2 | with_reducible exact andi h h2 | (rw [h2]; rfl) | (rw [h, h2]; rfl) | with_reducible rfl | (simp [h2]; done) | (simp_all; done)))) | apply qt_cap rfl rfl ?hi rfl | apply qt_build rfl rfl ?hi rfl | apply qt_eqs rfl rfl rfl ?hi rfl (Or.inl rfl) | apply qt_nes rfl rfl rfl ?hi rfl (Or.inl rfl)); (case hi => (intro h; (repeat' (first | with_reducible exact alln | with_reducible refine allc ?_ ?_ | with_reducible refine andi ?_ ?_)); all_goals (first | with_reducible rfl | with_reducible exact h | with_reducible exact andl h | with_reducible exact andr h | with_reducible exact andl (andl h) | (simp only [h, Bool.and_self]; done) | (simp [h]; done) | (simp_all; done))))))) | (refine KO.box rfl rfl rfl rfl rfl rfl ?_; intro _ _) | (refine KO.buildSlice rfl rfl rfl rfl rfl rfl rfl rfl rfl rfl rfl rfl rfl rfl ?_; intro _ _) | (refine KW.cond rfl ?_ ?_ <;> (intro hc; try simp only [kBool] at hc)) | exact absurd trivial ‹¬True› | fail)
  refine KO.appendL (fogC bb nb (nCo w h) (nCo w h) [] w h RB.2 RB.1 ++ (fogC ba na (nCo w h) (nCo w h) [] w h RA.2 RA.1 ++ ((b3, cl [.slice q1 k1 d1, .slice q2 k2 d2] 52) :: [(b2, cl [.int .i64 w, .int .i64 h, .slice p m c] 39)]))) φ1 (by classical exact List.perm_iff_count.2 (fun _ => by first | (simp only [List.count_append, List.count_cons, List.count_nil, List.append_assoc, List.cons_append, List.nil_append]; done) | (simp only [List.count_append, List.count_cons, List.count_nil, List.append_assoc, List.cons_append, List.nil_append]; omega))) rfl rfl rfl rfl rfl rfl rfl rfl rfl rfl (by decide) hv1 (h2.sl.mono (fun _ hq => by cases hq)) h2.none fl2_one (by simp only [maxLen]; omega) (by omega) ?_
  intro v2 φ2 hv2
  obtain ⟨pA, cA, rfl⟩ := hv2.len
  rw [Nat.zero_add] at hv2 ⊢
  rw [List.nil_append, ← fl2_append] at hv2
  repeat' (first | refine KW.seq ?_ | refine KW.region ?_ | refine KO.nil ?_ | refine At.then_normal ?_ | refine KW.skip ?_ | refine KW.ret ?_ | refine At.then_ret ?_ | refine KW.block ?_ | refine KW.exit ?_ | refine At.block_normal ?_ | refine At.block_ret ?_ | refine At.loop_ret ?_ | refine At.then_exit ?_ | refine At.block_here rfl ?_ | refine At.block_there rfl ?_ | refine At.loop_exit ?_ | refine At.cut_ret ?_ | refine At.cutA_ret ?_ | refine At.cutA_exit ?_ | refine At.cut_exit ?_ | (refine At.cut_same ?_; repeat' (first | exact FLe.nil _ | refine FLe.cons rfl rfl ?_)) | refine KW.cond_t rfl (by first | with_reducible rfl | decide) ?_ | refine KW.cond_f rfl (by first | with_reducible rfl | decide) ?_ | refine KW.scope ?_ | refine KW.label ?_ | refine At.scope_normal ?_ | refine At.scope_ret ?_ | refine At.scope_exit ?_ | refine KO.skip' rfl (by first | with_reducible rfl | decide) rfl rfl ?_ | refine KO.skip0' rfl (by first | with_reducible rfl | decide) rfl ?_ | refine KO.skipIn rfl (by first | with_reducible rfl | decide) rfl rfl ?_ | ((first | apply KO.val rfl rfl rfl ?kq ?_ | apply KO.valIn rfl rfl rfl ?kq ?_); (case kq => ((first | ((first | apply qt_indexAddr_arr rfl rfl rfl ?hi rfl rfl ?om | apply qt_indexAddr_slice rfl rfl rfl ?hi rfl rfl ?om); (case om => (intro hg; first | omega | (simp only [kBool] at hg; omega)))) | apply qt_ev rfl ?hi | ((first | apply qt_load1 rfl rfl ?hi rfl rfl ?hm ?hc | apply qt_loadN rfl rfl ?hi rfl rfl rfl ?hm ?hc); (case hm => repeat (first | exact List.Mem.head _ | apply List.Mem.tail _ | apply List.mem_append_right _)); (case hc => rfl)) | apply qt_pick_t rfl rfl (by first | with_reducible rfl | decide) rfl ?hi | apply qt_pick_f rfl rfl (by first | with_reducible rfl | decide) rfl ?hi | ((first | apply qt_pick_and rfl rfl rfl ?hi ?pj | apply qt_pick_or rfl rfl rfl ?hi ?pj); (case pj => (intro h h2; first | with_reducible exact h2 | with_reducible exact andi h h2 | (rw [h2]; rfl) | (rw [h, h2]; rfl) | with_reducible rfl | (simp [h2]; done) | (simp_all; done)))) | apply qt_cap rfl rfl ?hi rfl | apply qt_build rfl rfl ?hi rfl | apply qt_eqs rfl rfl rfl ?hi rfl (Or.inl rfl) | apply qt_nes rfl rfl rfl ?hi rfl (Or.inl rfl)); (case hi => (intro h; (repeat' (first | with_reducible exact alln | with_reducible refine allc ?_ ?_ | with_reducible refine andi ?_ ?_)); all_goals (first | with_reducible rfl | with_reducible exact h | with_reducible exact andl h | with_reducible exact andr h | with_reducible exact andl (andl h) | (simp only [h, Bool.and_self]; done) | (simp [h]; done) | (simp_all; done))))))) | (refine KO.box rfl rfl rfl rfl rfl rfl ?_; intro _ _) | (refine KO.buildSlice rfl rfl rfl rfl rfl rfl rfl rfl rfl rfl rfl rfl rfl rfl ?_; intro _ _) | (refine KW.cond rfl ?_ ?_ <;> (intro hc; try simp only [kBool] at hc)) | exact absurd trivial ‹¬True› | fail)
  rename_i bL3 _
  have r3 := run_one (n := nCo w h) (p := p) (c := c) (cs := cs) (q1 := pA) (k1 := k1 + k2) (d1 := cA) (l1 := l1 ++ l2) hg hck0
  refine KO.callB [] ((bL3, cl [.int .i64 w, .int .i64 h, .slice p m c, .slice pA (k1 + k2) cA] 42) :: ((fogC bb nb (nCo w h) (nCo w h) [] w h RB.2 RB.1 ++ (fogC ba na (nCo w h) (nCo w h) [] w h RA.2 RA.1 ++ ((b3, cl [.slice q1 k1 d1, .slice q2 k2 d2] 52) :: [(b2, cl [.int .i64 w, .int .i64 h, .slice p m c] 39)]))) ++ φ2)) (by classical exact List.perm_iff_count.2 (fun _ => by first | (simp only [List.count_append, List.count_cons, List.count_nil, List.append_assoc, List.cons_append, List.nil_append]; done) | (simp only [List.count_append, List.count_cons, List.count_nil, List.append_assoc, List.cons_append, List.nil_append]; omega))) rfl rfl rfl rfl rfl rfl rfl (fun β' g1 g2 => looks_p β' (Tab8.up g1 ht) w h (some ⟨bL3, 0, none⟩) 1 1 [mkX w h p m c cs pA (k1 + k2) cA (l1 ++ l2)] (looksR1 ⟨hl, hb, hp.up g1, by show (l1 ++ l2).length = k1 + k2; rw [List.length_append, h1.len, h2.len], SL.frz g1 g2 (SL.ofVec hv2 (fun r hr => List.mem_cons_of_mem _ (List.mem_append_right _ hr)))⟩ (SL.frz g1 g2 (SL.ofBlk (b := bL3) (e := 42) (List.Mem.head _) rfl))) (by omega) (kb1 (show k1 + k2 ≤ 1000000 by omega))) ?_
  rintro _ _ (⟨hx, _⟩ | ⟨_, vc0, vc2, bc, nc, rfl, rfl⟩)
  · rw [hg] at hx; cases hx
  obtain ⟨RC, hRC⟩ : ∃ R, R = (run w h (nCo w h) [mkX w h p m c cs pA (k1 + k2) cA (l1 ++ l2)]) := ⟨_, rfl⟩
  rw [← hRC] at r3 ⊢
  have hab : eqN RA.1 RB.1 (nCo w h) = true := eqN_iff.2 fun i _ => by rw [r1.1, r2.1]; dsimp only; rw [Bool.or_comm]
  have hac : eqN RA.1 RC.1 (nCo w h) = true := eqN_iff.2 fun i _ => by rw [r1.1, r3.1]; dsimp only; rw [stL_append]
  have hvac : decide (0 < RA.2) = decide (0 < RC.2) := decide_eq_decide.2 (by rw [r1.2, r3.2]; simp only [stL_append])
  have hS1 := fun (σ : Heap) (g1 : ∀ r ∈ fogC ba na (nCo w h) (nCo w h) [] w h RA.2 RA.1, r ∈ σ) (g2 : ∀ r ∈ fogC bb nb (nCo w h) (nCo w h) [] w h RB.2 RB.1, r ∈ σ) => SameG_p E.β σ w h RA.2 w h RB.2 (nCo w h) (nCo w h) (nCo w h) (nCo w h) RA.1 RB.1 ba na bb nb (FogR.of g1) (FogR.of g2) m3 m3
  have hS2 := fun (σ : Heap) (g1 : ∀ r ∈ fogC ba na (nCo w h) (nCo w h) [] w h RA.2 RA.1, r ∈ σ) (g2 : ∀ r ∈ fogC bc nc (nCo w h) (nCo w h) [] w h RC.2 RC.1, r ∈ σ) => SameG_p E.β σ w h RA.2 w h RC.2 (nCo w h) (nCo w h) (nCo w h) (nCo w h) RA.1 RC.1 ba na bc nc (FogR.of g1) (FogR.of g2) m3 m3
  rw [show ((decide (w = w) && decide (h = h)) && (decide (nCo w h = nCo w h) && eqN RA.1 RB.1 (nCo w h))) = true by rw [hab]; simp] at hS1
  rw [show ((decide (w = w) && decide (h = h)) && (decide (nCo w h = nCo w h) && eqN RA.1 RC.1 (nCo w h))) = true by rw [hac]; simp] at hS2
  have hVa := fun (σ : Heap) (g1 : ∀ r ∈ fogC ba na (nCo w h) (nCo w h) [] w h RA.2 RA.1, r ∈ σ) => Version_p E.β σ w h RA.2 (nCo w h) (nCo w h) RA.1 ba na (FogR.of g1)
  have hVc := fun (σ : Heap) (g1 : ∀ r ∈ fogC bc nc (nCo w h) (nCo w h) [] w h RC.2 RC.1, r ∈ σ) => Version_p E.β σ w h RC.2 (nCo w h) (nCo w h) RC.1 bc nc (FogR.of g1)
  repeat' (first | refine KW.seq ?_ | refine KW.region ?_ | refine KO.nil ?_ | refine At.then_normal ?_ | refine KW.skip ?_ | refine KW.ret ?_ | refine At.then_ret ?_ | refine KW.block ?_ | refine KW.exit ?_ | refine At.block_normal ?_ | refine At.block_ret ?_ | refine At.loop_ret ?_ | refine At.then_exit ?_ | refine At.block_here rfl ?_ | refine At.block_there rfl ?_ | refine At.loop_exit ?_ | refine At.cut_ret ?_ | refine At.cutA_ret ?_ | refine At.cutA_exit ?_ | refine At.cut_exit ?_ | (refine At.cut_same ?_; repeat' (first | exact FLe.nil _ | refine FLe.cons rfl rfl ?_)) | refine KW.cond_t rfl (by first | with_reducible rfl | decide) ?_ | refine KW.cond_f rfl (by first | with_reducible rfl | decide) ?_ | refine KW.scope ?_ | refine KW.label ?_ | refine At.scope_normal ?_ | refine At.scope_ret ?_ | refine At.scope_exit ?_ | refine KO.skip' rfl (by first | with_reducible rfl | decide) rfl rfl ?_ | refine KO.skip0' rfl (by first | with_reducible rfl | decide) rfl ?_ | refine KO.skipIn rfl (by first | with_reducible rfl | decide) rfl rfl ?_ | ((first | apply KO.val rfl rfl rfl ?kq ?_ | apply KO.valIn rfl rfl rfl ?kq ?_); (case kq => ((first | ((first | apply qt_indexAddr_arr rfl rfl rfl ?hi rfl rfl ?om | apply qt_indexAddr_slice rfl rfl rfl ?hi rfl rfl ?om); (case om => (intro hg; first | omega | (simp only [kBool] at hg; omega)))) | apply qt_ev rfl ?hi | ((first | apply qt_load1 rfl rfl ?hi rfl rfl ?hm ?hc | apply qt_loadN rfl rfl ?hi rfl rfl rfl ?hm ?hc); (case hm => repeat (first | exact List.Mem.head _ | apply List.Mem.tail _ | apply List.mem_append_right _)); (case hc => rfl)) | refine qt_callQ rfl rfl ?hi (fun hg => hS1 _ (by intro r hr; simp [hr]) (by intro r hr; simp [hr])) | refine qt_callQ rfl rfl ?hi (fun hg => hS2 _ (by intro r hr; simp [hr]) (by intro r hr; simp [hr])) | refine qt_callQ rfl rfl ?hi (fun hg => hVa _ (by intro r hr; simp [hr])) | refine qt_callQ rfl rfl ?hi (fun hg => hVc _ (by intro r hr; simp [hr])) | refine qt_callQ rfl rfl ?hi (fun hg => Tr.quiet hawk) | apply qt_pick_t rfl rfl (by first | with_reducible rfl | decide) rfl ?hi | apply qt_pick_f rfl rfl (by first | with_reducible rfl | decide) rfl ?hi | ((first | apply qt_pick_and rfl rfl rfl ?hi ?pj | apply qt_pick_or rfl rfl rfl ?hi ?pj); (case pj => (intro h h2; first | with_reducible exact h2 | with_reducible exact andi h h2 | (rw [h2]; rfl) | (rw [h, h2]; rfl) | with_reducible rfl | (simp [h2]; done) | (simp_all; done)))) | apply qt_cap rfl rfl ?hi rfl | apply qt_build rfl rfl ?hi rfl | apply qt_eqs rfl rfl rfl ?hi rfl (Or.inl rfl) | apply qt_nes rfl rfl rfl ?hi rfl (Or.inl rfl)); (case hi => (intro h; (repeat' (first | with_reducible exact alln | with_reducible refine allc ?_ ?_ | with_reducible refine andi ?_ ?_)); all_goals (first | with_reducible rfl | with_reducible exact h | with_reducible exact andl h | with_reducible exact andr h | with_reducible exact andl (andl h) | (simp only [h, Bool.and_self]; done) | (simp [h]; done) | (simp_all; done))))))) | (refine KO.box rfl rfl rfl rfl rfl rfl ?_; intro _ _) | (refine KO.buildSlice rfl rfl rfl rfl rfl rfl rfl rfl rfl rfl rfl rfl rfl rfl ?_; intro _ _) | (refine KW.cond rfl ?_ ?_ <;> (intro hc; try simp only [kBool] at hc)) | exact absurd trivial ‹¬True› | (exfalso; simp at hc; done) | fail)
  ((first | apply At.done_ret | apply At.done_normal); (focus (repeat' (first | exact ResVs.nil' | apply ResVs.cons' | exact ResV.tmp' rfl | (apply ResV.cell1 rfl ?hm rfl rfl ?hc; (case hm => repeat (first | exact List.Mem.head _ | apply List.Mem.tail _ | apply List.mem_append_right _)); (case hc => rfl)) | (apply ResV.cellN rfl ?hm rfl rfl rfl ?hc; (case hm => repeat (first | exact List.Mem.head _ | apply List.Mem.tail _ | apply List.mem_append_right _)); (case hc => rfl))))); dsimp only [resVal])
  rw [decide_eq_true (show RA.2 ≤ 2 by omega), hvac]
  simp
theorem FogOrder_c (β : Nat → Option Obj) (ht : TB β) (vs : List Value) (hrd : RdVs Tryd.prog β [39, 52] vs) : Go.K.PureB Tryd.prog 4 vs.toArray β (.bool true) := by
  obtain ⟨va0, vr0, rfl, ha0, hrd⟩ := hrd.cons
  obtain ⟨va1, vr1, rfl, ha1, hrd⟩ := hrd.cons
  obtain rfl := hrd.nil
  obtain ⟨vc0, rfl, hq0⟩ := rdV_agg (k := 8) (ts := [3, 3, 37]) ha0 (by kernel_rfl) (by kernel_rfl)
  obtain ⟨vl0_0, vm0_0, rfl, hl0_0, hq0⟩ := hq0.cons
  obtain ⟨vl0_1, vm0_1, rfl, hl0_1, hq0⟩ := hq0.cons
  obtain ⟨vl0_2, vm0_2, rfl, hl0_2, hq0⟩ := hq0.cons
  obtain rfl := hq0.nil
  obtain ⟨w, rfl, hb_w⟩ := rd_i64 Tryd.underlying3 hl0_0
  obtain ⟨h, rfl, hb_h⟩ := rd_i64 Tryd.underlying3 hl0_1
  obtain ⟨cs_p, cs_m, cs_c, cs_xs, rfl, hs_cs, he_cs⟩ := rd_slice (k := 8) (ts := [34]) Tryd.underlying37 (by kernel_rfl) (by kernel_rfl) hl0_2
  obtain ⟨vc1, rfl, hq1⟩ := rdV_agg (k := 8) (ts := [40, 40]) ha1 (by kernel_rfl) (by kernel_rfl)
  obtain ⟨vl1_0, vm1_0, rfl, hl1_0, hq1⟩ := hq1.cons
  obtain ⟨vl1_1, vm1_1, rfl, hl1_1, hq1⟩ := hq1.cons
  obtain rfl := hq1.nil
  obtain ⟨la_p, la_m, la_c, la_xs, rfl, hs_la, he_la⟩ := rd_slice (k := 8) (ts := [3, 3]) Tryd.underlying40 (by kernel_rfl) (by kernel_rfl) hl1_0
  obtain ⟨lb_p, lb_m, lb_c, lb_xs, rfl, hs_lb, he_lb⟩ := rd_slice (k := 8) (ts := [3, 3]) Tryd.underlying40 (by kernel_rfl) (by kernel_rfl) hl1_1
  obtain ⟨al, hl⟩ := rd_shorts (P := Tryd.prog) Tryd.underlying34 (by kernel_rfl) hs_cs he_cs
  obtain ⟨pa, hpa⟩ := rd_pairs (P := Tryd.prog) Tryd.underlying3 Tryd.underlying3 hs_la he_la
  obtain ⟨pb, hpb⟩ := rd_pairs (P := Tryd.prog) Tryd.underlying3 Tryd.underlying3 hs_lb he_lb
  exact FogOrder_p β ht w h cs_p cs_m cs_c al la_p lb_p la_m la_c lb_m lb_c pa pb hl.len hl.lt hl.sl hpa hpb
set_option maxRecDepth 100000 in
theorem FogOrder_lifted (os : Os) (started : os.Started) (H : Type) (enc : TypeId × Value → H) :
    ReturnsInHanded {} Tryd.checked os 4 .any (fun w args => (Rows.fogOrderSpec.pre enc Tryd.prog Tryd.f4 [] false w args ∧ laidMetH Tryd.prog laidL w) ∧ sizedMet enc Tryd.prog Tryd.f4 (OpenSpec.ofChange Rows.fogOrderSpec) false w args) (Rows.fogOrderSpec.post enc Tryd.prog Tryd.f4 false true false false) :=
  law_liftL (C := Tryd.checked) (laid := laidL) (Tb := TB) Tryd.own started (by kernel_rfl) Tryd.func4
    (ChangeSpec.witness_shaped (enc := enc) (C := Tryd.checked) (os := os) (X := fun w _ => laidMetH Tryd.prog laidL w) false (World.doorLaid Tryd.prog 400 os) #[.agg #[.int .i64 0, .int .i64 0, .slice none 0 0], .agg #[.slice none 0 0, .slice none 0 0]] 8 rfl (World.shaped_of_RefB (by kernel_rfl) (by kernel_rfl)) (by kernel_rfl) (by kernel_rfl) (by kernel_rfl) (door_met os _))
    Tryd.laidOut rfl (by kernel_rfl) (by kernel_rfl) rfl Tryd.underlying4
    (fun ds h => by
      have h' : ds.length = 2 := h
      match ds, h' with
      | [_, _], _ => rfl)
    tb_of (fun β vs h ht => FogOrder_c β ht vs h)

theorem FogOrder_holds : Rows.FogOrderSaid :=
  OpenClaim.holds_of_wide 4 Tryd.f4 rfl rfl rfl rfl rfl rfl rfl ⟨rfl, rfl, rfl, rfl, rfl⟩ rfl rfl rfl rfl rfl (by kernel_rfl) Tryd.func4 (by kernel_rfl)
    (of_decide_eq_true (by kernel_rfl)) (by unfold Func.isWrapper; first | (rw [if_pos (by decide +kernel)]; kernel_rfl) | (rw [if_neg (by decide +kernel)]; exact ⟨rfl, rfl⟩))
    (fun os started H enc _ => FogOrder_lifted os started H enc)
theorem FogOrder_card : Rows.FogOrderCardSaid :=
  Claim7.holds_tied_plain_at .later [] [.data] true (true, "5475db916a7455dec0109bf4872cf77729e48429d183adfe946001835820049e") false
    FogOrder_holds (fun _ h => by cases h) (by kernel_rfl) (fun _ h => by cases h) fogOrder_row_tie rfl ⟨rfl, rfl⟩ (by kernel_rfl) rfl
    (fun f fn hf hfn => by
      obtain rfl : f = 4 := Option.some.inj ((show Tryd.prog.funcNamed "gloaming/gloaminglaw06.FogOrder" = some 4 by kernel_rfl).symm.trans hf) |>.symm
      obtain rfl : fn = Tryd.f4 := (Option.some.inj (Tryd.func4.symm.trans hfn)).symm
      refine ⟨by kernel_rfl, fun j t ht => ?_⟩
      rw [Tryd.params4] at ht
      have hall : ([39, 52].all fun t => !Tryd.prog.wantsStandIn t) = true := by kernel_rfl
      have hm : t ∈ [39, 52] := by have := Array.mem_of_getElem? ht; simpa using this
      have := List.all_eq_true.1 hall t hm
      have h5 : Tryd.prog.wantsStandIn t = false := by simpa using this
      exact h5)
    (by kernel_rfl)
end Go.Proofs.YteehbjdohionlaaDoor

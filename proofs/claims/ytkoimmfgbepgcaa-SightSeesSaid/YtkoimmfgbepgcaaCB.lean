/- Sight: what is seen from a cell; which cells that are. -/
import Derived.Test.YtkoimmfgbepgcaaCA
namespace Go.Proofs.Ytkoimmfgbepgcaa
open Go Go.K

set_option maxHeartbeats 4000000 in
theorem Visible_p (w h x y rad : Int) (p : Option Addr) (m c : Nat) (cs : List Nat) (β : Nat → Option Obj) (hl : cs.length = m) (hp : SL β [] 1 m (by16 cs) p) :
    Go.K.Tr Try.prog 24 [.agg #[.int .i64 w, .int .i64 h, .slice p m c], .agg #[.int .i64 x, .int .i64 y], .int .i64 rad] β [] (fun z σ =>
    (allE w h m [(x, y)] rad ≠ 0 ∧ z = .tuple #[.pointer none, .int .i64 (allE w h m [(x, y)] rad)] ∧ σ = []) ∨
    (allE w h m [(x, y)] rad = 0 ∧ ∃ bm bw, z = .tuple #[.pointer (some ⟨bm, 0, none⟩), .int .i64 0] ∧ σ = maskC bm bw (nwO w h) w h (visF cs w h rad.toNat [(x, y)]))) := by
  refine Tr.sub ?_
  refine Tr.of_body Try.tt (args := [.agg #[.int .i64 w, .int .i64 h, .slice p m c], .agg #[.int .i64 x, .int .i64 y], .int .i64 rad]) (fr := [(0, true, .agg #[.int .i64 w, .int .i64 h, .slice p m c]), (1, true, .agg #[.int .i64 x, .int .i64 y]), (2, true, .int .i64 rad)]) Try.func24 rfl (by decide) rfl Try.ntmps24 rfl rfl ?_
  intro E hE
  subst hE
  repeat' (first
    | refine KW.seq ?_
    | refine KW.region ?_
    | refine KO.nil ?_
    | refine At.then_normal ?_
    | refine KW.skip ?_
    | refine KW.ret ?_
    | refine At.then_ret ?_
    | refine KW.block ?_
    | refine KW.exit ?_
    | refine At.block_normal ?_
    | refine At.block_ret ?_
    | refine At.loop_ret ?_
    | refine At.then_exit ?_
    | refine At.block_here rfl ?_
    | refine At.block_there rfl ?_
    | refine At.loop_exit ?_
    | refine At.cut_ret ?_
    | refine At.cutA_ret ?_
    | refine At.cutA_exit ?_
    | refine At.cut_exit ?_
    | (refine At.cut_same ?_; repeat' (first | exact FLe.nil _ | refine FLe.cons rfl rfl ?_))
    | refine KW.cond_t rfl (by first | with_reducible rfl | decide) ?_
    | refine KW.cond_f rfl (by first | with_reducible rfl | decide) ?_
    | ((first | apply KO.val rfl rfl rfl ?kq ?_); (case kq => ((first | apply qt_ev rfl ?hi | ((first | apply qt_load1 rfl rfl ?hi rfl rfl ?hm ?hc | apply qt_loadN rfl rfl ?hi rfl rfl rfl ?hm ?hc); (case hm => repeat (first | exact List.Mem.head _ | apply List.Mem.tail _ | apply List.mem_append_right _)); (case hc => rfl)) | apply qt_eqs rfl rfl rfl ?hi rfl (Or.inl rfl) | apply qt_nes rfl rfl rfl ?hi rfl (Or.inl rfl)); (case hi => (intro h; (repeat' (first | with_reducible exact alln | with_reducible refine allc ?_ ?_ | with_reducible refine andi ?_ ?_)); all_goals (first | with_reducible rfl | with_reducible exact h | with_reducible exact andl h | with_reducible exact andr h | with_reducible exact andl (andl h) | (simp only [h, Bool.and_self]; done) | (simp [h]; done) | (simp_all; done)))))))
    | (refine KO.box rfl rfl rfl rfl rfl rfl ?_; intro _ _)
    | (refine KO.buildSlice rfl rfl rfl rfl rfl rfl rfl rfl rfl rfl rfl rfl rfl rfl ?_; intro _ _)
    | (refine KW.cond rfl ?_ ?_ <;> (intro hc; try simp only [Bool.or_eq_false_iff, Bool.or_eq_true, Bool.and_eq_true, Bool.and_eq_false_iff, Bool.not_eq_true', Bool.not_eq_false', Bool.not_eq_true, Bool.not_eq_false, decide_eq_true_eq, decide_eq_false_iff_not, Bool.not_not, beq_iff_eq, bne_iff_ne, Bool.beq_eq_decide_eq] at hc))
    | exact absurd trivial ‹¬True›
    | fail)
  rename_i b3 _ b4 _ b5 _
  refine KO.callB [] ((b5, cl [.int .i64 x, .int .i64 y] 23) :: (b4, cl [.int .i64 x, .int .i64 y] 23) :: (b3, cl [.int .i64 w, .int .i64 h, .slice p m c] 38) :: []) (by classical exact List.perm_iff_count.2 (fun _ => by first | (simp only [List.count_append, List.count_cons, List.count_nil, List.append_assoc, List.cons_append, List.nil_append]; done) | (simp only [List.count_append, List.count_cons, List.count_nil, List.append_assoc, List.cons_append, List.nil_append]; omega))) rfl rfl rfl rfl rfl rfl rfl (fun β' h1 h2 => All_p w h rad p (some ⟨b5, 0, none⟩) m c 1 1 cs [(x, y)] β' hl (hp.up h1) rfl (by omega) (SL.frz h1 h2 (SL.ofBlk (e := 23) (List.Mem.head _) rfl))) ?_
  rintro _ φ (⟨h1, rfl, rfl⟩ | ⟨h1, bm, bw, rfl, rfl⟩)
  · skip
    repeat' (first
      | refine KW.seq ?_
      | refine KW.region ?_
      | refine KO.nil ?_
      | refine At.then_normal ?_
      | refine KW.skip ?_
      | refine KW.ret ?_
      | refine At.then_ret ?_
      | refine KW.block ?_
      | refine KW.exit ?_
      | refine At.block_normal ?_
      | refine At.block_ret ?_
      | refine At.loop_ret ?_
      | refine At.then_exit ?_
      | refine At.block_here rfl ?_
      | refine At.block_there rfl ?_
      | refine At.loop_exit ?_
      | refine At.cut_ret ?_
      | refine At.cutA_ret ?_
      | refine At.cutA_exit ?_
      | refine At.cut_exit ?_
      | (refine At.cut_same ?_; repeat' (first | exact FLe.nil _ | refine FLe.cons rfl rfl ?_))
      | refine KW.cond_t rfl (by first | with_reducible rfl | decide) ?_
      | refine KW.cond_f rfl (by first | with_reducible rfl | decide) ?_
      | ((first | apply KO.val rfl rfl rfl ?kq ?_); (case kq => ((first | apply qt_ev rfl ?hi | ((first | apply qt_load1 rfl rfl ?hi rfl rfl ?hm ?hc | apply qt_loadN rfl rfl ?hi rfl rfl rfl ?hm ?hc); (case hm => repeat (first | exact List.Mem.head _ | apply List.Mem.tail _ | apply List.mem_append_right _)); (case hc => rfl)) | apply qt_eqs rfl rfl rfl ?hi rfl (Or.inl rfl) | apply qt_nes rfl rfl rfl ?hi rfl (Or.inl rfl)); (case hi => (intro h; (repeat' (first | with_reducible exact alln | with_reducible refine allc ?_ ?_ | with_reducible refine andi ?_ ?_)); all_goals (first | with_reducible rfl | with_reducible exact h | with_reducible exact andl h | with_reducible exact andr h | with_reducible exact andl (andl h) | (simp only [h, Bool.and_self]; done) | (simp [h]; done) | (simp_all; done)))))))
      | (refine KO.box rfl rfl rfl rfl rfl rfl ?_; intro _ _)
      | (refine KO.buildSlice rfl rfl rfl rfl rfl rfl rfl rfl rfl rfl rfl rfl rfl rfl ?_; intro _ _)
      | (refine KW.cond rfl ?_ ?_ <;> (intro hc; try simp only [Bool.or_eq_false_iff, Bool.or_eq_true, Bool.and_eq_true, Bool.and_eq_false_iff, Bool.not_eq_true', Bool.not_eq_false', Bool.not_eq_true, Bool.not_eq_false, decide_eq_true_eq, decide_eq_false_iff_not, Bool.not_not, beq_iff_eq, bne_iff_ne, Bool.beq_eq_decide_eq] at hc))
      | exact absurd trivial ‹¬True›
      | fail)
    ((first | apply At.done_ret | apply At.done_normal); (focus (repeat' (first | exact ResVs.nil' | apply ResVs.cons' | exact ResV.tmp' rfl | (apply ResV.cell1 rfl ?hm rfl rfl ?hc; (case hm => repeat (first | exact List.Mem.head _ | apply List.Mem.tail _ | apply List.mem_append_right _)); (case hc => rfl)) | (apply ResV.cellN rfl ?hm rfl rfl rfl ?hc; (case hm => repeat (first | exact List.Mem.head _ | apply List.Mem.tail _ | apply List.mem_append_right _)); (case hc => rfl))))); dsimp only [resVal])
    exact ⟨[], List.nil_sublist _, .inl ⟨h1, rfl, rfl⟩⟩
  · skip
    repeat' (first
      | refine KW.seq ?_
      | refine KW.region ?_
      | refine KO.nil ?_
      | refine At.then_normal ?_
      | refine KW.skip ?_
      | refine KW.ret ?_
      | refine At.then_ret ?_
      | refine KW.block ?_
      | refine KW.exit ?_
      | refine At.block_normal ?_
      | refine At.block_ret ?_
      | refine At.loop_ret ?_
      | refine At.then_exit ?_
      | refine At.block_here rfl ?_
      | refine At.block_there rfl ?_
      | refine At.loop_exit ?_
      | refine At.cut_ret ?_
      | refine At.cutA_ret ?_
      | refine At.cutA_exit ?_
      | refine At.cut_exit ?_
      | (refine At.cut_same ?_; repeat' (first | exact FLe.nil _ | refine FLe.cons rfl rfl ?_))
      | refine KW.cond_t rfl (by first | with_reducible rfl | decide) ?_
      | refine KW.cond_f rfl (by first | with_reducible rfl | decide) ?_
      | ((first | apply KO.val rfl rfl rfl ?kq ?_); (case kq => ((first | apply qt_ev rfl ?hi | ((first | apply qt_load1 rfl rfl ?hi rfl rfl ?hm ?hc | apply qt_loadN rfl rfl ?hi rfl rfl rfl ?hm ?hc); (case hm => repeat (first | exact List.Mem.head _ | apply List.Mem.tail _ | apply List.mem_append_right _)); (case hc => rfl)) | apply qt_eqs rfl rfl rfl ?hi rfl (Or.inl rfl) | apply qt_nes rfl rfl rfl ?hi rfl (Or.inl rfl)); (case hi => (intro h; (repeat' (first | with_reducible exact alln | with_reducible refine allc ?_ ?_ | with_reducible refine andi ?_ ?_)); all_goals (first | with_reducible rfl | with_reducible exact h | with_reducible exact andl h | with_reducible exact andr h | with_reducible exact andl (andl h) | (simp only [h, Bool.and_self]; done) | (simp [h]; done) | (simp_all; done)))))))
      | (refine KO.box rfl rfl rfl rfl rfl rfl ?_; intro _ _)
      | (refine KO.buildSlice rfl rfl rfl rfl rfl rfl rfl rfl rfl rfl rfl rfl rfl rfl ?_; intro _ _)
      | (refine KW.cond rfl ?_ ?_ <;> (intro hc; try simp only [Bool.or_eq_false_iff, Bool.or_eq_true, Bool.and_eq_true, Bool.and_eq_false_iff, Bool.not_eq_true', Bool.not_eq_false', Bool.not_eq_true, Bool.not_eq_false, decide_eq_true_eq, decide_eq_false_iff_not, Bool.not_not, beq_iff_eq, bne_iff_ne, Bool.beq_eq_decide_eq] at hc))
      | exact absurd trivial ‹¬True›
      | fail)
    ((first | apply At.done_ret | apply At.done_normal); (focus (repeat' (first | exact ResVs.nil' | apply ResVs.cons' | exact ResV.tmp' rfl | (apply ResV.cell1 rfl ?hm rfl rfl ?hc; (case hm => repeat (first | exact List.Mem.head _ | apply List.Mem.tail _ | apply List.mem_append_right _)); (case hc => rfl)) | (apply ResV.cellN rfl ?hm rfl rfl rfl ?hc; (case hm => repeat (first | exact List.Mem.head _ | apply List.Mem.tail _ | apply List.mem_append_right _)); (case hc => rfl))))); dsimp only [resVal])
    exact ⟨_, List.sublist_append_left _ _, .inr ⟨h1, bm, bw, rfl, rfl⟩⟩

/-! Which cells are seen. -/
theorem mSet_get (w h : Int) (f : Nat → Bool) (x y : Int) (b : Bool) (i : Nat) : mSet w h f x y b i = if gIn w h x y = true ∧ i = (y * w + x).toNat then b else f i := by
  unfold mSet upd
  by_cases h1 : gIn w h x y = true
  · simp [h1]
  · simp [h1]
theorem setL_get (w h : Int) (i : Nat) : ∀ (l : List (Int × Int)) (f : Nat → Bool), setL w h f l i = true ↔ f i = true ∨ ∃ c ∈ l, gIn w h c.1 c.2 = true ∧ i = (c.2 * w + c.1).toNat
  | [], f => by simp [setL]
  | c :: l, f => by
    have := setL_get w h i l (mSet w h f c.1 c.2 true)
    show setL w h (mSet w h f c.1 c.2 true) l i = true ↔ _
    rw [this, mSet_get]
    by_cases h1 : gIn w h c.1 c.2 = true ∧ i = (c.2 * w + c.1).toNat
    · simp [h1]
    · rw [if_neg h1]
      constructor
      · rintro (h2 | ⟨d, h2, h3⟩)
        · exact .inl h2
        · exact .inr ⟨d, List.mem_cons_of_mem _ h2, h3⟩
      · rintro (h2 | ⟨d, h2, h3⟩)
        · exact .inl h2
        · rcases List.mem_cons.1 h2 with h4 | h4
          · subst h4; exact absurd h3 h1
          · exact .inr ⟨d, h4, h3⟩
theorem idx_inj {w h x y u v : Int} (h1 : gIn w h x y = true) (h2 : gIn w h u v = true) (he : (y * w + x).toNat = (v * w + u).toNat) : x = u ∧ y = v := by
  obtain ⟨i, e1, _⟩ := idx_lt h1
  obtain ⟨j, e2, _⟩ := idx_lt h2
  rw [e1, e2] at he
  have he2 : y * w + x = v * w + u := by omega
  simp only [gIn, gMay, btw, Bool.and_eq_true, decide_eq_true_eq] at h1 h2
  have e3 : (y * w + x) / w = y := by rw [Int.add_comm, Int.add_mul_ediv_right _ _ (by omega), Int.ediv_eq_zero_of_lt (by omega) (by omega)]; omega
  have e4 : (v * w + u) / w = v := by rw [Int.add_comm, Int.add_mul_ediv_right _ _ (by omega), Int.ediv_eq_zero_of_lt (by omega) (by omega)]; omega
  have : y = v := by rw [← e3, ← e4, he2]
  subst this
  exact ⟨by omega, rfl⟩
theorem mem_boxP {x y u v : Int} {n : Nat} : (u, v) ∈ boxP x y n ↔ x ≤ u ∧ u < x + n ∧ y ≤ v ∧ v < y + n := by
  unfold boxP
  rw [List.mem_map]
  constructor
  · rintro ⟨k, hk, he⟩
    have hk2 := List.mem_range.1 hk
    have hn : 0 < n := by
      rcases Nat.eq_zero_or_pos n with h | h
      · subst h; simp at hk2
      · exact h
    have h1 := Nat.mod_lt k hn
    have h2 : k / n < n := Nat.div_lt_of_lt_mul hk2
    simp only [Prod.mk.injEq] at he
    generalize k % n = r at *
    generalize k / n = q at *
    omega
  · rintro ⟨h1, h2, h3, h4⟩
    obtain ⟨a, ha⟩ : ∃ a : Nat, u - x = a := ⟨(u - x).toNat, by omega⟩
    obtain ⟨b, hb⟩ : ∃ b : Nat, v - y = b := ⟨(v - y).toNat, by omega⟩
    refine ⟨b * n + a, ?_, ?_⟩
    · rw [List.mem_range]
      have : (b + 1) * n ≤ n * n := Nat.mul_le_mul_right _ (by omega)
      rw [Nat.add_mul] at this; omega
    · have e1 : (b * n + a) % n = a := by rw [Nat.mul_comm, Nat.mul_add_mod]; exact Nat.mod_eq_of_lt (by omega)
      have e2 : (b * n + a) / n = b := by rw [Nat.mul_comm, Nat.mul_add_div (by omega), Nat.div_eq_of_lt (by omega)]; omega
      rw [e1, e2, Prod.mk.injEq]; omega
/-- A cell is seen from one of some cells. -/
def Seen (cs : List Nat) (w h : Int) (rad : Nat) (l : List (Int × Int)) (c : Int × Int) : Prop :=
  ∃ a ∈ l, ∃ b : Int × Int, gIn w h b.1 b.2 = true ∧ (-(rad : Int) ≤ b.1 - a.1 ∧ b.1 - a.1 ≤ rad ∧ -(rad : Int) ≤ b.2 - a.2 ∧ b.2 - a.2 ≤ rad) ∧ c ∈ seeL cs w a.1 a.2 b.1 b.2 (gFar a.1 a.2 b.1 b.2).toNat
theorem visF_get {cs : List Nat} {w h : Int} {rad : Nat} {l : List (Int × Int)} {x y : Int} (hi : gIn w h x y = true) (hl : ∀ c, Seen cs w h rad l c → gIn w h c.1 c.2 = true) : visF cs w h rad l (y * w + x).toNat = true ↔ Seen cs w h rad l (x, y) := by
  have key : ∀ c : Int × Int, c ∈ l.flatMap (telA cs w h rad) ↔ Seen cs w h rad l c := by
    intro c
    rw [List.mem_flatMap]
    constructor
    · rintro ⟨a, ha, h1⟩
      rw [telA, List.mem_flatMap] at h1
      obtain ⟨b, hb, h2⟩ := h1
      rw [telN] at h2
      split at h2
      · rename_i h3
        refine ⟨a, ha, b, h3, ?_, h2⟩
        have := mem_boxP.1 (show (b.1, b.2) ∈ _ from hb)
        omega
      · cases h2
    · rintro ⟨a, ha, b, h3, h4, h2⟩
      refine ⟨a, ha, ?_⟩
      rw [telA, List.mem_flatMap]
      refine ⟨b, ?_, ?_⟩
      · have : (b.1, b.2) ∈ boxP (a.1 - rad) (a.2 - rad) (2 * rad + 1) := mem_boxP.2 (by omega)
        exact this
      · rw [telN, if_pos h3]; exact h2
  unfold visF
  rw [setL_get]
  constructor
  · rintro (h1 | ⟨c, h1, h2, h3⟩)
    · cases h1
    · obtain ⟨e1, e2⟩ := idx_inj hi h2 h3
      subst e1 e2
      exact (key c).1 h1
  · intro h1
    exact .inr ⟨(x, y), (key _).2 h1, hi, rfl⟩
/-- What is seen lies on the map. -/
theorem seen_in {cs : List Nat} {w h : Int} {rad : Nat} {l : List (Int × Int)} (hl : ∀ a ∈ l, gIn w h a.1 a.2 = true) {c : Int × Int} (hs : Seen cs w h rad l c) : gIn w h c.1 c.2 = true := by
  obtain ⟨a, ha, b, hb, _, hc⟩ := hs
  have hsm : smp a.1 a.2 = true ∧ smp b.1 b.2 = true := by
    have h1 := hl a ha
    simp only [gIn, gMay, btw, Bool.and_eq_true, decide_eq_true_eq] at h1 hb
    simp only [smp, btw, Bool.and_eq_true, decide_eq_true_eq]; omega
  obtain ⟨k, hk⟩ := List.mem_iff_getElem?.1 hc
  have hlen := (List.getElem?_eq_some_iff.1 hk).1
  rw [seeL_len] at hlen
  rw [seeL_get hlen] at hk
  obtain rfl := Option.some.inj hk
  have := seeN_bd cs w a.1 a.2 b.1 b.2 (gFar a.1 a.2 b.1 b.2).toNat
  exact linC_in (hl a ha) hb (by omega)
theorem visF_has {cs : List Nat} {w h : Int} {rad : Nat} {l : List (Int × Int)} (hl : ∀ a ∈ l, gIn w h a.1 a.2 = true) (x y : Int) : mHas w h (visF cs w h rad l) x y = true ↔ Seen cs w h rad l (x, y) := by
  unfold mHas
  rw [Bool.and_eq_true]
  constructor
  · rintro ⟨h1, h2⟩
    exact (visF_get h1 (fun c hc => seen_in hl hc)).1 h2
  · intro h1
    have h2 := seen_in hl h1
    exact ⟨h2, (visF_get h2 (fun c hc => seen_in hl hc)).2 h1⟩
theorem Has_t (β : Nat → Option Obj) (σ : Heap) (w h x y : Int) (nw : Nat) (f : Nat → Bool) (bm bw : Nat) (b : Bool) (hb : mHas w h f x y = b) (hs : ∀ q ∈ maskC bm bw nw w h f, q ∈ σ) (hn : w * h ≤ 64 * nw) (hb2 : nw ≤ 65536) :
    Go.K.Tr Try.prog 25 [.pointer (some ⟨bm, 0, none⟩), .agg #[.int .i64 x, .int .i64 y]] β σ (fun v σ' => v = .bool b ∧ σ' = σ) := by
  have := Has_p β σ w h x y nw f bm bw (MaskR.of hs) hn hb2
  rwa [hb] at this
end Go.Proofs.Ytkoimmfgbepgcaa

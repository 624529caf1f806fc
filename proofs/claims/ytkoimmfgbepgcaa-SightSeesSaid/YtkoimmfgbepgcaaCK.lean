/- Sight: what the document sees is what is seen; sets told. -/
import Derived.Test.YtkoimmfgbepgcaaCJ
import Derived.Test.YtkoimmfgbepgcaaM4
namespace Go.Proofs.Ytkoimmfgbepgcaa
open Go Go.K

theorem mem_tel {cs : List Nat} {w h : Int} {rad : Nat} {l : List (Int × Int)} (c : Int × Int) : c ∈ l.flatMap (telA cs w h rad) ↔ Seen cs w h rad l c := by
  rw [List.mem_flatMap]
  constructor
  · rintro ⟨a, ha, h1⟩
    rw [telA, List.mem_flatMap] at h1
    obtain ⟨b, hb, h2⟩ := h1
    rw [telN] at h2
    split at h2
    · rename_i h3
      refine ⟨a, ha, b, h3, ?_, h2⟩
      have := mem_boxP.1 (show (b.1, b.2) ∈ _ from hb)
      omega
    · cases h2
  · rintro ⟨a, ha, b, h3, h4, h2⟩
    refine ⟨a, ha, ?_⟩
    rw [telA, List.mem_flatMap]
    refine ⟨b, ?_, ?_⟩
    · have : (b.1, b.2) ∈ boxP (a.1 - rad) (a.2 - rad) (2 * rad + 1) := mem_boxP.2 (by omega)
      exact this
    · rw [telN, if_pos h3]; exact h2
theorem visF_iff {cs : List Nat} {w h : Int} {rad : Nat} {l : List (Int × Int)} (i : Nat) : visF cs w h rad l i = true ↔ ∃ c, Seen cs w h rad l c ∧ gIn w h c.1 c.2 = true ∧ i = (c.2 * w + c.1).toNat := by
  unfold visF
  rw [setL_get]
  constructor
  · rintro (h1 | ⟨c, h1, h2⟩)
    · cases h1
    · exact ⟨c, (mem_tel c).1 h1, h2⟩
  · rintro ⟨c, h1, h2⟩
    exact .inr ⟨c, (mem_tel c).2 h1, h2⟩
theorem visD_iff {cs : List Nat} {w h : Nat} {rad : Nat} {a : Int × Int} (ha : gIn w h a.1 a.2 = true) (i : Nat) : visD cs w h rad a i = true ↔ ∃ c, Seen cs w h rad [a] c ∧ gIn w h c.1 c.2 = true ∧ i = (c.2 * w + c.1).toNat := by
  unfold visD
  rw [setL_get]
  have key : ∀ c, c ∈ (mapL w (h * w)).flatMap (rayD cs w a.1 a.2 rad) ↔ (∃ b ∈ mapL w (h * w), gFar a.1 a.2 b.1 b.2 ≤ rad ∧ c ∈ seeL cs w a.1 a.2 b.1 b.2 (gFar a.1 a.2 b.1 b.2).toNat) := by
    intro c
    rw [List.mem_flatMap]
    constructor
    · rintro ⟨b, hb, h1⟩
      unfold rayD at h1
      split at h1
      · exact ⟨b, hb, by assumption, h1⟩
      · cases h1
    · rintro ⟨b, hb, h1, h2⟩
      exact ⟨b, hb, by unfold rayD; rw [if_pos h1]; exact h2⟩
  have hmap : ∀ b : Int × Int, gMay w h = true → b ∈ mapL w (h * w) → gIn w h b.1 b.2 = true := by
    intro b hg hb
    unfold mapL at hb
    rw [List.mem_map] at hb
    obtain ⟨k, hk, rfl⟩ := hb
    exact mapL_in hg (List.mem_range.1 hk)
  have hg : gMay w h = true := by
    simp only [gIn, Bool.and_eq_true] at ha
    exact ha.1.1
  have hfar : ∀ b : Int × Int, gIn w h b.1 b.2 = true → (gFar a.1 a.2 b.1 b.2 ≤ rad ↔ (-(rad : Int) ≤ b.1 - a.1 ∧ b.1 - a.1 ≤ rad ∧ -(rad : Int) ≤ b.2 - a.2 ∧ b.2 - a.2 ≤ rad)) := by
    intro b hb
    rw [(far_of ⟨smp_in ha, smp_in hb⟩).1]
    omega
  constructor
  · rintro (h1 | ⟨c, h1, h2⟩)
    · cases h1
    · obtain ⟨b, hb, h3, h4⟩ := (key c).1 h1
      have hbi := hmap b hg hb
      exact ⟨c, ⟨a, List.mem_singleton_self _, b, hbi, (hfar b hbi).1 h3, h4⟩, h2⟩
  · rintro ⟨c, ⟨a2, ha2, b, hbi, h3, h4⟩, h2⟩
    rw [List.mem_singleton] at ha2
    subst ha2
    exact .inr ⟨c, (key c).2 ⟨b, mem_mapL hbi, (hfar b hbi).2 h3, h4⟩, h2⟩
theorem vis_eq {cs : List Nat} {w h : Nat} {rad : Nat} {a : Int × Int} (ha : gIn w h a.1 a.2 = true) : visF cs w h rad [a] = visD cs w h rad a := by
  funext i
  rw [Bool.eq_iff_iff, visF_iff, visD_iff ha]
theorem celL_mem {w h : Int} {f : Nat → Bool} {n : Nat} {c : Int × Int} (hc : c ∈ celL w f n) (hg : gMay w h = true) (hn : (n : Int) = w * h) : gIn w h c.1 c.2 = true ∧ ∃ i : Nat, i < n ∧ f i = true ∧ c.2 * w + c.1 = i := by
  unfold celL at hc
  rw [List.mem_map] at hc
  obtain ⟨i, hi, rfl⟩ := hc
  rw [List.mem_filter, List.mem_range] at hi
  have h1 := at_in (k := i) hg (by omega)
  have hok : gAtOk w h i = true := by
    simp only [gAtOk, btw, Bool.and_eq_true, decide_eq_true_eq]
    exact ⟨hg, by omega, by omega⟩
  unfold gAtX gAtY at h1
  rw [if_pos hok, if_pos hok] at h1
  exact ⟨h1.2.1, i, hi.1, hi.2, h1.2.2⟩
theorem celL_of {w h : Int} {f : Nat → Bool} {n i : Nat} (hi : i < n) (hf : f i = true) (hg : gMay w h = true) (hn : (n : Int) = w * h) : ∃ c ∈ celL w f n, gIn w h c.1 c.2 = true ∧ c.2 * w + c.1 = i := by
  have hc : ((i : Int) % w, (i : Int) / w) ∈ celL w f n := by
    unfold celL
    rw [List.mem_map]
    exact ⟨i, by rw [List.mem_filter, List.mem_range]; exact ⟨hi, hf⟩, rfl⟩
  have h1 := at_in (k := i) hg (by omega)
  have hok : gAtOk w h i = true := by
    simp only [gAtOk, btw, Bool.and_eq_true, decide_eq_true_eq]
    exact ⟨hg, by omega, by omega⟩
  unfold gAtX gAtY at h1
  rw [if_pos hok, if_pos hok] at h1
  exact ⟨_, hc, h1.2.1, h1.2.2⟩
/-- What the document sees from some cells. -/
def allD (cs : List Nat) (w h : Nat) (rad : Int) (l : List (Int × Int)) : Nat → Bool := setL w h (fun _ => false) (l.flatMap fun a => celL w (visD cs w h rad a) (h * w))
theorem all_eq {cs : List Nat} {w h : Nat} {rad : Nat} {l : List (Int × Int)} (hg : gMay w h = true) (hl : ∀ a ∈ l, gIn w h a.1 a.2 = true) : visF cs w h rad l = allD cs w h rad l := by
  have hn : ((h * w : Nat) : Int) = (w : Int) * h := by rw [Int.mul_comm]; exact Int.natCast_mul h w
  funext i
  rw [Bool.eq_iff_iff, visF_iff]
  unfold allD
  rw [setL_get]
  constructor
  · rintro ⟨c, ⟨a, ha, b, h1⟩, h2, h3⟩
    have h4 : visD cs w h rad a i = true := (visD_iff (hl a ha) i).2 ⟨c, ⟨a, List.mem_singleton_self _, b, h1⟩, h2, h3⟩
    obtain ⟨j, e1, _, e3, _⟩ := idx_lt h2
    obtain ⟨d, hd, hd2, hd3⟩ := celL_of (w := w) (h := h) (i := i) (n := h * w) (by omega) h4 hg hn
    refine .inr ⟨d, List.mem_flatMap.2 ⟨a, ha, hd⟩, hd2, by omega⟩
  · rintro (h1 | ⟨c, h1, h2, h3⟩)
    · cases h1
    · obtain ⟨a, ha, hc⟩ := List.mem_flatMap.1 h1
      obtain ⟨_, j, hj, hj2, hj3⟩ := celL_mem hc hg hn
      obtain ⟨d, ⟨a2, ha2, b, hs⟩, hd2, hd3⟩ := (visD_iff (hl a ha) j).1 hj2
      rw [List.mem_singleton] at ha2
      subst ha2
      exact ⟨d, ⟨a2, ha, b, hs⟩, hd2, by omega⟩
theorem setL_past {w h : Int} {n : Nat} (hn : (n : Int) = w * h) (l : List (Int × Int)) (i : Nat) (hi : n ≤ i) : setL w h (fun _ => false) l i = false := by
  cases hq : setL w h (fun _ => false) l i with
  | false => rfl
  | true =>
    rcases (setL_get w h i l _).1 hq with h1 | ⟨c, _, h2, h3⟩
    · cases h1
    · obtain ⟨j, e1, _, e3, _⟩ := idx_lt h2
      omega
set_option maxHeartbeats 8000000 in
theorem told_p (β : Nat → Option Obj) (w h : Int) (nw n bm bw br bx : Nat) (F : Nat → Bool) (hm : MaskR β [] w h nw F bm bw) (hr : RM β [] w h n F br bx) (hg : gMay w h = true) (hn : (n : Int) = w * h) (hnw : n ≤ 64 * nw) (hb : nw ≤ 1024) (hF : ∀ i, n ≤ i → F i = false) :
    Go.K.Tr Try.prog 31 [.pointer (some ⟨bm, 0, none⟩), .pointer (some ⟨br, 0, none⟩)] β [] (fun v σ => v = .bool true ∧ σ = []) := by
  refine Tr.sub ?_
  refine Tr.of_body Try.tt (args := [.pointer (some ⟨bm, 0, none⟩), .pointer (some ⟨br, 0, none⟩)]) (fr := [(0, true, .pointer (some ⟨bm, 0, none⟩)), (1, true, .pointer (some ⟨br, 0, none⟩))]) Try.func31 rfl (by decide) rfl Try.ntmps31 rfl rfl ?_
  intro E hE
  subst hE
  have hg2 := hg
  simp only [gMay, btw, Bool.and_eq_true, decide_eq_true_eq] at hg2
  have hcnt : cntB F (64 * nw) = cntB F n := by
    have := cntB_past (f := F) (n := n) hF (64 * nw - n)
    rwa [show n + (64 * nw - n) = 64 * nw by omega] at this
  repeat' (first
    | refine KW.seq ?_
    | refine KW.region ?_
    | refine KO.nil ?_
    | refine At.then_normal ?_
    | refine KW.skip ?_
    | refine KW.ret ?_
    | refine At.then_ret ?_
    | refine KW.block ?_
    | refine KW.exit ?_
    | refine At.block_normal ?_
    | refine At.block_ret ?_
    | refine At.loop_ret ?_
    | refine At.then_exit ?_
    | refine At.block_here rfl ?_
    | refine At.block_there rfl ?_
    | refine At.loop_exit ?_
    | refine At.cut_ret ?_
    | refine At.cutA_ret ?_
    | refine At.cutA_exit ?_
    | refine At.cut_exit ?_
    | (refine At.cut_same ?_; repeat' (first | exact FLe.nil _ | refine FLe.cons rfl rfl ?_))
    | refine KW.cond_t rfl (by first | with_reducible rfl | decide) ?_
    | refine KW.cond_f rfl (by first | with_reducible rfl | decide) ?_
    | refine KW.draw 0 (by decide +kernel) ?_
    | refine KW.drawU rfl (by decide +kernel) ?_
    | refine KD.zero ?_
    | refine KD.skip' rfl (by first | with_reducible rfl | decide) rfl rfl ?_
    | refine KO.skip' rfl (by first | with_reducible rfl | decide) rfl rfl ?_
    | refine KO.skip0' rfl (by first | with_reducible rfl | decide) rfl ?_
    | refine KO.skipIn rfl (by first | with_reducible rfl | decide) rfl rfl ?_
    | refine KD.skipIn rfl (by first | with_reducible rfl | decide) rfl rfl ?_
    | ((first | apply KO.val rfl rfl rfl ?kq ?_ | apply KO.valIn rfl rfl rfl ?kq ?_ | apply KD.val rfl rfl rfl ?kq ?_ | apply KD.valIn rfl rfl rfl ?kq ?_); (case kq => ((first | ((first | apply qt_add rfl rfl rfl ?hi ?om | apply qt_indexAddr_arr rfl rfl rfl ?hi rfl rfl ?om | apply qt_indexAddr_slice rfl rfl rfl ?hi rfl rfl ?om); (case om => (intro hg; first | omega | (simp only [Bool.or_eq_false_iff, Bool.or_eq_true, Bool.and_eq_true, Bool.and_eq_false_iff, Bool.not_eq_true', Bool.not_eq_false', Bool.not_eq_true, Bool.not_eq_false, decide_eq_true_eq, decide_eq_false_iff_not, Bool.not_not, beq_iff_eq, bne_iff_ne, Bool.beq_eq_decide_eq] at hg; omega)))) | apply qt_ev rfl ?hi | ((first | apply qt_load1 rfl rfl ?hi rfl rfl ?hm ?hc | apply qt_loadN rfl rfl ?hi rfl rfl rfl ?hm ?hc); (case hm => repeat (first | exact List.Mem.head _ | apply List.Mem.tail _ | apply List.mem_append_right _)); (case hc => rfl)) | apply qt_pick_t rfl rfl (by first | with_reducible rfl | decide) rfl ?hi | apply qt_pick_f rfl rfl (by first | with_reducible rfl | decide) rfl ?hi | ((first | apply qt_pick_and rfl rfl rfl ?hi ?pj | apply qt_pick_or rfl rfl rfl ?hi ?pj); (case pj => (intro h h2; first | with_reducible exact h2 | with_reducible exact andi h h2 | (rw [h2]; rfl) | (rw [h, h2]; rfl) | with_reducible rfl | (simp [h2]; done) | (simp_all; done)))) | apply qt_eqs rfl rfl rfl ?hi rfl (Or.inl rfl) | apply qt_nes rfl rfl rfl ?hi rfl (Or.inl rfl)); (case hi => (intro h; (repeat' (first | with_reducible exact alln | with_reducible refine allc ?_ ?_ | with_reducible refine andi ?_ ?_)); all_goals (first | with_reducible rfl | with_reducible exact h | with_reducible exact andl h | with_reducible exact andr h | with_reducible exact andl (andl h) | (simp only [h, Bool.and_self]; done) | (simp [h]; done) | (simp_all; done)))))))
    | (refine KW.cond rfl ?_ ?_ <;> (intro hc; try simp only [Bool.or_eq_false_iff, Bool.or_eq_true, Bool.and_eq_true, Bool.and_eq_false_iff, Bool.not_eq_true', Bool.not_eq_false', Bool.not_eq_true, Bool.not_eq_false, decide_eq_true_eq, decide_eq_false_iff_not, Bool.not_not, beq_iff_eq, bne_iff_ne, Bool.beq_eq_decide_eq] at hc))
    | exact absurd trivial ‹¬True›
    | fail)
  refine KO.callE rfl rfl rfl rfl rfl rfl rfl rfl (rmCells_p _ w h n F br bx hr (by omega) (by omega)) ?_
  rintro z φ hz
  obtain ⟨pz, cz, rfl⟩ := hz.len
  have hlen := celL_len w F n
  have hcl := cntB_le F n
  have hmem := fun c hc => celL_mem (w := w) (h := h) (f := F) (n := n) (c := c) hc hg hn
  obtain ⟨L, hL⟩ : ∃ L, L = celL w F n := ⟨_, rfl⟩
  obtain ⟨S, hS⟩ : ∃ S, S = cntB F n := ⟨_, rfl⟩
  rw [← hL] at hz hlen
  rw [← hS] at hz hlen hcl hcnt ⊢
  rw [← hL] at hmem
  repeat' (first
    | refine KW.seq ?_
    | refine KW.region ?_
    | refine KO.nil ?_
    | refine At.then_normal ?_
    | refine KW.skip ?_
    | refine KW.ret ?_
    | refine At.then_ret ?_
    | refine KW.block ?_
    | refine KW.exit ?_
    | refine At.block_normal ?_
    | refine At.block_ret ?_
    | refine At.loop_ret ?_
    | refine At.then_exit ?_
    | refine At.block_here rfl ?_
    | refine At.block_there rfl ?_
    | refine At.loop_exit ?_
    | refine At.cut_ret ?_
    | refine At.cutA_ret ?_
    | refine At.cutA_exit ?_
    | refine At.cut_exit ?_
    | (refine At.cut_same ?_; repeat' (first | exact FLe.nil _ | refine FLe.cons rfl rfl ?_))
    | refine KW.cond_t rfl (by first | with_reducible rfl | decide) ?_
    | refine KW.cond_f rfl (by first | with_reducible rfl | decide) ?_
    | refine KW.draw 0 (by decide +kernel) ?_
    | refine KW.drawU rfl (by decide +kernel) ?_
    | refine KD.zero ?_
    | refine KD.skip' rfl (by first | with_reducible rfl | decide) rfl rfl ?_
    | refine KO.skip' rfl (by first | with_reducible rfl | decide) rfl rfl ?_
    | refine KO.skip0' rfl (by first | with_reducible rfl | decide) rfl ?_
    | refine KO.skipIn rfl (by first | with_reducible rfl | decide) rfl rfl ?_
    | refine KD.skipIn rfl (by first | with_reducible rfl | decide) rfl rfl ?_
    | ((first | apply KO.val rfl rfl rfl ?kq ?_ | apply KO.valIn rfl rfl rfl ?kq ?_ | apply KD.val rfl rfl rfl ?kq ?_ | apply KD.valIn rfl rfl rfl ?kq ?_); (case kq => ((first | ((first | apply qt_add rfl rfl rfl ?hi ?om | apply qt_indexAddr_arr rfl rfl rfl ?hi rfl rfl ?om | apply qt_indexAddr_slice rfl rfl rfl ?hi rfl rfl ?om); (case om => (intro hg; first | omega | (simp only [Bool.or_eq_false_iff, Bool.or_eq_true, Bool.and_eq_true, Bool.and_eq_false_iff, Bool.not_eq_true', Bool.not_eq_false', Bool.not_eq_true, Bool.not_eq_false, decide_eq_true_eq, decide_eq_false_iff_not, Bool.not_not, beq_iff_eq, bne_iff_ne, Bool.beq_eq_decide_eq] at hg; omega)))) | apply qt_ev rfl ?hi | ((first | apply qt_load1 rfl rfl ?hi rfl rfl ?hm ?hc | apply qt_loadN rfl rfl ?hi rfl rfl rfl ?hm ?hc); (case hm => repeat (first | exact List.Mem.head _ | apply List.Mem.tail _ | apply List.mem_append_right _)); (case hc => rfl)) | apply qt_pick_t rfl rfl (by first | with_reducible rfl | decide) rfl ?hi | apply qt_pick_f rfl rfl (by first | with_reducible rfl | decide) rfl ?hi | ((first | apply qt_pick_and rfl rfl rfl ?hi ?pj | apply qt_pick_or rfl rfl rfl ?hi ?pj); (case pj => (intro h h2; first | with_reducible exact h2 | with_reducible exact andi h h2 | (rw [h2]; rfl) | (rw [h, h2]; rfl) | with_reducible rfl | (simp [h2]; done) | (simp_all; done)))) | apply qt_eqs rfl rfl rfl ?hi rfl (Or.inl rfl) | apply qt_nes rfl rfl rfl ?hi rfl (Or.inl rfl)); (case hi => (intro h; (repeat' (first | with_reducible exact alln | with_reducible refine allc ?_ ?_ | with_reducible refine andi ?_ ?_)); all_goals (first | with_reducible rfl | with_reducible exact h | with_reducible exact andl h | with_reducible exact andr h | with_reducible exact andl (andl h) | (simp only [h, Bool.and_self]; done) | (simp [h]; done) | (simp_all; done)))))))
    | (refine KW.cond rfl ?_ ?_ <;> (intro hc; try simp only [Bool.or_eq_false_iff, Bool.or_eq_true, Bool.and_eq_true, Bool.and_eq_false_iff, Bool.not_eq_true', Bool.not_eq_false', Bool.not_eq_true, Bool.not_eq_false, decide_eq_true_eq, decide_eq_false_iff_not, Bool.not_not, beq_iff_eq, bne_iff_ne, Bool.beq_eq_decide_eq] at hc))
    | exact absurd trivial ‹¬True›
    | fail)
  refine KW.loop (fun k : Nat => k ≤ S) (fun k => ([(7, true, .int .i64 (k : Int)), (6, true, .int .i64 (k : Int)), (5, true, .slice pz S cz), (0, true, .pointer (some ⟨bm, 0, none⟩)), (1, true, .pointer (some ⟨br, 0, none⟩))], φ)) (fun k => S - k) 0
    (Nat.zero_le _) (Le.perm (by repeat' (first | exact FLe.nil _ | refine FLe.cons rfl rfl ?_)) (by classical exact List.perm_iff_count.2 (fun _ => by first | (simp only [List.count_append, List.count_cons, List.count_nil, List.append_assoc, List.cons_append, List.nil_append]; done) | (simp only [List.count_append, List.count_cons, List.count_nil, List.append_assoc, List.cons_append, List.nil_append]; omega)))) ?_
  intro k hk
  dsimp only
  have hmφ := hm.mono (σ' := φ) (fun _ hq => by cases hq)
  have hrφ := hr.mono (σ' := φ) (fun _ hq => by cases hq)
  by_cases hkS : k < S
  · obtain ⟨⟨cx, cy⟩, hxy⟩ : ∃ z, L[k]? = some z := ⟨_, List.getElem?_eq_getElem (by omega)⟩
    obtain ⟨hci, i, hi1, hi2, hi3⟩ := hmem _ (List.mem_of_getElem? hxy)
    have hhas : mHas w h F cx cy = true := by
      unfold mHas; rw [hci, hi3, Int.toNat_natCast, hi2]; rfl
    have hsz : SL E.β φ 2 S (fl2 L) pz := SL.ofVec hz (by intro r hr; exact hr)
    obtain ⟨bz, oz, rfl, hz1⟩ := hsz.2 (by omega)
    have hHas := Has_p E.β φ w h cx cy nw F bm bw hmφ (by omega) (by omega)
    rw [hhas] at hHas
    repeat' (first
      | refine KW.seq ?_
      | refine KW.region ?_
      | refine KO.nil ?_
      | refine At.then_normal ?_
      | refine KW.skip ?_
      | refine KW.ret ?_
      | refine At.then_ret ?_
      | refine KW.block ?_
      | refine KW.exit ?_
      | refine At.block_normal ?_
      | refine At.block_ret ?_
      | refine At.loop_ret ?_
      | refine At.then_exit ?_
      | refine At.block_here rfl ?_
      | refine At.block_there rfl ?_
      | refine At.loop_exit ?_
      | refine At.cut_ret ?_
      | refine At.cutA_ret ?_
      | refine At.cutA_exit ?_
      | refine At.cut_exit ?_
      | (refine At.cut_same ?_; repeat' (first | exact FLe.nil _ | refine FLe.cons rfl rfl ?_))
      | refine KW.cond_t rfl (by first | with_reducible rfl | decide) ?_
      | refine KW.cond_f rfl (by first | with_reducible rfl | decide) ?_
      | refine KW.draw 0 (by decide +kernel) ?_
      | refine KW.drawU rfl (by decide +kernel) ?_
      | refine KD.zero ?_
      | refine KD.skip' rfl (by first | with_reducible rfl | decide) rfl rfl ?_
      | refine KO.skip' rfl (by first | with_reducible rfl | decide) rfl rfl ?_
      | refine KO.skip0' rfl (by first | with_reducible rfl | decide) rfl ?_
      | refine KO.skipIn rfl (by first | with_reducible rfl | decide) rfl rfl ?_
      | refine KD.skipIn rfl (by first | with_reducible rfl | decide) rfl rfl ?_
      | ((first | apply KO.val rfl rfl rfl ?kq ?_ | apply KO.valIn rfl rfl rfl ?kq ?_ | apply KD.val rfl rfl rfl ?kq ?_ | apply KD.valIn rfl rfl rfl ?kq ?_); (case kq => ((first | ((first | apply qt_add rfl rfl rfl ?hi ?om | apply qt_indexAddr_arr rfl rfl rfl ?hi rfl rfl ?om | apply qt_indexAddr_slice rfl rfl rfl ?hi rfl rfl ?om); (case om => (intro hg; first | omega | (simp only [Bool.or_eq_false_iff, Bool.or_eq_true, Bool.and_eq_true, Bool.and_eq_false_iff, Bool.not_eq_true', Bool.not_eq_false', Bool.not_eq_true, Bool.not_eq_false, decide_eq_true_eq, decide_eq_false_iff_not, Bool.not_not, beq_iff_eq, bne_iff_ne, Bool.beq_eq_decide_eq] at hg; omega)))) | apply qt_ev rfl ?hi | ((first | apply qt_load1 rfl rfl ?hi rfl rfl ?hm ?hc | apply qt_loadN rfl rfl ?hi rfl rfl rfl ?hm ?hc); (case hm => repeat (first | exact List.Mem.head _ | apply List.Mem.tail _ | apply List.mem_append_right _)); (case hc => rfl)) | refine qt_callQ rfl rfl ?hi (fun hg => hHas) | apply qt_pick_t rfl rfl (by first | with_reducible rfl | decide) rfl ?hi | apply qt_pick_f rfl rfl (by first | with_reducible rfl | decide) rfl ?hi | ((first | apply qt_pick_and rfl rfl rfl ?hi ?pj | apply qt_pick_or rfl rfl rfl ?hi ?pj); (case pj => (intro h h2; first | with_reducible exact h2 | with_reducible exact andi h h2 | (rw [h2]; rfl) | (rw [h, h2]; rfl) | with_reducible rfl | (simp [h2]; done) | (simp_all; done)))) | apply qt_eqs rfl rfl rfl ?hi rfl (Or.inl rfl) | apply qt_nes rfl rfl rfl ?hi rfl (Or.inl rfl)); (case hi => (intro h; (repeat' (first | with_reducible exact alln | with_reducible refine allc ?_ ?_ | with_reducible refine andi ?_ ?_)); all_goals (first | with_reducible rfl | with_reducible exact h | with_reducible exact andl h | with_reducible exact andr h | with_reducible exact andl (andl h) | (simp only [h, Bool.and_self]; done) | (simp [h]; done) | (simp_all; done)))))))
      | (refine KW.cond rfl ?_ ?_ <;> (intro hc; try simp only [Bool.or_eq_false_iff, Bool.or_eq_true, Bool.and_eq_true, Bool.and_eq_false_iff, Bool.not_eq_true', Bool.not_eq_false', Bool.not_eq_true, Bool.not_eq_false, decide_eq_true_eq, decide_eq_false_iff_not, Bool.not_not, beq_iff_eq, bne_iff_ne, Bool.beq_eq_decide_eq] at hc))
      | exact absurd trivial ‹¬True›
      | ((first | apply KO.val (g := true) rfl rfl rfl | apply KD.val (g := true) rfl rfl rfl | apply KDE.val (g := true) rfl rfl rfl | apply KDE.val rfl rfl rfl | apply KDH.val0 (g := true) rfl rfl rfl | apply KDH.val1 (g := true) rfl rfl rfl | apply KO.val rfl rfl rfl | apply KD.val rfl rfl rfl | apply KDH.val0 rfl rfl rfl | apply KO.valIn rfl rfl rfl | apply KD.valIn rfl rfl rfl); (apply qt_loadN_cel rfl rfl ?hi rfl rfl rfl ?hl ?hc); (case hc => first | exact fun _ => (cel2 hz1 hxy) | exact fun hg => (cel2 hz1 hxy)); (case hl => rfl); (case hi => (first | exact fun _ => rfl | (intro h; first | rfl | exact h | (simp [h]; done) | (simp_all; done)))))
      | ((first | apply KO.val (g := true) rfl rfl rfl | apply KD.val (g := true) rfl rfl rfl | apply KDE.val (g := true) rfl rfl rfl | apply KDE.val rfl rfl rfl | apply KDH.val0 (g := true) rfl rfl rfl | apply KDH.val1 (g := true) rfl rfl rfl | apply KO.val rfl rfl rfl | apply KD.val rfl rfl rfl | apply KDH.val0 rfl rfl rfl | apply KO.valIn rfl rfl rfl | apply KD.valIn rfl rfl rfl); (apply qt_load1_cel rfl rfl ?hi rfl rfl ?hc); (case hc => first | exact fun _ => (cel2 hz1 hxy) | exact fun hg => (cel2 hz1 hxy)); (case hi => (first | exact fun _ => rfl | (intro h; first | rfl | exact h | (simp [h]; done) | (simp_all; done)))))
      | (exfalso; omega)
      | fail)
    exact At.loop_on (k + 1) (by omega) (by omega) (Le.perm (by repeat' (first | exact FLe.nil _ | refine FLe.cons rfl rfl ?_)) (by classical exact List.perm_iff_count.2 (fun _ => by first | (simp only [List.count_append, List.count_cons, List.count_nil, List.append_assoc, List.cons_append, List.nil_append]; done) | (simp only [List.count_append, List.count_cons, List.count_nil, List.append_assoc, List.cons_append, List.nil_append]; omega))))
  · have htr := trivial
    have hkS2 : k = S := by omega
    have hCt := Count_p E.β φ w h nw F bm bw hmφ (by omega)
    rw [hcnt, ← hkS2] at hCt
    have hSz := Size_p E.β φ w h nw bm bw F hmφ
    repeat' (first
      | refine KW.seq ?_
      | refine KW.region ?_
      | refine KO.nil ?_
      | refine At.then_normal ?_
      | refine KW.skip ?_
      | refine KW.ret ?_
      | refine At.then_ret ?_
      | refine KW.block ?_
      | refine KW.exit ?_
      | refine At.block_normal ?_
      | refine At.block_ret ?_
      | refine At.loop_ret ?_
      | refine At.then_exit ?_
      | refine At.block_here rfl ?_
      | refine At.block_there rfl ?_
      | refine At.loop_exit ?_
      | refine At.cut_ret ?_
      | refine At.cutA_ret ?_
      | refine At.cutA_exit ?_
      | refine At.cut_exit ?_
      | (refine At.cut_same ?_; repeat' (first | exact FLe.nil _ | refine FLe.cons rfl rfl ?_))
      | refine KW.cond_t rfl (by first | with_reducible rfl | decide) ?_
      | refine KW.cond_f rfl (by first | with_reducible rfl | decide) ?_
      | refine KW.draw 0 (by decide +kernel) ?_
      | refine KW.drawU rfl (by decide +kernel) ?_
      | refine KD.zero ?_
      | refine KD.skip' rfl (by first | with_reducible rfl | decide) rfl rfl ?_
      | refine KO.skip' rfl (by first | with_reducible rfl | decide) rfl rfl ?_
      | refine KO.skip0' rfl (by first | with_reducible rfl | decide) rfl ?_
      | refine KO.skipIn rfl (by first | with_reducible rfl | decide) rfl rfl ?_
      | refine KD.skipIn rfl (by first | with_reducible rfl | decide) rfl rfl ?_
      | ((first | apply KO.val rfl rfl rfl ?kq ?_ | apply KO.valIn rfl rfl rfl ?kq ?_ | apply KD.val rfl rfl rfl ?kq ?_ | apply KD.valIn rfl rfl rfl ?kq ?_); (case kq => ((first | ((first | apply qt_add rfl rfl rfl ?hi ?om | apply qt_indexAddr_arr rfl rfl rfl ?hi rfl rfl ?om | apply qt_indexAddr_slice rfl rfl rfl ?hi rfl rfl ?om); (case om => (intro hg; first | omega | (simp only [Bool.or_eq_false_iff, Bool.or_eq_true, Bool.and_eq_true, Bool.and_eq_false_iff, Bool.not_eq_true', Bool.not_eq_false', Bool.not_eq_true, Bool.not_eq_false, decide_eq_true_eq, decide_eq_false_iff_not, Bool.not_not, beq_iff_eq, bne_iff_ne, Bool.beq_eq_decide_eq] at hg; omega)))) | apply qt_ev rfl ?hi | ((first | apply qt_load1 rfl rfl ?hi rfl rfl ?hm ?hc | apply qt_loadN rfl rfl ?hi rfl rfl rfl ?hm ?hc); (case hm => repeat (first | exact List.Mem.head _ | apply List.Mem.tail _ | apply List.mem_append_right _)); (case hc => rfl)) | refine qt_callQ rfl rfl ?hi (fun hg => hCt) | refine qt_callQ rfl rfl ?hi (fun hg => hSz) | apply qt_pick_t rfl rfl (by first | with_reducible rfl | decide) rfl ?hi | apply qt_pick_f rfl rfl (by first | with_reducible rfl | decide) rfl ?hi | ((first | apply qt_pick_and rfl rfl rfl ?hi ?pj | apply qt_pick_or rfl rfl rfl ?hi ?pj); (case pj => (intro h h2; first | with_reducible exact h2 | with_reducible exact andi h h2 | (rw [h2]; rfl) | (rw [h, h2]; rfl) | with_reducible rfl | (simp [h2]; done) | (simp_all; done)))) | apply qt_eqs rfl rfl rfl ?hi rfl (Or.inl rfl) | apply qt_nes rfl rfl rfl ?hi rfl (Or.inl rfl)); (case hi => (intro h; (repeat' (first | with_reducible exact alln | with_reducible refine allc ?_ ?_ | with_reducible refine andi ?_ ?_)); all_goals (first | with_reducible rfl | with_reducible exact h | with_reducible exact andl h | with_reducible exact andr h | with_reducible exact andl (andl h) | (simp only [h, Bool.and_self]; done) | (simp [h]; done) | (simp_all; done)))))))
      | (refine KW.cond rfl ?_ ?_ <;> (intro hc; try simp only [Bool.or_eq_false_iff, Bool.or_eq_true, Bool.and_eq_true, Bool.and_eq_false_iff, Bool.not_eq_true', Bool.not_eq_false', Bool.not_eq_true, Bool.not_eq_false, decide_eq_true_eq, decide_eq_false_iff_not, Bool.not_not, beq_iff_eq, bne_iff_ne, Bool.beq_eq_decide_eq] at hc))
      | exact absurd trivial ‹¬True›
      | ((first | apply KO.val (g := true) rfl rfl rfl | apply KD.val (g := true) rfl rfl rfl | apply KDE.val (g := true) rfl rfl rfl | apply KDE.val rfl rfl rfl | apply KDH.val0 (g := true) rfl rfl rfl | apply KDH.val1 (g := true) rfl rfl rfl | apply KO.val rfl rfl rfl | apply KD.val rfl rfl rfl | apply KDH.val0 rfl rfl rfl | apply KO.valIn rfl rfl rfl | apply KD.valIn rfl rfl rfl); (apply qt_loadN_cel rfl rfl ?hi rfl rfl rfl ?hl ?hc); (case hc => first | exact fun _ => (cel2 hz1 hxy) | exact fun hg => (cel2 hz1 hxy)); (case hl => rfl); (case hi => (first | exact fun _ => rfl | (intro h; first | rfl | exact h | (simp [h]; done) | (simp_all; done)))))
      | ((first | apply KO.val (g := true) rfl rfl rfl | apply KD.val (g := true) rfl rfl rfl | apply KDE.val (g := true) rfl rfl rfl | apply KDE.val rfl rfl rfl | apply KDH.val0 (g := true) rfl rfl rfl | apply KDH.val1 (g := true) rfl rfl rfl | apply KO.val rfl rfl rfl | apply KD.val rfl rfl rfl | apply KDH.val0 rfl rfl rfl | apply KO.valIn rfl rfl rfl | apply KD.valIn rfl rfl rfl); (apply qt_load1_cel rfl rfl ?hi rfl rfl ?hc); (case hc => first | exact fun _ => (cel2 hz1 hxy) | exact fun hg => (cel2 hz1 hxy)); (case hi => (first | exact fun _ => rfl | (intro h; first | rfl | exact h | (simp [h]; done) | (simp_all; done)))))
      | (exfalso; omega)
      | ((first | apply KO.val (g := true) rfl rfl rfl | apply KD.val (g := true) rfl rfl rfl | apply KDE.val (g := true) rfl rfl rfl | apply KDE.val rfl rfl rfl | apply KDH.val0 (g := true) rfl rfl rfl | apply KDH.val1 (g := true) rfl rfl rfl | apply KO.val rfl rfl rfl | apply KD.val rfl rfl rfl | apply KDH.val0 rfl rfl rfl | apply KO.valIn rfl rfl rfl | apply KD.valIn rfl rfl rfl); (apply qt_loadN_cel rfl rfl ?hi rfl rfl rfl ?hl ?hc); (case hc => first | exact fun _ => (hrφ.sz) | exact fun hg => (hrφ.sz)); (case hl => rfl); (case hi => (first | exact fun _ => rfl | (intro h; first | rfl | exact h | (simp [h]; done) | (simp_all; done)))))
      | ((first | apply KO.val (g := true) rfl rfl rfl | apply KD.val (g := true) rfl rfl rfl | apply KDE.val (g := true) rfl rfl rfl | apply KDE.val rfl rfl rfl | apply KDH.val0 (g := true) rfl rfl rfl | apply KDH.val1 (g := true) rfl rfl rfl | apply KO.val rfl rfl rfl | apply KD.val rfl rfl rfl | apply KDH.val0 rfl rfl rfl | apply KO.valIn rfl rfl rfl | apply KD.valIn rfl rfl rfl); (apply qt_load1_cel rfl rfl ?hi rfl rfl ?hc); (case hc => first | exact fun _ => (hrφ.sz) | exact fun hg => (hrφ.sz)); (case hi => (first | exact fun _ => rfl | (intro h; first | rfl | exact h | (simp [h]; done) | (simp_all; done)))))
      | fail)
    ((first | apply At.done_ret | apply At.done_normal); (focus (repeat' (first | exact ResVs.nil' | apply ResVs.cons' | exact ResV.tmp' rfl | (apply ResV.cell1 rfl ?hm rfl rfl ?hc; (case hm => repeat (first | exact List.Mem.head _ | apply List.Mem.tail _ | apply List.mem_append_right _)); (case hc => rfl)) | (apply ResV.cellN rfl ?hm rfl rfl rfl ?hc; (case hm => repeat (first | exact List.Mem.head _ | apply List.Mem.tail _ | apply List.mem_append_right _)); (case hc => rfl))))); dsimp only [resVal])
    exact ⟨[], List.nil_sublist _, by simp, rfl⟩
end Go.Proofs.Ytkoimmfgbepgcaa

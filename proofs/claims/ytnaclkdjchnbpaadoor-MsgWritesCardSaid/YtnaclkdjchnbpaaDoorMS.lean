/- Whether two responses are the same. -/
import Derived.Test.YtnaclkdjchnbpaaDoorM8
namespace Go.Proofs.YtnaclkdjchnbpaaDoor
open Go Go.K

theorem Equal8_p (β : Nat → Option Obj) (σ : Heap) (l1 l2 : List Nat) (p q : Option Addr) (c d m n : Nat) (hm : l1.length = m) (hn : l2.length = n) (hp : SL β σ 1 m (by8 l1) p) (hq : SL β σ 1 n (by8 l2) q) (hb : m ≤ 1000000) (hb2 : n ≤ 1000000) :
    Go.K.Tr Tryd.prog 44 [.slice p m c, .slice q n d] β σ (fun v σ' => v = .bool (decide (l1 = l2)) ∧ σ' = σ) := by
  refine Tr.of_body Tryd.tt (args := [.slice p m c, .slice q n d]) (fr := [(0, true, .slice p m c), (1, true, .slice q n d)]) Tryd.func44 rfl (by decide) rfl Tryd.ntmps44 rfl rfl ?_
  intro E hE
  subst hE
  by_cases hmn : m = n
  · subst hmn
    have htr := trivial
    repeat' (first | refine KW.seq ?_ | refine KW.region ?_ | refine KO.nil ?_ | refine At.then_normal ?_ | refine KW.skip ?_ | refine KW.ret ?_ | refine At.then_ret ?_ | refine KW.block ?_ | ((first | apply KO.val rfl rfl rfl ?kq ?_ ); (case kq => ((first | apply qt_ev rfl ?hi ); (case hi => (intro h; (repeat' (first | with_reducible exact alln | with_reducible refine allc ?_ ?_ )); all_goals (first | with_reducible rfl )))))) | (refine KW.cond rfl ?_ ?_ <;> (intro hc; try simp only [kBool] at hc)) | exact absurd trivial ‹¬True› | fail)
    refine KW.loop (fun j : Nat => j ≤ m ∧ l1.take j = l2.take j) (fun j => ([(13, true, .int .i64 (j : Int)), (12, true, .int .i64 (m : Int)), (0, true, .slice p m c), (1, true, .slice q m d)], σ)) (fun j => m - j) 0
      ⟨Nat.zero_le _, by simp⟩ (Le.perm (by repeat' (first | exact FLe.nil _ | refine FLe.cons rfl rfl ?_)) (by classical exact List.perm_iff_count.2 (fun _ => by first | (simp only [List.count_append, List.count_cons, List.count_nil, List.append_assoc, List.cons_append, List.nil_append]; done) ))) ?_
    rintro j ⟨hj, he⟩
    dsimp only
    by_cases hjn : j < m
    · obtain ⟨b1, o1, rfl, h1⟩ := hp.2 (by omega)
      obtain ⟨b2, o2, rfl, h2⟩ := hq.2 (by omega)
      obtain ⟨x, hx⟩ : ∃ z, l1[j]? = some z := ⟨_, List.getElem?_eq_getElem (by omega)⟩
      obtain ⟨u, hu⟩ : ∃ z, l2[j]? = some z := ⟨_, List.getElem?_eq_getElem (by omega)⟩
      repeat' (first | refine KW.seq ?_ | refine KW.region ?_ | refine KO.nil ?_ | refine At.then_normal ?_ | refine KW.skip ?_ | refine KW.ret ?_ | refine At.then_ret ?_ | refine KW.block ?_ | refine KW.exit ?_ | refine At.block_ret ?_ | refine At.loop_ret ?_ | refine KW.drawU rfl (by decide +kernel) ?_ | refine KD.zero ?_ | ((first | apply KO.val rfl rfl rfl ?kq ?_ | apply KD.val rfl rfl rfl ?kq ?_); (case kq => ((first | ((first | apply qt_add rfl rfl rfl ?hi ?om | apply qt_indexAddr_slice rfl rfl rfl ?hi rfl rfl ?om); (case om => (intro hg; first | omega ))) | apply qt_ev rfl ?hi ); (case hi => (intro h; (repeat' (first | with_reducible exact alln | with_reducible refine allc ?_ ?_ | with_reducible refine andi ?_ ?_)); all_goals (first | with_reducible rfl )))))) | (refine KW.cond rfl ?_ ?_ <;> (intro hc; try simp only [kBool] at hc)) | (exfalso; omega) | ((first | apply KD.val (g := true) rfl rfl rfl ); (first | (apply qt_load1_cel rfl rfl ?hi rfl rfl ?hc; (case hc => first | exact fun _ => (cel8 h1 hx) | exact fun _ => (cel8 h2 hu)))); (case hi => (first | exact fun _ => rfl ))) | fail)
      · ((first | apply At.done_ret ); (focus (repeat' (first | exact ResVs.nil' | apply ResVs.cons' | exact ResV.tmp' rfl ))); dsimp only [resVal])
        have : l1 ≠ l2 := fun e => by
          subst e
          rw [hx] at hu
          simp only [Option.some.injEq] at hu
          omega
        simp [this]
      · have hxu : x = u := by omega
        subst hxu
        refine At.loop_on (j + 1) ⟨by omega, ?_⟩ (by omega) (Le.perm (by repeat' (first | exact FLe.nil _ | refine FLe.cons rfl rfl ?_)) (by classical exact List.perm_iff_count.2 (fun _ => by first | (simp only [List.count_append, List.count_cons, List.count_nil, List.append_assoc, List.cons_append, List.nil_append]; done) )))
        rw [List.take_add_one, List.take_add_one, he, hx, hu]
    · have htr := trivial
      repeat' (first | refine KW.seq ?_ | refine KW.region ?_ | refine KO.nil ?_ | refine At.then_normal ?_ | refine KW.skip ?_ | refine KW.ret ?_ | refine KW.block ?_ | refine KW.exit ?_ | refine KW.drawU rfl (by decide +kernel) ?_ | ((first | apply KO.val rfl rfl rfl ?kq ?_ | apply KD.val rfl rfl rfl ?kq ?_); (case kq => ((first | apply qt_ev rfl ?hi ); (case hi => (intro h; (repeat' (first | with_reducible exact alln | with_reducible refine allc ?_ ?_ )); all_goals (first | with_reducible rfl )))))) | (refine KW.cond rfl ?_ ?_ <;> (intro hc; try simp only [kBool] at hc)) | (exfalso; omega) | fail)
      ((first | apply At.done_ret ); (focus (repeat' (first | exact ResVs.nil' | apply ResVs.cons' | exact ResV.tmp' rfl ))); dsimp only [resVal])
      rw [List.take_of_length_le (by omega), List.take_of_length_le (by omega)] at he
      simp [he]
  · have htr := trivial
    repeat' (first | refine KW.seq ?_ | refine KW.region ?_ | refine KO.nil ?_ | refine At.then_normal ?_ | refine KW.skip ?_ | refine KW.ret ?_ | refine At.then_ret ?_ | refine KW.block ?_ | ((first | apply KO.val rfl rfl rfl ?kq ?_ ); (case kq => ((first | apply qt_ev rfl ?hi ); (case hi => (intro h; (repeat' (first | with_reducible exact alln | with_reducible refine allc ?_ ?_ )); all_goals (first | with_reducible rfl )))))) | (refine KW.cond rfl ?_ ?_ <;> (intro hc; try simp only [kBool] at hc)) | (exfalso; omega) | fail)
    ((first | apply At.done_ret ); (focus (repeat' (first | exact ResVs.nil' | apply ResVs.cons' | exact ResV.tmp' rfl ))); dsimp only [resVal])
    have : l1 ≠ l2 := fun e => by subst e; omega
    simp [this]
/-- Whether two responses are the same, but for their moves; and the moves. -/
def Rs.eqB (a b : Rs) (m : Bool) : Bool :=
  m && decide (a.st = b.st) && decide (a.op = b.op) && decide ((a.tok : Int) = (b.tok : Int)) && decide (a.unit = b.unit) && (decide (a.ax = b.ax) && decide (a.ay = b.ay)) && decide (a.new = b.new) && decide (a.expl = b.expl) && decide (a.ver = b.ver) && (a.hit == b.hit) && decide ((a.cost : Int) = (b.cost : Int)) && decide (a.settled = b.settled) && decide (a.left = b.left) && decide (a.units = b.units) && decide (a.cache = b.cache) && decide (a.sess = b.sess)
set_option maxRecDepth 8000 in
set_option maxHeartbeats 4000000 in
theorem Same_p (β : Nat → Option Obj) (a b : Rs) (l1 l2 : List Nat) (p q : Option Addr) (c d m n : Nat) (ha : a.mv = .slice p m c) (hb : b.mv = .slice q n d) (hm : l1.length = m) (hn : l2.length = n) (hp : SL β [] 1 m (by8 l1) p) (hq : SL β [] 1 n (by8 l2) q) (hb1 : m ≤ 1000000) (hb2 : n ≤ 1000000) :
    Go.K.Tr Tryd.prog 19 [.agg a.cells.toArray, .agg b.cells.toArray] β [] (fun v s => v = .bool (a.eqB b (decide (l1 = l2))) ∧ s = []) := by
  refine Tr.sub ?_
  refine Tr.of_body Tryd.tt (args := [.agg a.cells.toArray, .agg b.cells.toArray]) (fr := [(0, true, .agg a.cells.toArray), (1, true, .agg b.cells.toArray)]) Tryd.func19 rfl (by decide) rfl Tryd.ntmps19 rfl rfl ?_
  intro E hE
  subst hE
  dsimp only [Rs.cells]
  rw [ha, hb]
  obtain ⟨z, hz⟩ : ∃ z, z = decide (l1 = l2) := ⟨_, rfl⟩
  have hE := fun σ => Equal8_p E.β σ l1 l2 p q c d m n hm hn (hp.mono (fun _ h => by cases h)) (hq.mono (fun _ h => by cases h)) hb1 hb2
  rw [← hz] at hE ⊢
  repeat' (first | refine KW.seq ?_ | refine KW.region ?_ | refine KO.nil ?_ | refine At.then_normal ?_ | refine KW.ret ?_ | ((first | apply KO.val rfl rfl rfl ?kq ?_ ); (case kq => ((first | apply qt_ev rfl ?hi | ((first | apply qt_load1 rfl rfl ?hi rfl rfl ?hm ?hc | apply qt_loadN rfl rfl ?hi rfl rfl rfl ?hm ?hc); (case hm => repeat (first | exact List.Mem.head _ | apply List.Mem.tail _ )); (case hc => rfl)) | refine qt_callQ rfl rfl ?hi (fun hg => hE _) | ((first | apply qt_pick_and rfl rfl rfl ?hi ?pj ); (case pj => (intro h h2; first | with_reducible exact h2 ))) | apply qt_eqs rfl rfl rfl ?hi rfl (Or.inl rfl) ); (case hi => (intro h; (repeat' (first | with_reducible exact alln | with_reducible refine allc ?_ ?_ | with_reducible refine andi ?_ ?_)); all_goals (first | with_reducible rfl | with_reducible exact h | with_reducible exact andl h | with_reducible exact andr h | with_reducible exact andl (andl h) | (simp_all; done))))))) | (refine KO.box rfl rfl rfl rfl rfl rfl ?_; intro _ _) | (apply KO.store (i := _) rfl rfl rfl rfl rfl rfl rfl rfl ?hl ?sg ?hw ?ho ?hs; (case sg => first | exact (rfl : getI 0 _ = _) | exact (rfl : getI 1 _ = _) ); (case hl => rfl); (case hw => rfl); (case ho => rfl); (case hs => rfl)) | fail)
  ((first | apply At.done_ret ); (focus (repeat' (first | exact ResVs.nil' | apply ResVs.cons' | exact ResV.tmp' rfl ))); dsimp only [resVal])
  exact ⟨[], List.nil_sublist _, rfl, rfl⟩
end Go.Proofs.YtnaclkdjchnbpaaDoor

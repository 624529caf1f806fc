/- The document's Write. -/
import Derived.Test.YtnaclkdjchnbpaaDoorNX
import Derived.Test.YtnaclkdjchnbpaaDoorN5
import Derived.Test.YtnaclkdjchnbpaaDoorK23
namespace Go.Proofs.YtnaclkdjchnbpaaDoor
open Go Go.K

theorem tolds_ops : ∀ w ∈ tolds, (∀ b ∈ w.ops, 48 ≤ b ∧ b ≤ 57) ∧ w.ops.length ≤ 100 ∧ w.size ≤ 8 ∧ w.many ≤ 2 := by decide
theorem numsS_lt {r : Rs} (hr : r.Ok) {m : Nat} (hm : m ≤ 1000000) (n : ByteArray) : (∀ x ∈ numsS r m n, x < 18446744073709551616) ∧ (numsS r m n).length ≤ 2 := by
  have h := fun N => u64_lt N
  have ht := hr.tok
  have hc := hr.cost
  have hb : bit r.hit < 18446744073709551616 := by cases r.hit <;> decide
  have hm2 : m < 18446744073709551616 := by omega
  by_cases e0 : n = sToken
  · rw [e0, ns_tok]
    refine ⟨fun x hx => ?_, by simp⟩
    simp only [List.mem_cons, List.not_mem_nil, or_false] at hx
    first | (subst hx; first | exact ht )
  by_cases e1 : n = sUnit
  · rw [e1, ns_1]
    refine ⟨fun x hx => ?_, by simp⟩
    simp only [List.mem_cons, List.not_mem_nil, or_false] at hx
    first | (rcases hx with rfl | rfl <;> exact h _) 
  by_cases e2 : n = sAt
  · rw [e2, ns_2]
    refine ⟨fun x hx => ?_, by simp⟩
    simp only [List.mem_cons, List.not_mem_nil, or_false] at hx
    first | (rcases hx with rfl | rfl <;> exact h _) 
  by_cases e3 : n = sNew
  · rw [e3, ns_3]
    refine ⟨fun x hx => ?_, by simp⟩
    simp only [List.mem_cons, List.not_mem_nil, or_false] at hx
    first | (rcases hx with rfl | rfl <;> exact h _) 
  by_cases e4 : n = sExpl
  · rw [e4, ns_4]
    refine ⟨fun x hx => ?_, by simp⟩
    simp only [List.mem_cons, List.not_mem_nil, or_false] at hx
    first | (rcases hx with rfl | rfl <;> exact h _) 
  by_cases e5 : n = sVer
  · rw [e5, ns_5]
    refine ⟨fun x hx => ?_, by simp⟩
    simp only [List.mem_cons, List.not_mem_nil, or_false] at hx
    first | (rcases hx with rfl | rfl <;> exact h _) 
  by_cases e6 : n = sHit
  · rw [e6, ns_6]
    refine ⟨fun x hx => ?_, by simp⟩
    simp only [List.mem_cons, List.not_mem_nil, or_false] at hx
    first | (subst hx; first | exact hb )
  by_cases e7 : n = sCost
  · rw [e7, ns_7]
    refine ⟨fun x hx => ?_, by simp⟩
    simp only [List.mem_cons, List.not_mem_nil, or_false] at hx
    first | (subst hx; first | exact hc )
  by_cases e8 : n = sSettled
  · rw [e8, ns_8]
    refine ⟨fun x hx => ?_, by simp⟩
    simp only [List.mem_cons, List.not_mem_nil, or_false] at hx
    first | (rcases hx with rfl | rfl <;> exact h _) 
  by_cases e9 : n = sLeft
  · rw [e9, ns_9]
    refine ⟨fun x hx => ?_, by simp⟩
    simp only [List.mem_cons, List.not_mem_nil, or_false] at hx
    first | (rcases hx with rfl | rfl <;> exact h _) 
  by_cases e10 : n = sMoves
  · rw [e10, ns_10]
    refine ⟨fun x hx => ?_, by simp⟩
    simp only [List.mem_cons, List.not_mem_nil, or_false] at hx
    first | (subst hx; first | exact hm2)
  by_cases e11 : n = sUnits
  · rw [e11, ns_11]
    refine ⟨fun x hx => ?_, by simp⟩
    simp only [List.mem_cons, List.not_mem_nil, or_false] at hx
    first | (rcases hx with rfl | rfl <;> exact h _) 
  by_cases e12 : n = sCache
  · rw [e12, ns_12]
    refine ⟨fun x hx => ?_, by simp⟩
    simp only [List.mem_cons, List.not_mem_nil, or_false] at hx
    first | (rcases hx with rfl | rfl <;> exact h _) 
  have e : numsS r m n = [u64 r.sess] := by
    unfold numsS
    simp only [*, if_false]
  rw [e]
  refine ⟨fun x hx => ?_, by simp⟩
  simp only [List.mem_cons, List.not_mem_nil, or_false] at hx
  subst hx
  exact h _
theorem tolds_mv : ∀ k, k < 14 → (tolds[k]?).map RowT.name = some sMoves → k = 10 := by decide
structure S24 where
  k : Nat
  o : List Nat
  v : Value
  φ : Heap
def RWriR (r : Rs) (ms : List Nat) (v : Value) (σ : Heap) : Prop := match rWri r ms with
  | (some y, _) => v = .tuple #[.slice none 0 0, .agg #[.int .i64 y.2, .string y.1]] ∧ σ = []
  | (none, o) => ∃ u φ, Vec 5 1 o.length (by8 o) u φ ∧ v = .tuple #[u, .agg #[.int .i64 0, .string ByteArray.empty]] ∧ σ = φ
set_option maxHeartbeats 16000000 in
theorem rWrite_p (β : Nat → Option Obj) (r : Rs) (hr : r.Ok) (ms : List Nat) (p : Option Addr) (m c : Nat) (hmv : r.mv = .slice p m c) (hn : ms.length = m) (hB : Byt ms) (hp : SL β [] 1 m (by8 ms) p) (hpc : p = none → c = 0 ∧ m = 0) (hm : m ≤ 800000) :
    Go.K.Tr Tryd.prog 17 [.agg r.cells.toArray] β [] (fun v σ' => RWriR r ms v σ') := by
  refine Tr.sub ?_
  refine Tr.of_body Tryd.tt (args := [.agg r.cells.toArray]) (fr := [(0, true, .agg r.cells.toArray)]) Tryd.func17 rfl (by decide) rfl Tryd.ntmps17 rfl rfl ?_
  intro E hE
  subst hE
  have hnum := fun n => numbersS_p E.β r p m c hmv (by omega) n
  dsimp only [Rs.cells] at hnum ⊢
  simp only [hmv] at hnum ⊢
  have hop := opens_p E.β r.st r.op
  have hbd := rBody_p E.β r.st r.op
  repeat' (first | refine KW.seq ?_ | refine KW.region ?_ | refine KO.nil ?_ | ((first | apply KO.val rfl rfl rfl ?kq ?_ ); (try (case ksub => (intro _ hp; first | exact hp | (cases hp; done) | (repeat (first | exact hp | apply List.mem_cons_of_mem | apply List.mem_append_right)) | (simp_all; done)))); (case kq => ((first | apply qt_ev rfl ?hi | ((first | apply qt_load1 rfl rfl ?hi rfl rfl ?hm ?hc ); (case hm => repeat (first | exact List.Mem.head _ | apply List.Mem.tail _ )); (case hc => rfl)) ); (case hi => (intro h; (repeat' (first | with_reducible exact alln | with_reducible refine allc ?_ ?_ )); all_goals (first | with_reducible rfl )))))) | (refine KO.box rfl rfl rfl rfl rfl rfl ?_; intro _ _) | (refine KO.alloc rfl rfl rfl rfl rfl rfl ?_; intro _ _) | (refine KO.buildSlice rfl rfl rfl rfl rfl rfl rfl rfl rfl rfl rfl rfl rfl rfl ?_; intro _ _) | fail)
  rename_i br _ bf _ b15 _
  refine KO.callB [] ((b15, cl [.int .u64 (u64 r.st : Int)] 22) :: [(bf, cl [.int .i64 0, .string ByteArray.empty] 34), (br, cl [.int .i64 r.st, .int .i64 r.op, .int .u64 (r.tok : Int), .int .i64 r.unit, .int .i64 r.ax, .int .i64 r.ay, .int .i64 r.new, .int .i64 r.expl, .int .i64 r.ver, .bool r.hit, .int .u64 (r.cost : Int), .int .i64 r.settled, .int .i64 r.left, (.slice p m c), .int .i64 r.units, .int .i64 r.cache, .int .i64 r.sess] 48)]) (by simp only [u64_wrap]; exact (by classical exact List.perm_iff_count.2 (fun _ => by first | (simp only [List.count_append, List.count_cons, List.count_nil, List.append_assoc, List.cons_append, List.nil_append]; done) ))) rfl rfl rfl rfl rfl rfl rfl (fun β' g1 g2 => lay_p β' 1 (by omega) [] (.slice none 0 0) [] (Vec.nil 5 1) [u64 r.st] (fun x hx => by simp only [List.mem_singleton] at hx; rw [hx]; exact u64_lt _) (some ⟨b15, 0, none⟩) 1 1 rfl (SL.frz (φ := [(b15, cl [.int .u64 (u64 r.st : Int)] 22)]) g1 (fun q hq => g2 q (by simp only [List.mem_singleton] at hq; rw [hq]; exact List.Mem.head _)) (SL.ofBlk (List.Mem.head _) rfl)) (by simp)) ?_
  rintro zv τ hL
  rcases hLay : layL 1 [] [u64 r.st] with _ | o1
  · rw [hLay] at hL
    obtain ⟨rfl, rfl⟩ := hL
    have hst : u64 r.st / 2 ^ (8 * 1) ≠ 0 := by
      intro h0
      rw [layL, if_pos h0] at hLay
      cases hLay
    repeat' (first | refine KW.seq ?_ | refine KW.region ?_ | refine KO.nil ?_ | refine At.then_normal ?_ | refine KW.ret ?_ | refine At.then_ret ?_ | refine KW.cond_t rfl (by first | decide) ?_ | ((first | apply KO.val rfl rfl rfl ?kq ?_ ); (try (case ksub => (intro _ hp; first | exact hp | (cases hp; done) | (repeat (first | exact hp | apply List.mem_cons_of_mem | apply List.mem_append_right)) | (simp_all; done)))); (case kq => ((first | apply qt_ev rfl ?hi | apply qt_build rfl rfl ?hi rfl ); (case hi => (intro h; (repeat' (first | with_reducible exact alln | with_reducible refine allc ?_ ?_ )); all_goals (first | with_reducible rfl )))))) | (apply KO.store (i := _) rfl rfl rfl rfl rfl rfl rfl rfl ?hl ?sg ?hw ?ho ?hs; (case sg => first | exact (rfl : getI 1 _ = _) ); (case hl => rfl); (case hw => rfl); (case ho => rfl); (case hs => rfl)) | fail)
    ((first | apply At.done_ret ); (focus (repeat' (first | exact ResVs.nil' | apply ResVs.cons' | exact ResV.tmp' rfl | (apply ResV.cellN rfl ?hm rfl rfl rfl ?hc; (case hm => repeat (first | exact List.Mem.head _ | apply List.Mem.tail _ )); (case hc => rfl))))); dsimp only [resVal])
    refine ⟨[], List.nil_sublist _, ?_⟩
    unfold RWriR rWri
    rw [if_pos hst]
    exact ⟨rfl, rfl⟩
  · rw [hLay] at hL
    obtain ⟨u1, φ1, hu1, rfl, rfl⟩ := hL
    have hst : u64 r.st / 2 ^ (8 * 1) = 0 ∧ o1 = bes (u64 r.st) 1 1 := by
      rw [layL] at hLay
      split at hLay
      · simp only [layL, Option.some.injEq, List.nil_append] at hLay
        exact ⟨by assumption, hLay.symm⟩
      · cases hLay
    obtain ⟨pu, cu, rfl⟩ := hu1.len
    refine KO.permS (σ' := (bf, cl [.int .i64 0, .string ByteArray.empty] 34) :: (br, cl [.int .i64 r.st, .int .i64 r.op, .int .u64 (r.tok : Int), .int .i64 r.unit, .int .i64 r.ax, .int .i64 r.ay, .int .i64 r.new, .int .i64 r.expl, .int .i64 r.ver, .bool r.hit, .int .u64 (r.cost : Int), .int .i64 r.settled, .int .i64 r.left, (.slice p m c), .int .i64 r.units, .int .i64 r.cache, .int .i64 r.sess] 48) :: τ) (φ := [(b15, cl [.int .u64 (u64 r.st : Int)] 22)]) (by classical exact List.perm_iff_count.2 (fun _ => by first | (simp only [List.count_append, List.count_cons, List.count_nil, List.append_assoc, List.cons_append, List.nil_append]; omega))) ?_
    by_cases ho : opensE r.st r.op = 0
    · rw [ho] at hop
      have htr := trivial
      have hop2 : 0 ≤ r.op ∧ r.op ≤ 255 := by unfold opensE at ho; split at ho <;> first | omega 
      have hw8 : IntKind.u8.wrap r.op = (((r.op % 256).toNat : Nat) : Int) := by
        obtain ⟨q, hq⟩ : ∃ q : Nat, r.op = q := ⟨r.op.toNat, by omega⟩
        rw [hq, wrap_u8]; omega
      repeat' (first | refine KW.seq ?_ | refine KW.region ?_ | refine KO.nil ?_ | refine At.then_normal ?_ | refine KW.skip ?_ | refine KW.cond_f rfl (by first | decide) ?_ | ((first | apply KO.val rfl rfl rfl ?kq ?_ ); (try (case ksub => (intro _ hp; first | exact hp | (cases hp; done) | (repeat (first | exact hp | apply List.mem_cons_of_mem | apply List.mem_append_right)) | (simp_all; done)))); (case kq => ((first | apply qt_ev rfl ?hi | ((first | apply qt_load1 rfl rfl ?hi rfl rfl ?hm ?hc ); (case hm => repeat (first | exact List.Mem.head _ | apply List.Mem.tail _ )); (case hc => rfl)) | refine qt_callQ rfl rfl ?hi (fun hg => Tr.quiet hop) ); (case hi => (intro h; (repeat' (first | with_reducible exact alln | with_reducible refine allc ?_ ?_ )); all_goals (first | with_reducible rfl )))))) | (refine KO.buildSlice rfl rfl rfl rfl rfl rfl rfl rfl rfl rfl rfl rfl rfl rfl ?_; intro _ _) | fail)
      rename_i b35 _
      rw [hw8]
      refine KO.appendF (k := 1) (news := by8 [(r.op % 256).toNat]) [(b35, cl [.int .u8 (((r.op % 256).toNat : Nat) : Int)] 5), (bf, cl [.int .i64 0, .string ByteArray.empty] 34), (br, cl [.int .i64 r.st, .int .i64 r.op, .int .u64 (r.tok : Int), .int .i64 r.unit, .int .i64 r.ax, .int .i64 r.ay, .int .i64 r.new, .int .i64 r.expl, .int .i64 r.ver, .bool r.hit, .int .u64 (r.cost : Int), .int .i64 r.settled, .int .i64 r.left, (.slice p m c), .int .i64 r.units, .int .i64 r.cache, .int .i64 r.sess] 48)] τ (by classical exact List.perm_iff_count.2 (fun _ => by first | (simp only [List.count_append, List.count_cons, List.count_nil, List.append_assoc, List.cons_append, List.nil_append]; done) )) rfl rfl rfl rfl rfl rfl rfl rfl rfl rfl (by decide) hu1 rfl ?_ rfl ?_ ?_ ?_
      · intro i v hi
        exact .inl ⟨_, _, List.Mem.head _, by rw [Nat.zero_add]; exact hi⟩
      · simp only [maxLen]; rw [hst.2, bes_len]; omega
      · rw [hst.2, bes_len]; omega
      rintro v2 φ2 hu2
      have e2 : by8 o1 ++ by8 [(r.op % 256).toNat] = by8 (bes (u64 r.st) 1 1 ++ [(r.op % 256).toNat]) := by rw [hst.2]; exact (by8_append _ _).symm
      have e3 : o1.length + 1 = (bes (u64 r.st) 1 1 ++ [(r.op % 256).toNat]).length := by rw [hst.2, List.length_append, bes_len]; rfl
      rw [e2, e3] at hu2
      obtain ⟨o0, ho0⟩ : ∃ o0, o0 = bes (u64 r.st) 1 1 ++ [(r.op % 256).toNat] := ⟨_, rfl⟩
      rw [← ho0] at hu2
      have hl0 : o0.length = 2 := by rw [ho0, List.length_append, bes_len]; rfl
      obtain ⟨p2, c2, rfl⟩ := hu2.len
      have hR : ∀ x, refW (hasS r) (numsT r ms) ms tolds o0 = x → rWri r ms = fin x (refE2 (hasS r) (numsT r ms) tolds) := by
        intro x hx
        unfold rWri
        rw [if_neg (fun h => h hst.1), if_neg (fun h => h ho), ← ho0, hx]
      repeat' (first | refine KW.seq ?_ | refine KW.region ?_ | refine KO.nil ?_ | ((first | apply KO.val rfl rfl rfl ?kq ?_ ); (try (case ksub => (intro _ hp; first | exact hp | (cases hp; done) | (repeat (first | exact hp | apply List.mem_cons_of_mem | apply List.mem_append_right)) | (simp_all; done)))); (case kq => ((first | apply qt_ev rfl ?hi ); (case hi => (intro h; (repeat' (first | with_reducible exact alln | with_reducible refine allc ?_ ?_ )); all_goals (first | with_reducible rfl )))))) | fail)
      refine KO.callF [] ((b35, cl [.int .u8 (((r.op % 256).toNat : Nat) : Int)] 5) :: (bf, cl [.int .i64 0, .string ByteArray.empty] 34) :: (br, cl [.int .i64 r.st, .int .i64 r.op, .int .u64 (r.tok : Int), .int .i64 r.unit, .int .i64 r.ax, .int .i64 r.ay, .int .i64 r.new, .int .i64 r.expl, .int .i64 r.ver, .bool r.hit, .int .u64 (r.cost : Int), .int .i64 r.settled, .int .i64 r.left, (.slice p m c), .int .i64 r.units, .int .i64 r.cache, .int .i64 r.sess] 48) :: φ2) (by classical exact List.perm_iff_count.2 (fun _ => by first | (simp only [List.count_append, List.count_cons, List.count_nil, List.append_assoc, List.cons_append, List.nil_append]; done) )) rfl rfl rfl rfl rfl rfl rfl (Told_p _) ?_
      rintro _ _ ⟨bl, rfl, rfl⟩
      obtain ⟨RV, hRV⟩ : ∃ RV, RV = rowsV tolds := ⟨_, rfl⟩
      rw [← hRV]
      refine KO.permS (σ' := (bl, cl RV 86) :: (bf, cl [.int .i64 0, .string ByteArray.empty] 34) :: (br, cl [.int .i64 r.st, .int .i64 r.op, .int .u64 (r.tok : Int), .int .i64 r.unit, .int .i64 r.ax, .int .i64 r.ay, .int .i64 r.new, .int .i64 r.expl, .int .i64 r.ver, .bool r.hit, .int .u64 (r.cost : Int), .int .i64 r.settled, .int .i64 r.left, (.slice p m c), .int .i64 r.units, .int .i64 r.cache, .int .i64 r.sess] 48) :: φ2) (φ := [(b35, cl [.int .u8 (((r.op % 256).toNat : Nat) : Int)] 5)]) (by classical exact List.perm_iff_count.2 (fun _ => by first | (simp only [List.count_append, List.count_cons, List.count_nil, List.append_assoc, List.cons_append, List.nil_append]; omega))) ?_
      repeat' (first | refine KW.seq ?_ | refine KW.region ?_ | refine KO.nil ?_ | refine At.then_normal ?_ | refine KW.block ?_ | ((first | apply KO.val rfl rfl rfl ?kq ?_ ); (try (case ksub => (intro _ hp; first | exact hp | (cases hp; done) | (repeat (first | exact hp | apply List.mem_cons_of_mem | apply List.mem_append_right)) | (simp_all; done)))); (case kq => ((first | apply qt_ev rfl ?hi ); (case hi => (intro h; (repeat' (first | with_reducible exact alln | with_reducible refine allc ?_ ?_ )); all_goals (first | with_reducible rfl )))))) | fail)
      refine KW.loop (fun s : S24 => s.k ≤ 14 ∧ s.o.length ≤ 2 + s.k * 16 + (if s.k ≤ 10 then 0 else m) ∧ refW (hasS r) (numsT r ms) ms tolds o0 = refW (hasS r) (numsT r ms) ms (tolds.drop s.k) s.o ∧ Vec 5 1 s.o.length (by8 s.o) s.v s.φ) (fun s => ([(8, true, .int .i64 (s.k : Int)), (4, true, s.v), (7, true, .slice (some ⟨bl, 0, none⟩) 14 14), (3, true, .pointer (some ⟨bf, 0, none⟩)), (1, true, .pointer (some ⟨br, 0, none⟩))], (bl, cl RV 86) :: (bf, cl [.int .i64 0, .string ByteArray.empty] 34) :: (br, cl [.int .i64 r.st, .int .i64 r.op, .int .u64 (r.tok : Int), .int .i64 r.unit, .int .i64 r.ax, .int .i64 r.ay, .int .i64 r.new, .int .i64 r.expl, .int .i64 r.ver, .bool r.hit, .int .u64 (r.cost : Int), .int .i64 r.settled, .int .i64 r.left, (.slice p m c), .int .i64 r.units, .int .i64 r.cache, .int .i64 r.sess] 48) :: s.φ)) (fun s => 14 - s.k) ⟨0, o0, _, φ2⟩
        ⟨Nat.zero_le _, by dsimp only; omega, rfl, hu2⟩ (Le.perm (by repeat' (first | exact FLe.nil _ | refine FLe.cons rfl rfl ?_)) (List.Perm.refl _)) ?_
      rintro ⟨k, o, u, φ⟩ ⟨hk, hlo, he, hu⟩
      dsimp only at hk hlo he hu ⊢
      obtain ⟨pu3, cu3, rfl⟩ := hu.len
      obtain ⟨b, hb⟩ : ∃ b, b = bodyR r.st r.op := ⟨_, rfl⟩
      rw [← hb] at hbd
      by_cases hkn : k < 14
      · obtain ⟨w, hw⟩ : ∃ w, tolds[k]? = some w := ⟨_, List.getElem?_eq_getElem hkn⟩
        obtain ⟨hw1, hw2, hw3, hw4⟩ := tolds_ops w (List.mem_of_getElem? hw)
        have hmv10 : w.name = sMoves → k = 10 := fun h => tolds_mv k hkn (by rw [hw, Option.map_some, h])
        rw [drop_of hw] at he
        have kr : ∀ σ', (bl, cl RV 86) ∈ σ' → ∀ j' v, (rowV w)[j']? = some v → Cel E.β σ' bl (0 + ((k : Nat) : Int).toNat * 4 + j') v := fun σ' h => celR (by rw [← hRV]; exact h) hw
        have hHas := fun σ => Has_p E.β σ w hw1 hw2 r.op
        obtain ⟨h, hh⟩ : ∃ h, h = hasR w.ops r.op := ⟨_, rfl⟩
        rw [← hh] at hHas
        have hhas : hasS r w = (b && h) := by unfold hasS; rw [hb, hh]
        repeat' (first | refine KW.seq ?_ | refine KW.region ?_ | refine KO.nil ?_ | refine At.then_normal ?_ | refine KW.skip ?_ | refine KW.ret ?_ | refine At.then_ret ?_ | refine KW.block ?_ | refine KW.exit ?_ | refine At.block_ret ?_ | refine At.loop_ret ?_ | refine KW.drawN (id := 15) [0, 0, 0, 0, 0, 0, 0, 2, 0, 0, 0, 0, 0, 3] [] 5 (by decide +kernel) rfl rfl rfl rfl ?_ | refine KDH.mid2 ?_ | refine KDH.mid3 ?_ | refine KDH.done ?_ | refine KDM.head0 ?_ | refine KW.drawU rfl (by decide +kernel) ?_ | refine KD.zero ?_ | ((first | apply KO.val rfl rfl rfl ?kq ?_ | apply KD.val rfl rfl rfl ?kq ?_ | apply KDH.val0 rfl rfl rfl ?kq ?_ ); (try (case ksub => (intro _ hp; first | exact hp | (cases hp; done) | (repeat (first | exact hp | apply List.mem_cons_of_mem | apply List.mem_append_right)) | (simp_all; done)))); (case kq => ((first | ((first | apply qt_add rfl rfl rfl ?hi ?om | apply qt_indexAddr_slice rfl rfl rfl ?hi rfl rfl ?om); (case om => (intro hg; first | omega ))) | apply qt_ev rfl ?hi | ((first | apply qt_load1 rfl rfl ?hi rfl rfl ?hm ?hc | apply qt_loadN rfl rfl ?hi rfl rfl rfl ?hm ?hc); (case hm => repeat (first | exact List.Mem.head _ | apply List.Mem.tail _ )); (case hc => rfl)) | refine qt_callQ rfl rfl ?hi (fun hg => Tr.quiet hbd) | refine qt_callQ rfl rfl ?hi (fun hg => hHas _) | apply qt_streq rfl rfl rfl ?hi | ((first | apply qt_pick_and rfl rfl rfl ?hi ?pj | apply qt_pick_or rfl rfl rfl ?hi ?pj); (case pj => (intro h h2; first | with_reducible exact h2 | (rw [h2]; rfl) ))) | apply qt_build rfl rfl ?hi rfl ); (case hi => (intro h; (repeat' (first | with_reducible exact alln | with_reducible refine allc ?_ ?_ | with_reducible refine andi ?_ ?_)); all_goals (first | with_reducible rfl | with_reducible exact h )))))) | (apply KO.store (i := _) rfl rfl rfl rfl rfl rfl rfl rfl ?hl ?sg ?hw ?ho ?hs; (case sg => first | exact (rfl : getI 1 _ = _) ); (case hl => rfl); (case hw => rfl); (case ho => rfl); (case hs => rfl)) | (refine KW.cond rfl ?_ ?_ <;> (intro hc; try simp only [kBool] at hc)) | (exfalso; omega) | ((first | apply KO.val (g := true) rfl rfl rfl | apply KDH.val0 (g := true) rfl rfl rfl | apply KD.val rfl rfl rfl ); (first | (apply qt_loadN_cel rfl rfl ?hi rfl rfl rfl ?hl ?hc; (case hc => exact fun _ => (kr _ (List.Mem.head _))); (case hl => rfl)) | (apply qt_load1_cel rfl rfl ?hi rfl rfl ?hc; (case hc => first | exact fun _ => (kr _ (List.Mem.head _) 0 _ rfl) | exact fun _ => (kr _ (List.Mem.head _) 1 _ rfl) ))); (case hi => (first | exact fun _ => rfl | (intro h; first | exact h )))) | fail)
        · refine At.loop_on ⟨k + 1, o, _, φ⟩ ⟨by dsimp only; omega, by dsimp only; split <;> split at hlo <;> omega, ?_, hu⟩ (by dsimp only; omega) (Le.perm (by repeat' (first | exact FLe.nil _ | refine FLe.cons rfl rfl ?_)) (List.Perm.refl _))
          refine he.trans ?_
          rw [refW, if_neg (by rw [hhas]; rcases hc with h1 | h1 <;> simp [h1])]
        · have hbh : b = true ∧ h = true := by assumption
          ((first | apply At.done_ret ); (focus (repeat' (first | exact ResVs.nil' | apply ResVs.cons' | exact ResV.tmp' rfl | (apply ResV.cellN rfl ?hm rfl rfl rfl ?hc; (case hm => repeat (first | exact List.Mem.head _ | apply List.Mem.tail _ )); (case hc => rfl))))); dsimp only [resVal])
          refine ⟨[], List.nil_sublist _, ?_⟩
          have e1 := hR (some (sMoves, 12), []) (by rw [he, refW, if_pos (by rw [hhas, hbh.1, hbh.2]; rfl), if_pos ⟨hc.1, by omega⟩])
          unfold RWriR
          rw [e1]
          exact ⟨rfl, rfl⟩
        · have hbh : b = true ∧ h = true := by assumption
          have hT : hasS r w = true := by rw [hhas, hbh.1, hbh.2]; rfl
          have hnT : numsT r ms w = numsS r m w.name := by unfold numsT; rw [hn]
          have hnb : ¬ (w.name = sMoves ∧ 65535 < ms.length) := by
            rintro ⟨h1, h2⟩
            rcases hc with h3 | h3
            · exact h3 h1
            · omega
          obtain ⟨hU, hU2⟩ := numsS_lt hr (m := m) (by omega) w.name
          refine KDM.eo2f rfl rfl rfl (eo_callE rfl rfl rfl rfl rfl (hnum w.name)) ?_
          rintro _ _ ⟨_, ⟨bn, rfl, rfl⟩, rfl⟩
          refine ⟨fun q hq => List.mem_append_right _ hq, ?_⟩
          repeat' (first | refine KDM.head0 ?_ | fail)
          refine KDM.eo3 rfl rfl rfl (eo_callB φ ((bn, cl (uv (numsS r m w.name)) 22) :: (bl, cl RV 86) :: (bf, cl [.int .i64 0, .string ByteArray.empty] 34) :: [(br, cl [.int .i64 r.st, .int .i64 r.op, .int .u64 (r.tok : Int), .int .i64 r.unit, .int .i64 r.ax, .int .i64 r.ay, .int .i64 r.new, .int .i64 r.expl, .int .i64 r.ver, .bool r.hit, .int .u64 (r.cost : Int), .int .i64 r.settled, .int .i64 r.left, (.slice p m c), .int .i64 r.units, .int .i64 r.cache, .int .i64 r.sess] 48)]) (by classical exact List.perm_iff_count.2 (fun _ => by first | (simp only [List.count_append, List.count_cons, List.count_nil, List.append_assoc, List.cons_append, List.nil_append]; omega))) rfl rfl rfl rfl (fun β' g1 g2 => lay_p β' w.size hw3 o _ φ hu (numsS r m w.name) hU (some ⟨bn, 0, none⟩) (numsS r m w.name).length (numsS r m w.name).length rfl (SL.frz (φ := [(bn, cl (uv (numsS r m w.name)) 22)]) g1 (fun q hq => g2 q (by simp only [List.mem_singleton] at hq; rw [hq]; exact List.Mem.head _)) (SL.ofBlk (List.Mem.head _) (by simp [uv_len]))) (by split at hlo <;> omega))) ?_
          rintro zv _ ⟨τ2, hL2, rfl⟩
          refine ⟨(by intro p hp; cases hp), ?_⟩
          rcases hLay2 : layL w.size o (numsS r m w.name) with _ | o2
          · rw [hLay2] at hL2
            obtain ⟨rfl, rfl⟩ := hL2
            repeat' (first | refine KW.seq ?_ | refine KW.region ?_ | refine KO.nil ?_ | refine At.then_normal ?_ | refine KW.ret ?_ | refine At.then_ret ?_ | refine At.block_ret ?_ | refine At.loop_ret ?_ | refine KW.cond_t rfl (by first | decide) ?_ | refine KDM.fin ?_ | refine KW.drawU rfl (by decide +kernel) ?_ | refine KD.zero ?_ | ((first | apply KO.val rfl rfl rfl ?kq ?_ | apply KD.val rfl rfl rfl ?kq ?_ ); (try (case ksub => (intro _ hp; first | exact hp | (cases hp; done) | (repeat (first | exact hp | apply List.mem_cons_of_mem | apply List.mem_append_right)) | (simp_all; done)))); (case kq => ((first | ((first | apply qt_indexAddr_slice rfl rfl rfl ?hi rfl rfl ?om); (case om => (intro hg; first | omega ))) | apply qt_ev rfl ?hi | apply qt_build rfl rfl ?hi rfl ); (case hi => (intro h; (repeat' (first | with_reducible exact alln | with_reducible refine allc ?_ ?_ | with_reducible refine andi ?_ ?_)); all_goals (first | with_reducible rfl )))))) | (apply KO.store (i := _) rfl rfl rfl rfl rfl rfl rfl rfl ?hl ?sg ?hw ?ho ?hs; (case sg => first | exact (rfl : getI 2 _ = _) ); (case hl => rfl); (case hw => rfl); (case ho => rfl); (case hs => rfl)) | ((first | apply KD.val (g := true) rfl rfl rfl ); (first | (apply qt_load1_cel rfl rfl ?hi rfl rfl ?hc; (case hc => first | exact fun _ => (kr _ (List.Mem.tail _ (List.Mem.head _)) 0 _ rfl) ))); (case hi => (first | exact fun _ => rfl ))) | fail)
            ((first | apply At.done_ret ); (focus (repeat' (first | exact ResVs.nil' | apply ResVs.cons' | exact ResV.tmp' rfl | (apply ResV.cellN rfl ?hm rfl rfl rfl ?hc; (case hm => repeat (first | exact List.Mem.head _ | apply List.Mem.tail _ )); (case hc => rfl))))); dsimp only [resVal])
            refine ⟨[], List.nil_sublist _, ?_⟩
            have e1 := hR (some (w.name, 10), []) (by rw [he, refW, if_pos hT, if_neg hnb, hnT, hLay2])
            unfold RWriR
            rw [e1]
            exact ⟨rfl, rfl⟩
          · rw [hLay2] at hL2
            obtain ⟨u', φ', hu', rfl, rfl⟩ := hL2
            have hl2 := layL_len w.size _ _ _ hLay2
            have hl3 : (numsS r m w.name).length * w.size ≤ 2 * 8 := Nat.mul_le_mul hU2 hw3
            obtain ⟨pu4, cu4, rfl⟩ := hu'.len
            repeat' (first | refine KW.seq ?_ | refine KW.region ?_ | refine KO.nil ?_ | refine At.then_normal ?_ | refine KW.skip ?_ | refine KW.block ?_ | refine KW.cond_f rfl (by first | decide) ?_ | refine KDM.fin ?_ | refine KD.zero ?_ | ((first | apply KO.val rfl rfl rfl ?kq ?_ | apply KD.val rfl rfl rfl ?kq ?_ ); (try (case ksub => (intro _ hp; first | exact hp | (cases hp; done) | (repeat (first | exact hp | apply List.mem_cons_of_mem | apply List.mem_append_right)) | (simp_all; done)))); (case kq => ((first | ((first | apply qt_add rfl rfl rfl ?hi ?om | apply qt_indexAddr_slice rfl rfl rfl ?hi rfl rfl ?om); (case om => (intro hg; first | omega ))) | apply qt_ev rfl ?hi | apply qt_streq rfl rfl rfl ?hi ); (case hi => (intro h; (repeat' (first | with_reducible exact alln | with_reducible refine allc ?_ ?_ | with_reducible refine andi ?_ ?_)); all_goals (first | with_reducible rfl )))))) | (refine KW.cond rfl ?_ ?_ <;> (intro hc; try simp only [kBool] at hc)) | ((first | apply KO.val (g := true) rfl rfl rfl ); (first | (apply qt_load1_cel rfl rfl ?hi rfl rfl ?hc; (case hc => first | exact fun _ => (kr _ (List.mem_append_right _ (List.Mem.tail _ (List.Mem.head _))) 0 _ rfl)))); (case hi => (first | exact fun _ => rfl ))) | fail)
            · have hk10 := hmv10 hc
              have hnm : w.name = sMoves := hc
              refine KW.loop (fun j : Nat => j ≤ m ∧ (ms.take j).all (fun x => decide (x ≤ 3)) = true) (fun j => ([(9, true, .int .i64 (j : Int)), (8, true, .int .i64 (k : Int)), (4, true, .slice pu4 o2.length cu4), (7, true, .slice (some ⟨bl, 0, none⟩) 14 14), (3, true, .pointer (some ⟨bf, 0, none⟩)), (1, true, .pointer (some ⟨br, 0, none⟩))], (bl, cl RV 86) :: (bf, cl [.int .i64 0, .string ByteArray.empty] 34) :: (br, cl [.int .i64 r.st, .int .i64 r.op, .int .u64 (r.tok : Int), .int .i64 r.unit, .int .i64 r.ax, .int .i64 r.ay, .int .i64 r.new, .int .i64 r.expl, .int .i64 r.ver, .bool r.hit, .int .u64 (r.cost : Int), .int .i64 r.settled, .int .i64 r.left, (.slice p m c), .int .i64 r.units, .int .i64 r.cache, .int .i64 r.sess] 48) :: τ2)) (fun j => m - j) 0 ⟨Nat.zero_le _, rfl⟩ (Le.permS (φ := [(bn, cl (uv (numsS r m w.name)) 22)]) (by repeat' (first | exact FLe.nil _ | refine FLe.cons rfl rfl ?_)) (by classical exact List.perm_iff_count.2 (fun _ => by first | (simp only [List.count_append, List.count_cons, List.count_nil, List.append_assoc, List.cons_append, List.nil_append]; omega)))) ?_
              rintro j ⟨hj, hall⟩
              dsimp only
              by_cases hjn : j < m
              · obtain ⟨b1, o1', rfl, h1⟩ := hp.2 (by omega)
                obtain ⟨x, hx⟩ : ∃ z, ms[j]? = some z := ⟨_, List.getElem?_eq_getElem (by omega)⟩
                have hx256 : x < 256 := hB x (List.mem_of_getElem? hx)
                repeat' (first | refine KW.seq ?_ | refine KW.region ?_ | refine KO.nil ?_ | refine At.then_normal ?_ | refine KW.skip ?_ | refine KW.ret ?_ | refine At.then_ret ?_ | refine KW.block ?_ | refine KW.exit ?_ | refine At.block_ret ?_ | refine At.loop_ret ?_ | ((first | apply KO.val rfl rfl rfl ?kq ?_ ); (try (case ksub => (intro _ hp; first | exact hp | (cases hp; done) | (repeat (first | exact hp | apply List.mem_cons_of_mem | apply List.mem_append_right)) | (simp_all; done)))); (case kq => ((first | ((first | apply qt_add rfl rfl rfl ?hi ?om | apply qt_indexAddr_slice rfl rfl rfl ?hi rfl rfl ?om); (case om => (intro hg; first | omega ))) | apply qt_ev rfl ?hi | ((first | apply qt_load1 rfl rfl ?hi rfl rfl ?hm ?hc ); (case hm => repeat (first | exact List.Mem.head _ | apply List.Mem.tail _ )); (case hc => rfl)) | apply qt_build rfl rfl ?hi rfl ); (case hi => (intro h; (repeat' (first | with_reducible exact alln | with_reducible refine allc ?_ ?_ | with_reducible refine andi ?_ ?_)); all_goals (first | with_reducible rfl )))))) | (apply KO.store (i := _) rfl rfl rfl rfl rfl rfl rfl rfl ?hl ?sg ?hw ?ho ?hs; (case sg => first | exact (rfl : getI 1 _ = _) ); (case hl => rfl); (case hw => rfl); (case ho => rfl); (case hs => rfl)) | (refine KW.cond rfl ?_ ?_ <;> (intro hc; try simp only [kBool] at hc)) | (exfalso; omega) | ((first | apply KO.val (g := true) rfl rfl rfl ); (first | (apply qt_load1_cel rfl rfl ?hi rfl rfl ?hc; (case hc => first | exact fun _ => ((cel8 h1 hx).mono (fun _ h => by cases h))))); (case hi => (first | exact fun _ => rfl ))) | fail)
                · ((first | apply At.done_ret ); (focus (repeat' (first | exact ResVs.nil' | apply ResVs.cons' | exact ResV.tmp' rfl | (apply ResV.cellN rfl ?hm rfl rfl rfl ?hc; (case hm => repeat (first | exact List.Mem.head _ | apply List.Mem.tail _ )); (case hc => rfl))))); dsimp only [resVal])
                  refine ⟨[], List.nil_sublist _, ?_⟩
                  have e1 := hR (some (sMoves, 10), []) (by
                    rw [he, refW, if_pos hT, if_neg hnb, hnT, hLay2]
                    dsimp only
                    rw [if_pos hnm, if_neg (by rw [(take_all hall hx (by omega)).1]; exact Bool.false_ne_true)])
                  unfold RWriR
                  rw [e1]
                  exact ⟨rfl, rfl⟩
                · refine At.loop_on (j + 1) ⟨by omega, ?_⟩ (by omega) (Le.perm (by repeat' (first | exact FLe.nil _ | refine FLe.cons rfl rfl ?_)) (List.Perm.refl _))
                  rw [List.take_add_one, hx, List.all_append, hall]
                  have : x ≤ 3 := by omega
                  simp [this]
              · have hjm : j = m := by omega
                repeat' (first | refine KW.seq ?_ | refine KW.region ?_ | refine KO.nil ?_ | refine At.then_normal ?_ | refine KW.skip ?_ | refine KW.block ?_ | refine KW.exit ?_ | ((first | apply KO.val rfl rfl rfl ?kq ?_ ); (try (case ksub => (intro _ hp; first | exact hp | (cases hp; done) | (repeat (first | exact hp | apply List.mem_cons_of_mem | apply List.mem_append_right)) | (simp_all; done)))); (case kq => ((first | apply qt_ev rfl ?hi | ((first | apply qt_load1 rfl rfl ?hi rfl rfl ?hm ?hc ); (case hm => repeat (first | exact List.Mem.head _ | apply List.Mem.tail _ )); (case hc => rfl)) ); (case hi => (intro h; (repeat' (first | with_reducible exact alln | with_reducible refine allc ?_ ?_ )); all_goals (first | with_reducible rfl )))))) | (refine KW.cond rfl ?_ ?_ <;> (intro hc; try simp only [kBool] at hc)) | (exfalso; omega) | fail)
                refine KO.appendL (k := m) (news := by8 ms) [(bl, cl RV 86), (bf, cl [.int .i64 0, .string ByteArray.empty] 34), (br, cl [.int .i64 r.st, .int .i64 r.op, .int .u64 (r.tok : Int), .int .i64 r.unit, .int .i64 r.ax, .int .i64 r.ay, .int .i64 r.new, .int .i64 r.expl, .int .i64 r.ver, .bool r.hit, .int .u64 (r.cost : Int), .int .i64 r.settled, .int .i64 r.left, (.slice p m c), .int .i64 r.units, .int .i64 r.cache, .int .i64 r.sess] 48)] τ2 (by classical exact List.perm_iff_count.2 (fun _ => by first | (simp only [List.count_append, List.count_cons, List.count_nil, List.append_assoc, List.cons_append, List.nil_append]; done) )) rfl rfl rfl rfl rfl rfl rfl rfl rfl rfl (by decide) hu' (hp.mono (fun _ h => by cases h)) hpc (by8_one _) ?_ ?_ ?_
                · simp only [maxLen]; split at hlo <;> omega
                · split at hlo <;> omega
                rintro v5 φ5 hu5
                have e5 : by8 o2 ++ by8 ms = by8 (o2 ++ ms) := (by8_append _ _).symm
                have e6 : o2.length + m = (o2 ++ ms).length := by rw [List.length_append, hn]
                rw [e5, e6] at hu5
                obtain ⟨p5, c5, rfl⟩ := hu5.len
                repeat' (first | refine KW.region ?_ | refine KO.nil ?_ | ((first | apply KO.val rfl rfl rfl ?kq ?_ ); (try (case ksub => (intro _ hp; first | exact hp | (cases hp; done) | (repeat (first | exact hp | apply List.mem_cons_of_mem | apply List.mem_append_right)) | (simp_all; done)))); (case kq => ((first | ((first | apply qt_add rfl rfl rfl ?hi ?om ); (case om => (intro hg; first | omega ))) | apply qt_ev rfl ?hi ); (case hi => (intro h; (repeat' (first | with_reducible exact alln | with_reducible refine allc ?_ ?_ | with_reducible refine andi ?_ ?_)); all_goals (first | with_reducible rfl )))))) | fail)
                refine At.loop_on ⟨k + 1, o2 ++ ms, _, φ5⟩ ⟨by dsimp only; omega, by dsimp only; rw [← e6]; split <;> split at hlo <;> omega, ?_, hu5⟩ (by dsimp only; omega) (Le.perm (by repeat' (first | exact FLe.nil _ | refine FLe.cons rfl rfl ?_)) (List.Perm.refl _))
                refine he.trans ?_
                have hall2 : ms.all (fun x => decide (x ≤ 3)) = true := by rw [← hall, hjm, ← hn, List.take_length]
                rw [refW, if_pos hT, if_neg hnb, hnT, hLay2]
                dsimp only
                rw [if_pos hnm, if_pos hall2]
            · refine At.loop_on ⟨k + 1, o2, _, τ2⟩ ⟨by dsimp only; omega, by dsimp only; split <;> split at hlo <;> omega, ?_, hu'⟩ (by dsimp only; omega) (Le.permS (φ := [(bn, cl (uv (numsS r m w.name)) 22)]) (by repeat' (first | exact FLe.nil _ | refine FLe.cons rfl rfl ?_)) (by classical exact List.perm_iff_count.2 (fun _ => by first | (simp only [List.count_append, List.count_cons, List.count_nil, List.append_assoc, List.cons_append, List.nil_append]; omega))))
              refine he.trans ?_
              rw [refW, if_pos hT, if_neg hnb, hnT, hLay2]
              dsimp only
              have hnm : ¬ w.name = sMoves := hc
              rw [if_neg hnm]
      · have hj2 : k = 14 := by omega
        repeat' (first | refine KW.seq ?_ | refine KW.region ?_ | refine KO.nil ?_ | refine At.then_normal ?_ | refine KW.skip ?_ | refine KW.block ?_ | refine KW.exit ?_ | refine KW.drawU rfl (by decide +kernel) ?_ | ((first | apply KO.val rfl rfl rfl ?kq ?_ | apply KD.val rfl rfl rfl ?kq ?_ ); (try (case ksub => (intro _ hp; first | exact hp | (cases hp; done) | (repeat (first | exact hp | apply List.mem_cons_of_mem | apply List.mem_append_right)) | (simp_all; done)))); (case kq => ((first | apply qt_ev rfl ?hi | ((first | apply qt_load1 rfl rfl ?hi rfl rfl ?hm ?hc ); (case hm => repeat (first | exact List.Mem.head _ | apply List.Mem.tail _ )); (case hc => rfl)) ); (case hi => (intro h; (repeat' (first | with_reducible exact alln | with_reducible refine allc ?_ ?_ )); all_goals (first | with_reducible rfl )))))) | (refine KW.cond rfl ?_ ?_ <;> (intro hc; try simp only [kBool] at hc)) | (exfalso; omega) | fail)
        have he2 : refW (hasS r) (numsT r ms) ms tolds o0 = (none, o) := by rw [he, hj2]; rfl
        have e0 := hR _ he2
        refine KW.loop (fun j : Nat => j ≤ 14 ∧ refE2 (hasS r) (numsT r ms) (tolds.take j) = false) (fun j => ([(10, true, .int .i64 (j : Int)), (4, true, .slice pu3 o.length cu3), (7, true, .slice (some ⟨bl, 0, none⟩) 14 14), (3, true, .pointer (some ⟨bf, 0, none⟩)), (1, true, .pointer (some ⟨br, 0, none⟩))], (bl, cl RV 86) :: (bf, cl [.int .i64 0, .string ByteArray.empty] 34) :: (br, cl [.int .i64 r.st, .int .i64 r.op, .int .u64 (r.tok : Int), .int .i64 r.unit, .int .i64 r.ax, .int .i64 r.ay, .int .i64 r.new, .int .i64 r.expl, .int .i64 r.ver, .bool r.hit, .int .u64 (r.cost : Int), .int .i64 r.settled, .int .i64 r.left, (.slice p m c), .int .i64 r.units, .int .i64 r.cache, .int .i64 r.sess] 48) :: φ)) (fun j => 14 - j) 0
          ⟨Nat.zero_le _, rfl⟩ (Le.perm (by repeat' (first | exact FLe.nil _ | refine FLe.cons rfl rfl ?_)) (List.Perm.refl _)) ?_
        rintro j ⟨hj, hf⟩
        dsimp only
        by_cases hjn : j < 14
        · obtain ⟨w, hw⟩ : ∃ w, tolds[j]? = some w := ⟨_, List.getElem?_eq_getElem hjn⟩
          obtain ⟨hw1, hw2, hw3, hw4⟩ := tolds_ops w (List.mem_of_getElem? hw)
          have kr : ∀ σ', (bl, cl RV 86) ∈ σ' → ∀ j' v, (rowV w)[j']? = some v → Cel E.β σ' bl (0 + ((j : Nat) : Int).toNat * 4 + j') v := fun σ' h => celR (by rw [← hRV]; exact h) hw
          have hHas := fun σ => Has_p E.β σ w hw1 hw2 r.op
          obtain ⟨h, hh⟩ : ∃ h, h = hasR w.ops r.op := ⟨_, rfl⟩
          rw [← hh] at hHas
          have hhas : hasS r w = (b && h) := by unfold hasS; rw [hb, hh]
          have hnT : numsT r ms w = numsS r m w.name := by unfold numsT; rw [hn]
          have hfs : refE2 (hasS r) (numsT r ms) (tolds.take (j + 1)) = (!(b && h) && !nought (numsS r m w.name)) := by
            unfold refE2 at hf ⊢
            rw [List.take_add_one, hw, List.any_append, hf]
            simp [hhas, hnT]
          by_cases hbh : b = true ∧ h = true
          · obtain ⟨hb1, hh1⟩ := hbh
            rw [hb1, hh1] at hfs
            rw [hb1] at hbd
            rw [hh1] at hHas
            have htr := trivial
            repeat' (first | refine KW.seq ?_ | refine KW.region ?_ | refine KO.nil ?_ | refine At.then_normal ?_ | refine KW.skip ?_ | refine KW.ret ?_ | refine KW.block ?_ | refine KW.exit ?_ | refine KW.cond_f rfl (by first | with_reducible rfl ) ?_ | refine KW.draw (id := 28) 23 (by decide +kernel) ?_ | refine KD.zero ?_ | refine KD.skip' rfl (by first | decide) rfl rfl ?_ | refine KO.skip' rfl (by first | decide) rfl rfl ?_ | ((first | apply KO.val rfl rfl rfl ?kq ?_ | apply KD.val rfl rfl rfl ?kq ?_ ); (try (case ksub => (intro _ hp; first | exact hp | (cases hp; done) | (repeat (first | exact hp | apply List.mem_cons_of_mem | apply List.mem_append_right)) | (simp_all; done)))); (case kq => ((first | ((first | apply qt_add rfl rfl rfl ?hi ?om | apply qt_indexAddr_slice rfl rfl rfl ?hi rfl rfl ?om); (case om => (intro hg; first | omega ))) | apply qt_ev rfl ?hi | ((first | apply qt_load1 rfl rfl ?hi rfl rfl ?hm ?hc ); (case hm => repeat (first | exact List.Mem.head _ | apply List.Mem.tail _ )); (case hc => rfl)) | refine qt_callQ rfl rfl ?hi (fun hg => Tr.quiet hbd) | refine qt_callQ rfl rfl ?hi (fun hg => hHas _) | apply qt_pick_f rfl rfl (by first | decide) rfl ?hi | apply qt_build rfl rfl ?hi rfl ); (case hi => (intro h; (repeat' (first | with_reducible exact alln | with_reducible refine allc ?_ ?_ | with_reducible refine andi ?_ ?_)); all_goals (first | with_reducible rfl | with_reducible exact h | (simp [h]; done) )))))) | (apply KO.store (i := _) rfl rfl rfl rfl rfl rfl rfl rfl ?hl ?sg ?hw ?ho ?hs; (case sg => first | exact (rfl : getI 1 _ = _) ); (case hl => rfl); (case hw => rfl); (case ho => rfl); (case hs => rfl)) | (refine KW.cond rfl ?_ ?_ <;> (intro hc; try simp only [kBool] at hc)) | (exfalso; omega) | ((first | apply KD.val (g := true) rfl rfl rfl ); (first | (apply qt_loadN_cel rfl rfl ?hi rfl rfl rfl ?hl ?hc; (case hc => exact fun _ => (kr _ (List.Mem.head _))); (case hl => rfl)) ); (case hi => (first | exact fun _ => rfl ))) | fail)
            refine At.loop_on (j + 1) ⟨by omega, by rw [hfs]; rfl⟩ (by omega) (Le.perm (by repeat' (first | exact FLe.nil _ | refine FLe.cons rfl rfl ?_)) (List.Perm.refl _))
          · have hsk : (!b || !h) = true := by cases b <;> cases h <;> first | rfl | exact absurd ⟨rfl, rfl⟩ hbh
            have hsk2 : (b && h) = false := by cases b <;> cases h <;> first | rfl | exact absurd ⟨rfl, rfl⟩ hbh
            rw [hsk2] at hfs
            have htr := trivial
            repeat' (first | refine KW.seq ?_ | refine KW.region ?_ | refine KO.nil ?_ | refine At.then_normal ?_ | refine KW.skip ?_ | refine KW.ret ?_ | refine KW.block ?_ | refine KW.exit ?_ | refine KW.draw (id := 28) 23 (by decide +kernel) ?_ | refine KD.zero ?_ | ((first | apply KO.val rfl rfl rfl ?kq ?_ | apply KD.val rfl rfl rfl ?kq ?_ ); (try (case ksub => (intro _ hp; first | exact hp | (cases hp; done) | (repeat (first | exact hp | apply List.mem_cons_of_mem | apply List.mem_append_right)) | (simp_all; done)))); (case kq => ((first | ((first | apply qt_indexAddr_slice rfl rfl rfl ?hi rfl rfl ?om); (case om => (intro hg; first | omega ))) | apply qt_ev rfl ?hi | ((first | apply qt_load1 rfl rfl ?hi rfl rfl ?hm ?hc | apply qt_loadN rfl rfl ?hi rfl rfl rfl ?hm ?hc); (case hm => repeat (first | exact List.Mem.head _ | apply List.Mem.tail _ )); (case hc => rfl)) | refine qt_callQ rfl rfl ?hi (fun hg => Tr.quiet hbd) | refine qt_callQ rfl rfl ?hi (fun hg => hHas _) | ((first | apply qt_pick_or rfl rfl rfl ?hi ?pj); (case pj => (intro h h2; first | (rw [h2]; rfl) ))) | apply qt_build rfl rfl ?hi rfl ); (case hi => (intro h; (repeat' (first | with_reducible exact alln | with_reducible refine allc ?_ ?_ | with_reducible refine andi ?_ ?_)); all_goals (first | with_reducible rfl | with_reducible exact h )))))) | (apply KO.store (i := _) rfl rfl rfl rfl rfl rfl rfl rfl ?hl ?sg ?hw ?ho ?hs; (case sg => first | exact (rfl : getI 1 _ = _) ); (case hl => rfl); (case hw => rfl); (case ho => rfl); (case hs => rfl)) | (refine KW.cond rfl ?_ ?_ <;> (intro hc; try simp only [kBool] at hc)) | (exfalso; omega) | ((first | apply KD.val rfl rfl rfl ); (first | (apply qt_loadN_cel rfl rfl ?hi rfl rfl rfl ?hl ?hc; (case hc => exact fun _ => (kr _ (List.Mem.head _))); (case hl => rfl)) | (apply qt_load1_cel rfl rfl ?hi rfl rfl ?hc; (case hc => first | exact fun _ => (kr _ (List.Mem.head _) 0 _ rfl) ))); (case hi => (first | (intro h; first | exact h )))) | fail)
            refine KO.callF [] ((bl, cl RV 86) :: (bf, cl [.int .i64 0, .string ByteArray.empty] 34) :: (br, cl [.int .i64 r.st, .int .i64 r.op, .int .u64 (r.tok : Int), .int .i64 r.unit, .int .i64 r.ax, .int .i64 r.ay, .int .i64 r.new, .int .i64 r.expl, .int .i64 r.ver, .bool r.hit, .int .u64 (r.cost : Int), .int .i64 r.settled, .int .i64 r.left, (.slice p m c), .int .i64 r.units, .int .i64 r.cache, .int .i64 r.sess] 48) :: φ) (by classical exact List.perm_iff_count.2 (fun _ => by first | (simp only [List.count_append, List.count_cons, List.count_nil, List.append_assoc, List.cons_append, List.nil_append]; done) )) (congrArg some hsk) rfl rfl rfl rfl rfl (by show ((!b || !h) && ((!b || !h) && true)) = true; rw [hsk]; rfl) (hnum w.name) ?_
            rintro _ _ ⟨bn, rfl, rfl⟩
            have hNg := fun σ (hm : (bn, cl (uv (numsS r m w.name)) 22) ∈ σ) => nought_p E.β σ (numsS r m w.name) (some ⟨bn, 0, none⟩) (numsS r m w.name).length (numsS r m w.name).length rfl (SL.ofBlk hm (by simp [uv_len])) (by have := (numsS_lt hr (m := m) (by omega) w.name).2; omega)
            obtain ⟨zz, hzz⟩ : ∃ zz, zz = nought (numsS r m w.name) := ⟨_, rfl⟩
            rw [← hzz] at hNg hfs
            repeat' (first | refine KW.seq ?_ | refine KW.region ?_ | refine KO.nil ?_ | refine At.then_normal ?_ | refine KW.skip ?_ | refine KW.ret ?_ | refine At.then_ret ?_ | refine At.block_ret ?_ | refine At.loop_ret ?_ | ((first | apply KO.val rfl rfl rfl ?kq ?_ ); (try (case ksub => (intro _ hp; first | exact hp | (cases hp; done) | (repeat (first | exact hp | apply List.mem_cons_of_mem | apply List.mem_append_right)) | (simp_all; done)))); (case kq => ((first | ((first | apply qt_add rfl rfl rfl ?hi ?om ); (case om => (intro hg; first | omega ))) | apply qt_ev rfl ?hi | refine qt_callQ rfl rfl ?hi (fun hg => hNg _ (List.Mem.head _)) | ((first | apply qt_pick_and rfl rfl rfl ?hi ?pj ); (case pj => (intro h h2; first | with_reducible exact h2 ))) | apply qt_build rfl rfl ?hi rfl ); (case hi => (intro h; (repeat' (first | with_reducible exact alln | with_reducible refine allc ?_ ?_ | with_reducible refine andi ?_ ?_)); all_goals (first | with_reducible rfl | with_reducible exact h )))))) | (apply KO.store (i := _) rfl rfl rfl rfl rfl rfl rfl rfl ?hl ?sg ?hw ?ho ?hs; (case sg => first | exact (rfl : getI 2 _ = _) ); (case hl => rfl); (case hw => rfl); (case ho => rfl); (case hs => rfl)) | (refine KW.cond rfl ?_ ?_ <;> (intro hc; try simp only [kBool] at hc)) | fail)
            · ((first | apply At.done_ret ); (focus (repeat' (first | exact ResVs.nil' | apply ResVs.cons' | exact ResV.tmp' rfl | (apply ResV.cellN rfl ?hm rfl rfl rfl ?hc; (case hm => repeat (first | exact List.Mem.head _ | apply List.Mem.tail _ )); (case hc => rfl))))); dsimp only [resVal])
              refine ⟨[], List.nil_sublist _, ?_⟩
              have e2 : refE2 (hasS r) (numsT r ms) tolds = true := by
                have h1 : refE2 (hasS r) (numsT r ms) (tolds.take (j + 1)) = true := by
                  rw [hfs, hc.2]; rfl
                unfold refE2 at h1 ⊢
                obtain ⟨x, hx1, hx2⟩ := List.any_eq_true.1 h1
                exact List.any_eq_true.2 ⟨x, List.mem_of_mem_take hx1, hx2⟩
              unfold RWriR
              rw [e0, e2]
              exact ⟨rfl, rfl⟩
            · have hz1 : zz = true := by
                rcases hc with h1 | h1
                · exact absurd h1 hbh
                · exact h1
              refine At.loop_on (j + 1) ⟨by omega, by rw [hfs, hz1]; rfl⟩ (by omega) (Le.permS (φ := [(bn, cl (uv (numsS r m w.name)) 22)]) (by repeat' (first | exact FLe.nil _ | refine FLe.cons rfl rfl ?_)) (by classical exact List.perm_iff_count.2 (fun _ => by first | (simp only [List.count_append, List.count_cons, List.count_nil, List.append_assoc, List.cons_append, List.nil_append]; omega))))
        · have hj3 : j = 14 := by omega
          repeat' (first | refine KW.seq ?_ | refine KW.region ?_ | refine KO.nil ?_ | refine At.then_normal ?_ | refine KW.skip ?_ | refine KW.ret ?_ | refine KW.block ?_ | refine KW.exit ?_ | refine KW.draw (id := 28) 23 (by decide +kernel) ?_ | ((first | apply KO.val rfl rfl rfl ?kq ?_ | apply KD.val rfl rfl rfl ?kq ?_ ); (try (case ksub => (intro _ hp; first | exact hp | (cases hp; done) | (repeat (first | exact hp | apply List.mem_cons_of_mem | apply List.mem_append_right)) | (simp_all; done)))); (case kq => ((first | apply qt_ev rfl ?hi | ((first | apply qt_load1 rfl rfl ?hi rfl rfl ?hm ?hc ); (case hm => repeat (first | exact List.Mem.head _ | apply List.Mem.tail _ )); (case hc => rfl)) | apply qt_build rfl rfl ?hi rfl ); (case hi => (intro h; (repeat' (first | with_reducible exact alln | with_reducible refine allc ?_ ?_ )); all_goals (first | with_reducible rfl )))))) | (apply KO.store (i := _) rfl rfl rfl rfl rfl rfl rfl rfl ?hl ?sg ?hw ?ho ?hs; (case sg => first | exact (rfl : getI 1 _ = _) ); (case hl => rfl); (case hw => rfl); (case ho => rfl); (case hs => rfl)) | (refine KW.cond rfl ?_ ?_ <;> (intro hc; try simp only [kBool] at hc)) | (exfalso; omega) | fail)
          ((first | apply At.done_ret ); (focus (repeat' (first | exact ResVs.nil' | apply ResVs.cons' | exact ResV.tmp' rfl | (apply ResV.cellN rfl ?hm rfl rfl rfl ?hc; (case hm => repeat (first | exact List.Mem.head _ | apply List.Mem.tail _ )); (case hc => rfl))))); dsimp only [resVal])
          refine ⟨φ, List.Sublist.cons _ (List.Sublist.cons _ (List.Sublist.cons _ (List.Sublist.refl _))), ?_⟩
          rw [hj3, show tolds.take 14 = tolds from rfl] at hf
          unfold RWriR
          rw [e0, hf]
          exact ⟨_, φ, hu, rfl, rfl⟩
    · obtain ⟨e, he⟩ : ∃ e, e = opensE r.st r.op := ⟨_, rfl⟩
      have ho2 := ho
      rw [← he] at hop ho
      have htr := trivial
      repeat' (first | refine KW.seq ?_ | refine KW.region ?_ | refine KO.nil ?_ | refine At.then_normal ?_ | refine KW.skip ?_ | refine KW.ret ?_ | refine At.then_ret ?_ | refine KW.cond_f rfl (by first | decide) ?_ | ((first | apply KO.val rfl rfl rfl ?kq ?_ ); (try (case ksub => (intro _ hp; first | exact hp | (cases hp; done) | (repeat (first | exact hp | apply List.mem_cons_of_mem | apply List.mem_append_right)) | (simp_all; done)))); (case kq => ((first | apply qt_ev rfl ?hi | ((first | apply qt_load1 rfl rfl ?hi rfl rfl ?hm ?hc ); (case hm => repeat (first | exact List.Mem.head _ | apply List.Mem.tail _ )); (case hc => rfl)) | refine qt_callQ rfl rfl ?hi (fun hg => Tr.quiet hop) | apply qt_build rfl rfl ?hi rfl ); (case hi => (intro h; (repeat' (first | with_reducible exact alln | with_reducible refine allc ?_ ?_ )); all_goals (first | with_reducible rfl )))))) | (refine KO.buildSlice rfl rfl rfl rfl rfl rfl rfl rfl rfl rfl rfl rfl rfl rfl ?_; intro _ _) | (apply KO.store (i := _) rfl rfl rfl rfl rfl rfl rfl rfl ?hl ?sg ?hw ?ho ?hs; (case sg => first | exact (rfl : getI 0 _ = _) ); (case hl => rfl); (case hw => rfl); (case ho => rfl); (case hs => rfl)) | (refine KW.cond rfl ?_ ?_ <;> (intro hc; try simp only [kBool] at hc)) | (exfalso; omega) | fail)
      ((first | apply At.done_ret ); (focus (repeat' (first | exact ResVs.nil' | apply ResVs.cons' | exact ResV.tmp' rfl | (apply ResV.cellN rfl ?hm rfl rfl rfl ?hc; (case hm => repeat (first | exact List.Mem.head _ )); (case hc => rfl))))); dsimp only [resVal])
      refine ⟨[], List.nil_sublist _, ?_⟩
      unfold RWriR rWri
      rw [if_neg (fun h => h hst.1), if_pos ho2, he]
      exact ⟨rfl, rfl⟩
end Go.Proofs.YtnaclkdjchnbpaaDoor

/- A request's numbers; numbers laid. -/
import Derived.Test.YtnaclkdjchnbpaaDoorN4
namespace Go.Proofs.YtnaclkdjchnbpaaDoor
open Go Go.K

theorem numbers_p (β : Nat → Option Obj) (r : Rq) (n : ByteArray) :
    Go.K.Tr Tryd.prog 35 [.agg r.cells.toArray, .string n] β [] (fun v s => ∃ b, v = .slice (some ⟨b, 0, none⟩) (numsR r n).length (numsR r n).length ∧ s = [(b, cl (uv (numsR r n)) 22)]) := by
  refine Tr.sub ?_
  refine Tr.of_body Tryd.tt (args := [.agg r.cells.toArray, .string n]) (fr := [(0, true, .agg r.cells.toArray), (1, true, .string n)]) Tryd.func35 rfl (by decide) rfl Tryd.ntmps35 rfl rfl ?_
  intro E hE
  subst hE
  dsimp only [Rq.cells]
  repeat' (first | refine KW.seq ?_ | refine KW.region ?_ | refine KO.nil ?_ | refine At.then_normal ?_ | refine KW.skip ?_ | refine KW.ret ?_ | refine At.then_ret ?_ | refine KW.block ?_ | refine At.block_ret ?_ | ((first | apply KO.val rfl rfl rfl ?kq ?_); (case kq => ((first | apply qt_ev rfl ?hi | ((first | apply qt_load1 rfl rfl ?hi rfl rfl ?hm ?hc ); (case hm => repeat (first | exact List.Mem.head _ )); (case hc => rfl)) | apply qt_streq rfl rfl rfl ?hi ); (case hi => (intro h; (repeat' (first | with_reducible exact alln | with_reducible refine allc ?_ ?_ | with_reducible refine andi ?_ ?_)); all_goals (first | with_reducible rfl )))))) | (refine KO.box rfl rfl rfl rfl rfl rfl ?_; intro _ _) | (refine KO.buildSlice rfl rfl rfl rfl rfl rfl rfl rfl rfl rfl rfl rfl rfl rfl ?_; intro _ _) | (refine KW.cond rfl ?_ ?_ <;> (intro hc; try simp only [kBool] at hc)) | fail)
  · ((first | apply At.done_ret ); (focus (repeat' (first | exact ResVs.nil' | apply ResVs.cons' | exact ResV.tmp' rfl ))); dsimp only [resVal])
    rename_i b _
    obtain rfl : n = sOp := hc
    rw [nt1]
    exact ⟨[(b, _)], List.Sublist.cons_cons _ (List.nil_sublist _), b, rfl, by first | (simp only [u64_wrap]; rfl)⟩
  · ((first | apply At.done_ret ); (focus (repeat' (first | exact ResVs.nil' | apply ResVs.cons' | exact ResV.tmp' rfl ))); dsimp only [resVal])
    rename_i b _
    obtain rfl : n = sToken := hc
    rw [nt2]
    exact ⟨[(b, _)], List.Sublist.cons_cons _ (List.nil_sublist _), b, rfl, by first | rfl ⟩
  · ((first | apply At.done_ret ); (focus (repeat' (first | exact ResVs.nil' | apply ResVs.cons' | exact ResV.tmp' rfl ))); dsimp only [resVal])
    rename_i b _
    obtain rfl : n = sUnit := hc
    rw [nt3]
    exact ⟨[(b, _)], List.Sublist.cons_cons _ (List.nil_sublist _), b, rfl, by first | (simp only [u64_wrap]; rfl)⟩
  · ((first | apply At.done_ret ); (focus (repeat' (first | exact ResVs.nil' | apply ResVs.cons' | exact ResV.tmp' rfl ))); dsimp only [resVal])
    rename_i b _
    obtain rfl : n = sDir := hc
    rw [nt4]
    exact ⟨[(b, _)], List.Sublist.cons_cons _ (List.nil_sublist _), b, rfl, by first | (simp only [u64_wrap]; rfl)⟩
  · ((first | apply At.done_ret ); (focus (repeat' (first | exact ResVs.nil' | apply ResVs.cons' | exact ResV.tmp' rfl ))); dsimp only [resVal])
    rename_i b _
    obtain rfl : n = sFrom := hc
    rw [nt5]
    exact ⟨[(b, _)], List.Sublist.cons_cons _ (List.nil_sublist _), b, rfl, by first | (simp only [u64_wrap]; rfl)⟩
  · ((first | apply At.done_ret ); (focus (repeat' (first | exact ResVs.nil' | apply ResVs.cons' | exact ResV.tmp' rfl ))); dsimp only [resVal])
    rename_i b _
    have e : numsR r n = [u64 r.tx, u64 r.ty] := by
      unfold numsR
      simp only [sOp, sToken, sUnit, sDir, sFrom]
      simp only [*, if_false]
    rw [e]
    exact ⟨[(b, _)], List.Sublist.cons_cons _ (List.nil_sublist _), b, rfl, by first | (simp only [u64_wrap]; rfl)⟩
theorem layL_snoc (size : Nat) : ∀ (l l' xs : List Nat), layL size xs (l ++ l') = (layL size xs l).bind fun o => layL size o l'
  | [], l', xs => rfl
  | x :: l, l', xs => by
    rw [List.cons_append, layL, layL]
    split
    · exact layL_snoc size l l' _
    · rfl
theorem layL_len (size : Nat) : ∀ (l xs o : List Nat), layL size xs l = some o → o.length = xs.length + l.length * size
  | [], xs, o, h => by
    simp only [layL, Option.some.injEq] at h
    subst h; simp
  | x :: l, xs, o, h => by
    rw [layL] at h
    split at h
    · rw [layL_len size l _ o h, List.length_append, bes_len, List.length_cons, Nat.succ_mul]; omega
    · cases h
set_option maxHeartbeats 2000000 in
theorem lay_p (β : Nat → Option Obj) (size : Nat) (hs : size ≤ 8) (xs : List Nat) (v : Value) (φ : Heap) (hv : Vec 5 1 xs.length (by8 xs) v φ) (l : List Nat) (hU : ∀ x ∈ l, x < 18446744073709551616) (p : Option Addr) (n c : Nat) (hl : l.length = n) (hp : SL β [] 1 n (uv l) p) (hn : xs.length + n * 8 ≤ 1000000) :
    Go.K.Tr Tryd.prog 34 [v, .slice p n c, .int .i64 (size : Int)] β φ (fun z s => match layL size xs l with
      | none => z = .tuple #[.slice none 0 0, .bool false] ∧ s = []
      | some o => ∃ u φ', Vec 5 1 o.length (by8 o) u φ' ∧ z = .tuple #[u, .bool true] ∧ s = φ') := by
  refine Tr.sub ?_
  obtain ⟨pv, cv, rfl⟩ := hv.len
  refine Tr.of_body Tryd.tt (args := [.slice pv xs.length cv, .slice p n c, .int .i64 (size : Int)]) (fr := [(0, true, .slice pv xs.length cv), (1, true, .slice p n c), (2, true, .int .i64 (size : Int))]) Tryd.func34 rfl (by decide) rfl Tryd.ntmps34 rfl rfl ?_
  intro E hE
  subst hE
  repeat' (first | refine KW.seq ?_ | refine KW.region ?_ | refine KO.nil ?_ | refine At.then_normal ?_ | refine KW.block ?_ | ((first | apply KO.val rfl rfl rfl ?kq ?_); (case kq => ((first | apply qt_ev rfl ?hi ); (case hi => (intro h; (repeat' (first | with_reducible exact alln | with_reducible refine allc ?_ ?_ )); all_goals (first | with_reducible rfl )))))) | fail)
  refine KW.loop (fun s : S21 => s.k ≤ n ∧ ∃ o, layL size xs (l.take s.k) = some o ∧ Vec 5 1 o.length (by8 o) s.v s.φ) (fun s => ([(8, true, .int .i64 (s.k : Int)), (0, true, s.v), (1, true, .slice p n c), (2, true, .int .i64 (size : Int))], s.φ)) (fun s => n - s.k) ⟨0, _, φ⟩
    ⟨Nat.zero_le _, xs, rfl, hv⟩ (Le.sub (by repeat' (first | exact FLe.nil _ | refine FLe.cons rfl rfl ?_)) (List.Sublist.refl _)) ?_
  rintro ⟨k, u, φ⟩ ⟨hk, o, ho, hu⟩
  dsimp only at hk ho hu ⊢
  obtain ⟨pu, cu, rfl⟩ := hu.len
  by_cases hkn : k < n
  · obtain ⟨b1, o1, rfl, h1⟩ := hp.2 (by omega)
    obtain ⟨x, hx⟩ : ∃ z, l[k]? = some z := ⟨_, List.getElem?_eq_getElem (by omega)⟩
    have hxU := hU x (List.mem_of_getElem? hx)
    have hlen := layL_len size _ _ _ ho
    rw [List.length_take, Nat.min_eq_left (by omega)] at hlen
    have hks : k * size ≤ n * 8 := Nat.mul_le_mul (by omega) hs
    have hks2 : (k + 1) * size ≤ n * 8 := Nat.mul_le_mul (by omega) hs
    rw [Nat.succ_mul] at hks2
    repeat' (first | refine KW.seq ?_ | refine KW.region ?_ | refine KO.nil ?_ | refine At.then_normal ?_ | refine KW.skip ?_ | refine KW.ret ?_ | refine KW.block ?_ | refine KW.exit ?_ | ((first | apply KO.val rfl rfl rfl ?kq ?_); (case kq => ((first | ((first | apply qt_indexAddr_slice rfl rfl rfl ?hi rfl rfl ?om); (case om => (intro hg; first | omega ))) | apply qt_ev rfl ?hi ); (case hi => (intro h; (repeat' (first | with_reducible exact alln | with_reducible refine allc ?_ ?_ | with_reducible refine andi ?_ ?_)); all_goals (first | with_reducible rfl )))))) | (refine KW.cond rfl ?_ ?_ <;> (intro hc; try simp only [kBool] at hc)) | ((first | apply KO.val (g := true) rfl rfl rfl); (first | (apply qt_load1_cel rfl rfl ?hi rfl rfl ?hc; (case hc => first | exact fun _ => ((cuv h1 hx).mono (fun _ h => by cases h))))); (case hi => (first | exact fun _ => rfl ))) | (exfalso; omega) | fail)
    have hstep : layL size xs (l.take (k + 1)) = layL size o [x] := by
      rw [List.take_add_one, hx, layL_snoc, ho]; rfl
    refine KO.callF [] φ (by classical exact List.perm_iff_count.2 (fun _ => by first | (simp only [List.count_append, List.count_cons, List.count_nil, List.append_assoc, List.cons_append, List.nil_append]; done) )) rfl rfl rfl rfl rfl rfl rfl (rBytes_p x size hxU hs _) ?_
    rintro _ _ ⟨b, rfl, rfl⟩
    repeat' (first | refine KW.seq ?_ | refine KW.region ?_ | refine KO.nil ?_ | refine At.then_normal ?_ | refine KW.skip ?_ | refine KW.ret ?_ | refine At.then_ret ?_ | refine At.block_ret ?_ | refine At.loop_ret ?_ | ((first | apply KO.val rfl rfl rfl ?kq ?_); (case kq => ((first | apply qt_ev rfl ?hi ); (case hi => (intro h; (repeat' (first | with_reducible exact alln | with_reducible refine allc ?_ ?_ )); all_goals (first | with_reducible rfl )))))) | (refine KW.cond rfl ?_ ?_ <;> (intro hc; try simp only [kBool] at hc)) | fail)
    · ((first | apply At.done_ret ); (focus (repeat' (first | exact ResVs.nil' | apply ResVs.cons' | exact ResV.tmp' rfl ))); dsimp only [resVal])
      have hno : layL size xs l = none := by
        have e : layL size o [x] = none := by rw [layL, if_neg (by omega)]
        rw [← List.take_append_drop (k + 1) l, layL_snoc, hstep, e]; rfl
      rw [hno]
      exact ⟨[], List.nil_sublist _, rfl, rfl⟩
    · have hx0 : x / 2 ^ (8 * size) = 0 := by omega
      refine KO.appendF (k := size) (news := by8 (bes x size size)) [(b, cl (by8 (bes x size size)) 5)] φ (by classical exact List.perm_iff_count.2 (fun _ => by first | (simp only [List.count_append, List.count_cons, List.count_nil, List.append_assoc, List.cons_append, List.nil_append]; done) )) rfl rfl rfl rfl rfl rfl rfl rfl rfl rfl (by decide) hu (by rw [by8_len, bes_len, Nat.mul_one]) ?_ (by8_one _) ?_ ?_ ?_
      · intro j u hj
        exact .inl ⟨_, _, List.Mem.head _, by rw [Nat.zero_add]; exact hj⟩
      · simp only [maxLen]; omega
      · omega
      rintro v' φ' hv'
      have e1 : by8 o ++ by8 (bes x size size) = by8 (o ++ bes x size size) := (by8_append _ _).symm
      have e2 : o.length + size = (o ++ bes x size size).length := by rw [List.length_append, bes_len]
      rw [e1, e2] at hv'
      obtain ⟨p', c', rfl⟩ := hv'.len
      repeat' (first | refine KW.region ?_ | refine KO.nil ?_ | ((first | apply KO.val rfl rfl rfl ?kq ?_); (case kq => ((first | ((first | apply qt_add rfl rfl rfl ?hi ?om ); (case om => (intro hg; first | omega ))) | apply qt_ev rfl ?hi ); (case hi => (intro h; (repeat' (first | with_reducible exact alln | with_reducible refine allc ?_ ?_ | with_reducible refine andi ?_ ?_)); all_goals (first | with_reducible rfl )))))) | fail)
      refine At.loop_on ⟨k + 1, _, φ'⟩ ⟨by dsimp only; omega, _, ?_, hv'⟩ (by dsimp only; omega) (Le.sub (by repeat' (first | exact FLe.nil _ | refine FLe.cons rfl rfl ?_)) (List.Sublist.cons _ (List.Sublist.refl _)))
      rw [hstep, layL, if_pos hx0]; rfl
  · have hj2 : k = n := by omega
    repeat' (first | refine KW.seq ?_ | refine KW.region ?_ | refine KO.nil ?_ | refine At.then_normal ?_ | refine KW.skip ?_ | refine KW.ret ?_ | refine KW.block ?_ | refine KW.exit ?_ | ((first | apply KO.val rfl rfl rfl ?kq ?_); (case kq => ((first | apply qt_ev rfl ?hi ); (case hi => (intro h; (repeat' (first | with_reducible exact alln | with_reducible refine allc ?_ ?_ )); all_goals (first | with_reducible rfl )))))) | (refine KW.cond rfl ?_ ?_ <;> (intro hc; try simp only [kBool] at hc)) | (exfalso; omega) | fail)
    ((first | apply At.done_ret ); (focus (repeat' (first | exact ResVs.nil' | apply ResVs.cons' | exact ResV.tmp' rfl ))); dsimp only [resVal])
    rw [hj2, List.take_of_length_le (by omega)] at ho
    rw [ho]
    exact ⟨φ, List.Sublist.refl _, _, φ, hu, rfl, rfl⟩
end Go.Proofs.YtnaclkdjchnbpaaDoor

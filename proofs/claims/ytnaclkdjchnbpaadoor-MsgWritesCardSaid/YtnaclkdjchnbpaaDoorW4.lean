/- Wire: the document's numbers and frames; rows of bytes compared; the chapter's examples. -/
import Derived.Test.YtnaclkdjchnbpaaDoorW3
namespace Go.Proofs.YtnaclkdjchnbpaaDoor
open Go.K

theorem rNumber_p (β : Nat → Option Obj) (σ : Heap) (l1 : List Nat) (p : Option Addr) (c m : Nat) (hm : l1.length = m) (hB : Byt l1) (hp : SL β σ 1 m (by8 l1) p) (hb : m ≤ 8) :
    Go.K.Tr Tryd.prog 48 [.slice p m c] β σ (fun v σ' => v = .int .u64 ((num l1 : Nat) : Int) ∧ σ' = σ) := by
  refine Tr.of_body Tryd.tt (args := [.slice p m c]) (fr := [(0, true, .slice p m c)]) Tryd.func48 rfl (by decide) rfl Tryd.ntmps48 rfl rfl ?_
  intro E hE
  subst hE
  repeat' (first | refine KW.seq ?_ | refine KW.region ?_ | refine KO.nil ?_ | refine At.then_normal ?_ | refine KW.block ?_ | ((first | apply KO.val rfl rfl rfl ?kq ?_); (case kq => ((first | apply qt_ev rfl ?hi ); (case hi => (intro h; (repeat' (first | with_reducible exact alln | with_reducible refine allc ?_ ?_ )); all_goals (first | with_reducible rfl )))))) | fail)
  refine KW.loop (fun j : Nat => j ≤ m) (fun j => ([(4, true, .int .i64 (j : Int)), (3, true, .int .u64 ((num (l1.take j) : Nat) : Int)), (0, true, .slice p m c)], σ)) (fun j => m - j) 0
    (by omega) (Le.sub (FLe.cons rfl rfl (FLe.cons rfl rfl (FLe.cons rfl rfl (FLe.nil _)))) (List.Sublist.refl _)) ?_
  intro j hj
  dsimp only
  have hp1 := hp
  have hlt := num_lt j (l1.take j) (by rw [List.length_take]; omega) (hB.take j)
  have hlt2 : j < 8 → num (l1.take j) < 72057594037927936 := fun h => by
    have h2 : 256 ^ j ≤ 256 ^ 7 := Nat.pow_le_pow_right (by omega) (by omega)
    have h3 : (256 : Nat) ^ 7 = 72057594037927936 := by decide
    omega
  repeat' (first | refine KW.seq ?_ | refine KW.region ?_ | refine KO.nil ?_ | refine At.then_normal ?_ | refine KW.skip ?_ | refine KW.ret ?_ | refine KW.block ?_ | refine KW.exit ?_ | ((first | apply KO.val rfl rfl rfl ?kq ?_); (case kq => ((first | ((first | apply qt_add rfl rfl rfl ?hi ?om | apply qt_addU rfl rfl rfl ?hi ?om | apply qt_mulU rfl rfl rfl ?hi ?om | apply qt_convU rfl rfl rfl rfl ?hi ?om | apply qt_indexAddr_slice rfl rfl rfl ?hi rfl rfl ?om); (case om => (intro hg; first | omega ))) | apply qt_ev rfl ?hi ); (case hi => (intro h; (repeat' (first | with_reducible exact alln | with_reducible refine allc ?_ ?_ | with_reducible refine andi ?_ ?_)); all_goals (first | with_reducible rfl )))))) | (refine KW.cond rfl ?_ ?_ <;> (intro hc; try simp only [kBool] at hc)) | ((replace hlt2 := hlt2 (by omega)); (have hjn : (0 : Int) ≤ j ∧ (j : Int) < m := by omega); (obtain ⟨b1, o1, rfl, h1⟩ := hp.2 (by omega)); (obtain ⟨x, hx⟩ : ∃ z, l1[j]? = some z := ⟨_, List.getElem?_eq_getElem (by omega)⟩); (have hx256 : x < 256 := hB x (List.mem_of_getElem? hx)); clear hp1) | ((first | apply KO.val (g := true) rfl rfl rfl); (first | (apply qt_load1_cel rfl rfl ?hi rfl rfl ?hc; (case hc => first | exact fun _ => (cel8 h1 hx)))); (case hi => (first | exact fun _ => rfl ))) | fail)
  · refine At.loop_on (j + 1) (by omega) (by omega) (Le.sub (FLe.cons rfl rfl (FLe.cons rfl ?_ (FLe.cons rfl rfl (FLe.nil _)))) (List.Sublist.refl _))
    rw [List.take_add_one, hx]
    simp only [Option.toList_some]
    rw [num_snoc]
    congr 1
  · ((first | apply At.done_ret ); (focus (repeat' (first | exact ResVs.nil' | apply ResVs.cons' | exact ResV.tmp' rfl ))); dsimp only [resVal])
    have : j = m := by omega
    subst this
    rw [List.take_of_length_le (by omega)]
    exact ⟨rfl, rfl⟩

theorem bes_drop {X size t : Nat} (ht : t < size) : (bes X size size).drop (size - (t + 1)) = (X / 2 ^ (8 * t) % 256) :: (bes X size size).drop (size - t) := by
  have hl : size - (t + 1) < (bes X size size).length := by rw [bes_len]; omega
  rw [List.drop_eq_getElem_cons hl]
  have e1 : size - (t + 1) + 1 = size - t := by omega
  have e2 : (bes X size size)[size - (t + 1)] = X / 2 ^ (8 * t) % 256 := by
    simp only [bes, List.getElem_map, List.getElem_range]
    rw [show size - 1 - (size - (t + 1)) = t by omega]
  rw [e1, e2]
theorem rBytes_p (X size : Nat) (hX : X < 18446744073709551616) (hs : size ≤ 8) (β : Nat → Option Obj) :
    Go.K.Tr Tryd.prog 58 [.int .u64 X, .int .i64 size] β [] (fun v σ' => ∃ b, v = .tuple #[.slice (some ⟨b, 0, none⟩) size size, .bool (decide (X / 2 ^ (8 * size) = 0))] ∧ σ' = [(b, cl (by8 (bes X size size)) 5)]) := by
  refine Tr.of_body Tryd.tt (args := [.int .u64 X, .int .i64 size]) (fr := [(0, true, .int .u64 X), (1, true, .int .i64 size)]) Tryd.func58 rfl (by decide) rfl Tryd.ntmps58 rfl rfl ?_
  intro E hE
  subst hE
  repeat' (first | refine KW.seq ?_ | refine KW.region ?_ | refine KO.nil ?_ | ((first | apply KO.val rfl rfl rfl ?kq ?_); (case kq => ((first | apply qt_ev rfl ?hi ); (case hi => (intro h; (repeat' (first | with_reducible exact alln | with_reducible refine allc ?_ ?_ )); all_goals (first | with_reducible rfl )))))) | fail)
  refine KO.makeSlice rfl rfl rfl rfl rfl rfl rfl rfl rfl rfl rfl ⟨by omega, by omega⟩ ⟨by omega, by omega⟩ ?_
  intro b hb
  rw [Int.toNat_natCast, flat_rep]
  repeat' (first | refine KW.seq ?_ | refine KW.region ?_ | refine KO.nil ?_ | refine At.then_normal ?_ | refine KW.block ?_ | ((first | apply KO.val rfl rfl rfl ?kq ?_); (case kq => ((first | ((first | apply qt_sub rfl rfl rfl ?hi ?om ); (case om => (intro hg; first | omega ))) | apply qt_ev rfl ?hi ); (case hi => (intro h; (repeat' (first | with_reducible exact alln | with_reducible refine allc ?_ ?_ | with_reducible refine andi ?_ ?_)); all_goals (first | with_reducible rfl )))))) | fail)
  refine KW.loop (fun t : Nat => t ≤ size) (fun t => ([(7, true, .int .i64 ((size : Int) - 1 - (t : Int))), (6, true, .slice (some ⟨b, 0, none⟩) size size), (0, true, .int .u64 ((X / 2 ^ (8 * t) : Nat) : Int))], [(b, cl (List.replicate (size - t) (.int .u8 0) ++ by8 ((bes X size size).drop (size - t))) 5)])) (fun t => size - t) 0
    (by omega) ?_ ?_
  · refine Le.sub (FLe.cons rfl (by simp) (FLe.cons rfl rfl (FLe.cons rfl (by simp) (FLe.nil _)))) ?_
    rw [Nat.sub_zero, List.drop_of_length_le (by rw [bes_len]; omega)]
    simp [by8]
  intro t ht
  dsimp only
  obtain ⟨q, hqe⟩ : ∃ q, q = X / 2 ^ (8 * t) := ⟨_, rfl⟩
  have hq : q < 18446744073709551616 := by rw [hqe]; exact Nat.lt_of_le_of_lt (Nat.div_le_self _ _) hX
  rw [← hqe]
  repeat' (first | refine KW.seq ?_ | refine KW.region ?_ | refine KO.nil ?_ | refine At.then_normal ?_ | refine KW.skip ?_ | refine KW.ret ?_ | refine KW.block ?_ | refine KW.exit ?_ | ((first | apply KO.val rfl rfl rfl ?kq ?_); (case kq => ((first | ((first | apply qt_remN rfl rfl rfl ?hi ?om | apply qt_indexAddr_slice rfl rfl rfl ?hi rfl rfl ?om); (case om => (intro hg; first | omega ))) | apply qt_ev rfl ?hi ); (case hi => (intro h; (repeat' (first | with_reducible exact alln | with_reducible refine allc ?_ ?_ | with_reducible refine andi ?_ ?_)); all_goals (first | with_reducible rfl )))))) | (refine KW.cond rfl ?_ ?_ <;> (intro hc; try simp only [kBool] at hc)) | fail)
  · have ht1 : t < size := by omega
    have e1 : IntKind.u8.wrap ((q : Int) % 256) = ((q % 256 : Nat) : Int) := by
      rw [show (q : Int) % 256 = ((q % 256 : Nat) : Int) by omega, wrap_u8, Nat.mod_mod]
    have e2 : 0 + ((size : Int) - 1 - (t : Int)).toNat * 1 = size - (t + 1) := by omega
    rw [e1, e2]
    refine KO.storeW (i := 0) (cs' := List.replicate (size - (t + 1)) (.int .u8 0) ++ by8 ((bes X size size).drop (size - (t + 1)))) rfl rfl rfl rfl rfl rfl rfl rfl rfl rfl ?_ rfl ?_
    · refine ⟨?_, ?_⟩
      · simp only [List.length_append, List.length_replicate, List.length_cons, List.length_nil]; omega
      · rw [bes_drop ht1, ← hqe]
        have e3 : List.replicate (size - t) (Value.int .u8 0) = List.replicate (size - (t + 1)) (Value.int .u8 0) ++ [Value.int .u8 0] := by
          rw [show size - t = (size - (t + 1)) + 1 by omega, List.replicate_succ']
        rw [e3]
        have e4 : (List.replicate (size - (t + 1)) (Value.int .u8 0)).length = size - (t + 1) := List.length_replicate
        simp only [by8, List.map_cons, List.length_cons, List.length_nil, List.append_assoc]
        rw [List.take_left' e4]
        have e5 : List.drop (size - (t + 1) + (0 + 1)) (List.replicate (size - (t + 1)) (Value.int .u8 0) ++ ([Value.int .u8 0] ++ List.map (fun n : Nat => Value.int .u8 (n : Int)) (List.drop (size - t) (bes X size size)))) = List.map (fun n : Nat => Value.int .u8 (n : Int)) (List.drop (size - t) (bes X size size)) := by
          rw [← List.append_assoc]
          exact List.drop_left' (by simp)
        rw [e5]
        simp
    repeat' (first | refine KW.region ?_ | refine KO.nil ?_ | ((first | apply KO.val rfl rfl rfl ?kq ?_); (case kq => ((first | ((first | apply qt_sub rfl rfl rfl ?hi ?om | apply qt_quoU rfl rfl rfl ?hi ?om ); (case om => (intro hg; first | omega ))) | apply qt_ev rfl ?hi ); (case hi => (intro h; (repeat' (first | with_reducible exact alln | with_reducible refine allc ?_ ?_ | with_reducible refine andi ?_ ?_)); all_goals (first | with_reducible rfl )))))) | fail)
    refine At.loop_on (t + 1) (by omega) (by omega) (Le.sub (FLe.cons rfl (by congr 1; omega) (FLe.cons rfl rfl (FLe.cons rfl ?_ (FLe.nil _)))) (List.Sublist.refl _))
    rw [show 8 * (t + 1) = 8 * t + 8 by omega, Nat.pow_add, ← Nat.div_div_eq_div_mul, ← hqe]
    congr 1
  · ((first | apply At.done_ret ); (focus (repeat' (first | exact ResVs.nil' | apply ResVs.cons' | exact ResV.tmp' rfl ))); dsimp only [resVal])
    have ht1 : t = size := by omega
    subst ht1
    refine ⟨b, ?_, ?_⟩
    · rw [← hqe, show decide ((q : Int) = 0) = decide (q = 0) from by rw [decide_eq_decide]; omega]
    · simp

end Go.Proofs.YtnaclkdjchnbpaaDoor

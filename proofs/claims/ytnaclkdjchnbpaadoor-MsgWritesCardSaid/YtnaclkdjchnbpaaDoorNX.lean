/- The document's rows of responses, walked. -/
import Derived.Test.YtnaclkdjchnbpaaDoorN4
import Derived.Test.YtnaclkdjchnbpaaDoorNU
namespace Go.Proofs.YtnaclkdjchnbpaaDoor
open Go Go.K

theorem opens_p (β : Nat → Option Obj) (st op : Int) : Go.K.Tr Tryd.prog 40 [.int .i64 st, .int .i64 op] β [] (fun v s => v = .int .i64 (opensE st op) ∧ s = []) := by
  refine Tr.of_body Tryd.tt (args := [.int .i64 st, .int .i64 op]) (fr := [(0, true, .int .i64 st), (1, true, .int .i64 op)]) Tryd.func40 rfl (by decide) rfl Tryd.ntmps40 rfl rfl ?_
  intro E hE
  subst hE
  repeat' (first | refine KW.seq ?_ | refine KW.region ?_ | refine KO.nil ?_ | refine At.then_normal ?_ | refine KW.skip ?_ | refine KW.ret ?_ | refine At.then_ret ?_ | ((first | apply KO.val rfl rfl rfl ?kq ?_ | apply KO.valIn rfl rfl rfl ?kq ?_); (case kq => ((first | apply qt_ev rfl ?hi | ((first | apply qt_pick_and rfl rfl rfl ?hi ?pj | apply qt_pick_or rfl rfl rfl ?hi ?pj); (case pj => (intro h h2; first | with_reducible exact h2 | with_reducible exact andi h h2 | (rw [h2]; rfl) ))) ); (case hi => (intro h; (repeat' (first | with_reducible exact alln | with_reducible refine allc ?_ ?_ | with_reducible refine andi ?_ ?_)); all_goals (first | with_reducible rfl | with_reducible exact h | with_reducible exact andl h | with_reducible exact andr h )))))) | (refine KW.cond rfl ?_ ?_ <;> (intro hc; try simp only [kBool] at hc)) | fail)
  · ((first | apply At.done_ret ); (focus (repeat' (first | exact ResVs.nil' | apply ResVs.cons' | exact ResV.tmp' rfl ))); dsimp only [resVal])
    refine ⟨?_, rfl⟩
    unfold opensE
    rw [if_pos (by omega)]
  · ((first | apply At.done_ret ); (focus (repeat' (first | exact ResVs.nil' | apply ResVs.cons' | exact ResV.tmp' rfl ))); dsimp only [resVal])
    refine ⟨?_, rfl⟩
    unfold opensE
    rw [if_neg (by omega), if_pos (by omega)]
  · ((first | apply At.done_ret ); (focus (repeat' (first | exact ResVs.nil' | apply ResVs.cons' | exact ResV.tmp' rfl ))); dsimp only [resVal])
    refine ⟨?_, rfl⟩
    unfold opensE
    rw [if_neg (by omega), if_neg (by omega)]
theorem rBody_p (β : Nat → Option Obj) (st op : Int) : Go.K.Tr Tryd.prog 42 [.int .i64 st, .int .i64 op] β [] (fun v s => v = .bool (bodyR st op) ∧ s = []) := by
  refine Tr.of_body Tryd.tt (args := [.int .i64 st, .int .i64 op]) (fr := [(0, true, .int .i64 st), (1, true, .int .i64 op)]) Tryd.func42 rfl (by decide) rfl Tryd.ntmps42 rfl rfl ?_
  intro E hE
  subst hE
  repeat' (first | refine KW.seq ?_ | refine KW.region ?_ | refine KO.nil ?_ | refine At.then_normal ?_ | refine KW.ret ?_ | ((first | apply KO.val rfl rfl rfl ?kq ?_ | apply KO.valIn rfl rfl rfl ?kq ?_); (case kq => ((first | apply qt_ev rfl ?hi | ((first | apply qt_pick_and rfl rfl rfl ?hi ?pj | apply qt_pick_or rfl rfl rfl ?hi ?pj); (case pj => (intro h h2; first | with_reducible exact h2 | with_reducible exact andi h h2 | (rw [h, h2]; rfl) ))) ); (case hi => (intro h; (repeat' (first | with_reducible exact alln | with_reducible refine allc ?_ ?_ | with_reducible refine andi ?_ ?_)); all_goals (first | with_reducible rfl | with_reducible exact h | with_reducible exact andl h | with_reducible exact andr h | with_reducible exact andl (andl h) | (simp_all; done))))))) | fail)
  ((first | apply At.done_ret ); (focus (repeat' (first | exact ResVs.nil' | apply ResVs.cons' | exact ResV.tmp' rfl ))); dsimp only [resVal])
  exact ⟨rfl, rfl⟩
theorem Told_p (β : Nat → Option Obj) : Go.K.Tr Tryd.prog 41 [] β [] (fun v s => ∃ b, v = .slice (some ⟨b, 0, none⟩) 14 14 ∧ s = [(b, cl (rowsV tolds) 86)]) := by
  refine Tr.of_body Tryd.tt (args := []) (fr := []) Tryd.func41 rfl (by decide) rfl Tryd.ntmps41 rfl rfl ?_
  intro E hE
  subst hE
  repeat' (first | refine KW.seq ?_ | refine KW.region ?_ | refine KO.nil ?_ | refine At.then_normal ?_ | refine KW.ret ?_ | ((first | apply KO.val rfl rfl rfl ?kq ?_); (case kq => ((first | apply qt_ev rfl ?hi | apply qt_build rfl rfl ?hi rfl ); (case hi => (intro h; (repeat' (first | with_reducible exact alln | with_reducible refine allc ?_ ?_ )); all_goals (first | with_reducible rfl )))))) | (refine KO.buildSlice rfl rfl rfl rfl rfl rfl rfl rfl rfl rfl rfl rfl rfl rfl ?_; intro _ _) | fail)
  ((first | apply At.done_ret ); (focus (repeat' (first | exact ResVs.nil' | apply ResVs.cons' | exact ResV.tmp' rfl ))); dsimp only [resVal])
  rename_i b _
  exact ⟨b, rfl, rfl⟩
theorem rone_p (β : Nat → Option Obj) (b : Bool) : Go.K.Tr Tryd.prog 63 [.bool b] β [] (fun v s => v = .int .u64 (bit b : Int) ∧ s = []) := by
  cases b
  · have htr := trivial
    refine Tr.of_body Tryd.tt (args := [.bool false]) (fr := [(0, true, .bool false)]) Tryd.func63 rfl (by decide) rfl Tryd.ntmps63 rfl rfl ?_
    intro E hE
    subst hE
    repeat' (first | refine KW.seq ?_ | refine KW.region ?_ | refine KO.nil ?_ | refine At.then_normal ?_ | refine KW.skip ?_ | refine KW.ret ?_ | refine KW.cond_f rfl (by first | with_reducible rfl ) ?_ | ((first | apply KO.val rfl rfl rfl ?kq ?_); (case kq => ((first | apply qt_ev rfl ?hi ); (case hi => (intro h; (repeat' (first | with_reducible exact alln | with_reducible refine allc ?_ ?_ )); all_goals (first | with_reducible rfl )))))) | fail)
    ((first | apply At.done_ret ); (focus (repeat' (first | exact ResVs.nil' | apply ResVs.cons' | exact ResV.tmp' rfl ))); dsimp only [resVal])
    exact ⟨rfl, rfl⟩
  · have htr := trivial
    refine Tr.of_body Tryd.tt (args := [.bool true]) (fr := [(0, true, .bool true)]) Tryd.func63 rfl (by decide) rfl Tryd.ntmps63 rfl rfl ?_
    intro E hE
    subst hE
    repeat' (first | refine KW.seq ?_ | refine KW.region ?_ | refine KO.nil ?_ | refine At.then_normal ?_ | refine KW.ret ?_ | refine At.then_ret ?_ | refine KW.cond_t rfl (by first | with_reducible rfl ) ?_ | ((first | apply KO.val rfl rfl rfl ?kq ?_); (case kq => ((first | apply qt_ev rfl ?hi ); (case hi => (intro h; (repeat' (first | with_reducible exact alln | with_reducible refine allc ?_ ?_ )); all_goals (first | with_reducible rfl )))))) | fail)
    ((first | apply At.done_ret ); (focus (repeat' (first | exact ResVs.nil' | apply ResVs.cons' | exact ResV.tmp' rfl ))); dsimp only [resVal])
    exact ⟨rfl, rfl⟩
set_option maxHeartbeats 4000000 in
theorem numbersS_p (β : Nat → Option Obj) (r : Rs) (p : Option Addr) (m c : Nat) (hmv : r.mv = .slice p m c) (hm : m ≤ 1000000) (n : ByteArray) :
    Go.K.Tr Tryd.prog 43 [.agg r.cells.toArray, .string n] β [] (fun v s => ∃ b, v = .slice (some ⟨b, 0, none⟩) (numsS r m n).length (numsS r m n).length ∧ s = [(b, cl (uv (numsS r m n)) 22)]) := by
  refine Tr.sub ?_
  refine Tr.of_body Tryd.tt (args := [.agg r.cells.toArray, .string n]) (fr := [(0, true, .agg r.cells.toArray), (1, true, .string n)]) Tryd.func43 rfl (by decide) rfl Tryd.ntmps43 rfl rfl ?_
  intro E hE
  subst hE
  have hone := rone_p E.β r.hit
  dsimp only [Rs.cells]
  rw [hmv]
  repeat' (first | refine KW.seq ?_ | refine KW.region ?_ | refine KO.nil ?_ | refine At.then_normal ?_ | refine KW.skip ?_ | refine KW.ret ?_ | refine At.then_ret ?_ | refine KW.block ?_ | refine At.block_ret ?_ | ((first | apply KO.val rfl rfl rfl ?kq ?_); (case kq => ((first | ((first | apply qt_convU rfl rfl rfl rfl ?hi ?om); (case om => (intro hg; first | omega ))) | apply qt_ev rfl ?hi | ((first | apply qt_load1 rfl rfl ?hi rfl rfl ?hm ?hc ); (case hm => repeat (first | exact List.Mem.head _ )); (case hc => rfl)) | apply qt_streq rfl rfl rfl ?hi | refine qt_callQ rfl rfl ?hi (fun hg => Tr.quiet hone) ); (case hi => (intro h; (repeat' (first | with_reducible exact alln | with_reducible refine allc ?_ ?_ | with_reducible refine andi ?_ ?_)); all_goals (first | with_reducible rfl )))))) | (refine KO.box rfl rfl rfl rfl rfl rfl ?_; intro _ _) | (refine KO.buildSlice rfl rfl rfl rfl rfl rfl rfl rfl rfl rfl rfl rfl rfl rfl ?_; intro _ _) | (refine KW.cond rfl ?_ ?_ <;> (intro hc; try simp only [kBool] at hc)) | fail)
  · ((first | apply At.done_ret ); (focus (repeat' (first | exact ResVs.nil' | apply ResVs.cons' | exact ResV.tmp' rfl ))); dsimp only [resVal])
    rename_i b _
    obtain rfl : n = sToken := hc
    rw [ns_tok]
    refine ⟨[(b, _)], List.Sublist.cons_cons _ (List.nil_sublist _), b, rfl, ?_⟩
    first | rfl 
  · ((first | apply At.done_ret ); (focus (repeat' (first | exact ResVs.nil' | apply ResVs.cons' | exact ResV.tmp' rfl ))); dsimp only [resVal])
    rename_i b _
    obtain rfl : n = sUnit := hc
    rw [ns_1]
    refine ⟨[(b, _)], List.Sublist.cons_cons _ (List.nil_sublist _), b, rfl, ?_⟩
    first | (simp only [u64_wrap]; rfl) 
  · ((first | apply At.done_ret ); (focus (repeat' (first | exact ResVs.nil' | apply ResVs.cons' | exact ResV.tmp' rfl ))); dsimp only [resVal])
    rename_i b _
    obtain rfl : n = sAt := hc
    rw [ns_2]
    refine ⟨[(b, _)], List.Sublist.cons_cons _ (List.nil_sublist _), b, rfl, ?_⟩
    first | (simp only [u64_wrap]; rfl) 
  · ((first | apply At.done_ret ); (focus (repeat' (first | exact ResVs.nil' | apply ResVs.cons' | exact ResV.tmp' rfl ))); dsimp only [resVal])
    rename_i b _
    obtain rfl : n = sNew := hc
    rw [ns_3]
    refine ⟨[(b, _)], List.Sublist.cons_cons _ (List.nil_sublist _), b, rfl, ?_⟩
    first | (simp only [u64_wrap]; rfl) 
  · ((first | apply At.done_ret ); (focus (repeat' (first | exact ResVs.nil' | apply ResVs.cons' | exact ResV.tmp' rfl ))); dsimp only [resVal])
    rename_i b _
    obtain rfl : n = sExpl := hc
    rw [ns_4]
    refine ⟨[(b, _)], List.Sublist.cons_cons _ (List.nil_sublist _), b, rfl, ?_⟩
    first | (simp only [u64_wrap]; rfl) 
  · ((first | apply At.done_ret ); (focus (repeat' (first | exact ResVs.nil' | apply ResVs.cons' | exact ResV.tmp' rfl ))); dsimp only [resVal])
    rename_i b _
    obtain rfl : n = sVer := hc
    rw [ns_5]
    refine ⟨[(b, _)], List.Sublist.cons_cons _ (List.nil_sublist _), b, rfl, ?_⟩
    first | (simp only [u64_wrap]; rfl) 
  · ((first | apply At.done_ret ); (focus (repeat' (first | exact ResVs.nil' | apply ResVs.cons' | exact ResV.tmp' rfl ))); dsimp only [resVal])
    rename_i b _
    obtain rfl : n = sHit := hc
    rw [ns_6]
    refine ⟨[(b, _)], List.Sublist.cons_cons _ (List.nil_sublist _), b, rfl, ?_⟩
    first | rfl 
  · ((first | apply At.done_ret ); (focus (repeat' (first | exact ResVs.nil' | apply ResVs.cons' | exact ResV.tmp' rfl ))); dsimp only [resVal])
    rename_i b _
    obtain rfl : n = sCost := hc
    rw [ns_7]
    refine ⟨[(b, _)], List.Sublist.cons_cons _ (List.nil_sublist _), b, rfl, ?_⟩
    first | rfl 
  · ((first | apply At.done_ret ); (focus (repeat' (first | exact ResVs.nil' | apply ResVs.cons' | exact ResV.tmp' rfl ))); dsimp only [resVal])
    rename_i b _
    obtain rfl : n = sSettled := hc
    rw [ns_8]
    refine ⟨[(b, _)], List.Sublist.cons_cons _ (List.nil_sublist _), b, rfl, ?_⟩
    first | (simp only [u64_wrap]; rfl) 
  · ((first | apply At.done_ret ); (focus (repeat' (first | exact ResVs.nil' | apply ResVs.cons' | exact ResV.tmp' rfl ))); dsimp only [resVal])
    rename_i b _
    obtain rfl : n = sLeft := hc
    rw [ns_9]
    refine ⟨[(b, _)], List.Sublist.cons_cons _ (List.nil_sublist _), b, rfl, ?_⟩
    first | (simp only [u64_wrap]; rfl) 
  · ((first | apply At.done_ret ); (focus (repeat' (first | exact ResVs.nil' | apply ResVs.cons' | exact ResV.tmp' rfl ))); dsimp only [resVal])
    rename_i b _
    obtain rfl : n = sMoves := hc
    rw [ns_10]
    refine ⟨[(b, _)], List.Sublist.cons_cons _ (List.nil_sublist _), b, rfl, ?_⟩
    first | rfl 
  · ((first | apply At.done_ret ); (focus (repeat' (first | exact ResVs.nil' | apply ResVs.cons' | exact ResV.tmp' rfl ))); dsimp only [resVal])
    rename_i b _
    obtain rfl : n = sUnits := hc
    rw [ns_11]
    refine ⟨[(b, _)], List.Sublist.cons_cons _ (List.nil_sublist _), b, rfl, ?_⟩
    first | (simp only [u64_wrap]; rfl) 
  · ((first | apply At.done_ret ); (focus (repeat' (first | exact ResVs.nil' | apply ResVs.cons' | exact ResV.tmp' rfl ))); dsimp only [resVal])
    rename_i b _
    obtain rfl : n = sCache := hc
    rw [ns_12]
    refine ⟨[(b, _)], List.Sublist.cons_cons _ (List.nil_sublist _), b, rfl, ?_⟩
    first | (simp only [u64_wrap]; rfl) 
  · ((first | apply At.done_ret ); (focus (repeat' (first | exact ResVs.nil' | apply ResVs.cons' | exact ResV.tmp' rfl ))); dsimp only [resVal])
    rename_i b _
    have e : numsS r m n = [u64 r.sess] := by
      unfold numsS
      simp only [sToken, sUnit, sAt, sNew, sExpl, sVer, sHit, sCost, sSettled, sLeft, sMoves, sUnits, sCache]
      simp only [*, if_false]
    rw [e]
    exact ⟨[(b, _)], List.Sublist.cons_cons _ (List.nil_sublist _), b, rfl, by simp only [u64_wrap]; rfl⟩
theorem toldL_p (β : Nat → Option Obj) (r : Rs) (p : Option Addr) (m c : Nat) (hmv : r.mv = .slice p m c) : Go.K.Tr Tryd.prog 18 [.agg r.cells.toArray] β [] (fun v s => v = .agg r.cells.toArray ∧ s = []) := by
  refine Tr.sub ?_
  refine Tr.of_body Tryd.tt (args := [.agg r.cells.toArray]) (fr := [(0, true, .agg r.cells.toArray)]) Tryd.func18 rfl (by decide) rfl Tryd.ntmps18 rfl rfl ?_
  intro E hE
  subst hE
  dsimp only [Rs.cells]
  rw [hmv]
  repeat' (first | refine KW.seq ?_ | refine KW.region ?_ | refine KO.nil ?_ | refine At.then_normal ?_ | refine KW.ret ?_ | ((first | apply KO.val rfl rfl rfl ?kq ?_); (case kq => ((first | apply qt_ev rfl ?hi | ((first | apply qt_load1 rfl rfl ?hi rfl rfl ?hm ?hc | apply qt_loadN rfl rfl ?hi rfl rfl rfl ?hm ?hc); (case hm => repeat (first | exact List.Mem.head _ | apply List.Mem.tail _ )); (case hc => rfl)) | apply qt_build rfl rfl ?hi rfl ); (case hi => (intro h; (repeat' (first | with_reducible exact alln | with_reducible refine allc ?_ ?_ )); all_goals (first | with_reducible rfl )))))) | (refine KO.box rfl rfl rfl rfl rfl rfl ?_; intro _ _) | (refine KO.alloc rfl rfl rfl rfl rfl rfl ?_; intro _ _) | (apply KO.store (i := _) rfl rfl rfl rfl rfl rfl rfl rfl ?hl ?sg ?hw ?ho ?hs; (case sg => first | exact (rfl : getI 0 _ = _) ); (case hl => rfl); (case hw => rfl); (case ho => rfl); (case hs => rfl)) | fail)
  ((first | apply At.done_ret ); (focus (repeat' (first | exact ResVs.nil' | apply ResVs.cons' | (apply ResV.cellN rfl ?hm rfl rfl rfl ?hc; (case hm => repeat (first | exact List.Mem.head _ )); (case hc => rfl))))); dsimp only [resVal])
  exact ⟨[], List.nil_sublist _, rfl, rfl⟩
end Go.Proofs.YtnaclkdjchnbpaaDoor

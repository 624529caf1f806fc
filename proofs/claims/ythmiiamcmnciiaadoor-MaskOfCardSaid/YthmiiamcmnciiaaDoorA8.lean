/- MaskOf: the law. -/
import Derived.Test.YthmiiamcmnciiaaDoorA7
namespace Go.Proofs.YthmiiamcmnciiaaDoor
open Go Go.K Go.ChangeShapes Go.WideShapes Go.ChangeAt Go.RowKit

theorem MaskOf_c (β : Nat → Option Obj) (ht : TB β) (vs : List Value) (hrd : RdVs Tryd.prog β [23, 46] vs) : Go.K.PureB Tryd.prog 4 vs.toArray β (.bool true) := by
  obtain ⟨va0, vr0, rfl, ha0, hrd⟩ := hrd.cons
  obtain ⟨va1, vr1, rfl, ha1, hrd⟩ := hrd.cons
  obtain rfl := hrd.nil
  obtain ⟨vc0, rfl, hq0⟩ := rdV_agg (k := 8) (ts := [3, 3]) ha0 (by kernel_rfl) (by kernel_rfl)
  obtain ⟨vl0_0, vm0_0, rfl, hl0_0, hq0⟩ := hq0.cons
  obtain ⟨vl0_1, vm0_1, rfl, hl0_1, hq0⟩ := hq0.cons
  obtain rfl := hq0.nil
  obtain ⟨w, rfl, hb_w⟩ := rd_i64 Tryd.underlying3 hl0_0
  obtain ⟨h, rfl, hb_h⟩ := rd_i64 Tryd.underlying3 hl0_1
  have hq1 := rdV_one ha1 (by kernel_rfl)
  obtain ⟨b_p, b_m, b_c, b, rfl, hb_b⟩ := rd_bytes Tryd.underlying46 Tryd.underlying5 (by kernel_rfl) (by kernel_rfl) (by kernel_rfl) hq1
  exact MaskOf_p β ht w h b_p b_m b_c b hb_b.len hb_b.sl hb_b.byt
set_option maxRecDepth 100000 in
theorem MaskOf_lifted (os : Os) (started : os.Started) (H : Type) (enc : TypeId × Value → H) :
    ReturnsInHanded {} Tryd.checked os 4 .any (fun w args => (Rows.maskOfSpec.pre enc Tryd.prog Tryd.f4 [] false w args ∧ laidMetH Tryd.prog laidL w) ∧ sizedMet enc Tryd.prog Tryd.f4 (OpenSpec.ofChange Rows.maskOfSpec) false w args) (Rows.maskOfSpec.post enc Tryd.prog Tryd.f4 false true false false) :=
  law_liftL (C := Tryd.checked) (laid := laidL) (Tb := TB) Tryd.own started (by kernel_rfl) Tryd.func4
    (ChangeSpec.witness_shaped (enc := enc) (C := Tryd.checked) (os := os) (X := fun w _ => laidMetH Tryd.prog laidL w) false (World.doorLaid Tryd.prog 400 os) #[.agg #[.int .i64 0, .int .i64 0], .slice none 0 0] 8 rfl (World.shaped_of_RefB (by kernel_rfl) (by kernel_rfl)) (by kernel_rfl) (by kernel_rfl) (by kernel_rfl) (door_met os _))
    Tryd.laidOut rfl (by kernel_rfl) (by kernel_rfl) rfl Tryd.underlying4
    (fun ds h => by
      have h' : ds.length = 2 := h
      match ds, h' with
      | [_, _], _ => rfl)
    tb_of (fun β vs h ht => MaskOf_c β ht vs h)

theorem MaskOf_holds : Rows.MaskOfSaid :=
  OpenClaim.holds_of_wide 4 Tryd.f4 rfl rfl rfl rfl rfl rfl rfl ⟨rfl, rfl, rfl, rfl, rfl⟩ rfl rfl rfl rfl rfl (by kernel_rfl) Tryd.func4 (by kernel_rfl)
    (of_decide_eq_true (by kernel_rfl)) (by unfold Func.isWrapper; first | (rw [if_pos (by decide +kernel)]; kernel_rfl) | (rw [if_neg (by decide +kernel)]; exact ⟨rfl, rfl⟩))
    (fun os started H enc _ => MaskOf_lifted os started H enc)
theorem MaskOf_card : Rows.MaskOfCardSaid :=
  Claim7.holds_tied_plain_at .later [] [.data] true (true, "b0810f15a27d109111e19866f7d966d8ed96bdba603b4ebbfd88ebf4e0a117c6") false
    MaskOf_holds (fun _ h => by cases h) (by kernel_rfl) (fun _ h => by cases h) maskOf_row_tie rfl ⟨rfl, rfl⟩ (by kernel_rfl) rfl
    (fun f fn hf hfn => by
      obtain rfl : f = 4 := Option.some.inj ((show Tryd.prog.funcNamed "gloaming/gloaminglaw02.MaskOf" = some 4 by kernel_rfl).symm.trans hf) |>.symm
      obtain rfl : fn = Tryd.f4 := (Option.some.inj (Tryd.func4.symm.trans hfn)).symm
      refine ⟨by kernel_rfl, fun j t ht => ?_⟩
      rw [Tryd.params4] at ht
      have hall : ([23, 46].all fun t => !Tryd.prog.wantsStandIn t) = true := by kernel_rfl
      have hm : t ∈ [23, 46] := by have := Array.mem_of_getElem? ht; simpa using this
      have := List.all_eq_true.1 hall t hm
      have h5 : Tryd.prog.wantsStandIn t = false := by simpa using this
      exact h5)
    (by kernel_rfl)
end Go.Proofs.YthmiiamcmnciiaaDoor

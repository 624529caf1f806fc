/- MaskLaws: the law. -/
import Derived.Test.YthmiiamcmnciiaaDoorAC
import Derived.Test.YthmiiamcmnciiaaDoorLT
import Derived.Test.YthmiiamcmnciiaaDoorAR
namespace Go.Proofs.YthmiiamcmnciiaaDoor
open Go Go.K Go.ChangeShapes Go.WideShapes Go.ChangeAt Go.RowKit

theorem MaskLaws_c (β : Nat → Option Obj) (ht : TB β) (vs : List Value) (hrd : RdVs Tryd.prog β [23, 53] vs) : Go.K.PureB Tryd.prog 5 vs.toArray β (.bool true) := by
  obtain ⟨va0, vr0, rfl, ha0, hrd⟩ := hrd.cons
  obtain ⟨va1, vr1, rfl, ha1, hrd⟩ := hrd.cons
  obtain rfl := hrd.nil
  obtain ⟨vc0, rfl, hq0⟩ := rdV_agg (k := 8) (ts := [3, 3]) ha0 (by kernel_rfl) (by kernel_rfl)
  obtain ⟨vl0_0, vm0_0, rfl, hl0_0, hq0⟩ := hq0.cons
  obtain ⟨vl0_1, vm0_1, rfl, hl0_1, hq0⟩ := hq0.cons
  obtain rfl := hq0.nil
  obtain ⟨w, rfl, hb_w⟩ := rd_i64 Tryd.underlying3 hl0_0
  obtain ⟨h, rfl, hb_h⟩ := rd_i64 Tryd.underlying3 hl0_1
  obtain ⟨vc1, rfl, hq1⟩ := rdV_agg (k := 8) (ts := [40, 40, 40]) ha1 (by kernel_rfl) (by kernel_rfl)
  obtain ⟨vl1_0, vm1_0, rfl, hl1_0, hq1⟩ := hq1.cons
  obtain ⟨vl1_1, vm1_1, rfl, hl1_1, hq1⟩ := hq1.cons
  obtain ⟨vl1_2, vm1_2, rfl, hl1_2, hq1⟩ := hq1.cons
  obtain rfl := hq1.nil
  obtain ⟨la_p, la_m, la_c, la_xs, rfl, hs_la, he_la⟩ := rd_slice (k := 8) (ts := [3, 3]) Tryd.underlying40 (by kernel_rfl) (by kernel_rfl) hl1_0
  obtain ⟨lb_p, lb_m, lb_c, lb_xs, rfl, hs_lb, he_lb⟩ := rd_slice (k := 8) (ts := [3, 3]) Tryd.underlying40 (by kernel_rfl) (by kernel_rfl) hl1_1
  obtain ⟨lc_p, lc_m, lc_c, lc_xs, rfl, hs_lc, he_lc⟩ := rd_slice (k := 8) (ts := [3, 3]) Tryd.underlying40 (by kernel_rfl) (by kernel_rfl) hl1_2
  obtain ⟨pa, hpa⟩ := rd_pairs (P := Tryd.prog) Tryd.underlying3 Tryd.underlying3 hs_la he_la
  obtain ⟨pb, hpb⟩ := rd_pairs (P := Tryd.prog) Tryd.underlying3 Tryd.underlying3 hs_lb he_lb
  obtain ⟨pc, hpc⟩ := rd_pairs (P := Tryd.prog) Tryd.underlying3 Tryd.underlying3 hs_lc he_lc
  exact MaskLaws_p β ht w h la_p lb_p lc_p la_m la_c lb_m lb_c lc_m lc_c pa pb pc hpa.len hpb.len hpc.len hpa.sl hpb.sl hpc.sl
set_option maxRecDepth 100000 in
theorem MaskLaws_lifted (os : Os) (started : os.Started) (H : Type) (enc : TypeId × Value → H) :
    ReturnsInHanded {} Tryd.checked os 5 .any (fun w args => (Rows.maskLawsSpec.pre enc Tryd.prog Tryd.f5 [] false w args ∧ laidMetH Tryd.prog laidL w) ∧ sizedMet enc Tryd.prog Tryd.f5 (OpenSpec.ofChange Rows.maskLawsSpec) false w args) (Rows.maskLawsSpec.post enc Tryd.prog Tryd.f5 false true false false) :=
  law_liftL (C := Tryd.checked) (laid := laidL) (Tb := TB) Tryd.own started (by kernel_rfl) Tryd.func5
    (ChangeSpec.witness_shaped (enc := enc) (C := Tryd.checked) (os := os) (X := fun w _ => laidMetH Tryd.prog laidL w) false (World.doorLaid Tryd.prog 400 os) #[.agg #[.int .i64 0, .int .i64 0], .agg #[.slice none 0 0, .slice none 0 0, .slice none 0 0]] 8 rfl (World.shaped_of_RefB (by kernel_rfl) (by kernel_rfl)) (by kernel_rfl) (by kernel_rfl) (by kernel_rfl) (door_met os _))
    Tryd.laidOut rfl (by kernel_rfl) (by kernel_rfl) rfl Tryd.underlying4
    (fun ds h => by
      have h' : ds.length = 2 := h
      match ds, h' with
      | [_, _], _ => rfl)
    tb_of (fun β vs h ht => MaskLaws_c β ht vs h)

theorem MaskLaws_holds : Rows.MaskLawsSaid :=
  OpenClaim.holds_of_wide 5 Tryd.f5 rfl rfl rfl rfl rfl rfl rfl ⟨rfl, rfl, rfl, rfl, rfl⟩ rfl rfl rfl rfl rfl (by kernel_rfl) Tryd.func5 (by kernel_rfl)
    (of_decide_eq_true (by kernel_rfl)) (by unfold Func.isWrapper; first | (rw [if_pos (by decide +kernel)]; kernel_rfl) | (rw [if_neg (by decide +kernel)]; exact ⟨rfl, rfl⟩))
    (fun os started H enc _ => MaskLaws_lifted os started H enc)
theorem MaskLaws_card : Rows.MaskLawsCardSaid :=
  Claim7.holds_tied_plain_at .later [] [.data] true (true, "b0810f15a27d109111e19866f7d966d8ed96bdba603b4ebbfd88ebf4e0a117c6") false
    MaskLaws_holds (fun _ h => by cases h) (by kernel_rfl) (fun _ h => by cases h) maskLaws_row_tie rfl ⟨rfl, rfl⟩ (by kernel_rfl) rfl
    (fun f fn hf hfn => by
      obtain rfl : f = 5 := Option.some.inj ((show Tryd.prog.funcNamed "gloaming/gloaminglaw02.MaskLaws" = some 5 by kernel_rfl).symm.trans hf) |>.symm
      obtain rfl : fn = Tryd.f5 := (Option.some.inj (Tryd.func5.symm.trans hfn)).symm
      refine ⟨by kernel_rfl, fun j t ht => ?_⟩
      rw [Tryd.params5] at ht
      have hall : ([23, 53].all fun t => !Tryd.prog.wantsStandIn t) = true := by kernel_rfl
      have hm : t ∈ [23, 53] := by have := Array.mem_of_getElem? ht; simpa using this
      have := List.all_eq_true.1 hall t hm
      have h5 : Tryd.prog.wantsStandIn t = false := by simpa using this
      exact h5)
    (by kernel_rfl)
end Go.Proofs.YthmiiamcmnciiaaDoor

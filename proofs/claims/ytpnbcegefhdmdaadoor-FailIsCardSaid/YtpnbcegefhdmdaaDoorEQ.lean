/- FailIs: Has is what errors.Is tells. -/
import Derived.Test.YtpnbcegefhdmdaaDoorEP
namespace Go.Proofs.YtpnbcegefhdmdaaDoor
open Go Go.K Go.Extern Go.ChangeShapes Go.WideShapes Go.ChangeAt Go.RowKit

theorem Is_v {β : Nat → Option Obj} {t : ErrT} {T : TypeId} {u : Value} {c : Int} (hv : t.val = .iface T u) (ht : t.Lies β []) : Go.K.Tr Tryd.prog 30 [.iface T u, .iface 23 (.int .i64 c)] β [] (fun v σ' => v = .bool (decide (c ∈ t.codes)) ∧ σ' = []) := hv ▸ Is_p β c t ht
theorem Has_v {β : Nat → Option Obj} {t : ErrT} {T : TypeId} {u : Value} {c : Int} (hv : t.val = .iface T u) (ht : t.Lies β []) : Go.K.Tr Tryd.prog 22 [.iface T u, .int .i64 c] β [] (fun v σ' => v = .bool (decide (c ∈ t.codes)) ∧ σ' = []) := hv ▸ Has_p β c t ht
set_option maxRecDepth 4000 in
set_option maxHeartbeats 16000000 in
theorem FailIs_p (β : Nat → Option Obj) (ht : TB β) (q : Option Addr) (n d : Nat) (ls : List NodeV) (hl : NodesR β ls q n) (c : Int) :
    Go.K.PureB Tryd.prog 8 #[.slice q n d, .int .i64 c] β (.bool true) := by
  refine Tr.pureB ?_
  refine Tr.of_body Tryd.tt (args := [.slice q n d, .int .i64 c]) (fr := [(0, true, .slice q n d), (1, true, .int .i64 c)]) Tryd.func8 rfl (by decide) rfl Tryd.ntmps8 rfl rfl ?_
  intro E hE
  subst hE
  have hawk := awake_p E.β ht
  have hsm := Small_p E.β ls q n d hl
  obtain ⟨S, hS⟩ : ∃ S, S = smallB ls := ⟨_, rfl⟩
  rw [← hS] at hsm
  repeat' (first | refine KW.seq ?_ | refine KW.region ?_ | refine KO.nil ?_ | refine At.then_normal ?_ | refine KW.skip ?_ | refine KW.ret ?_ | refine At.then_ret ?_ | refine KW.block ?_ | refine KW.exit ?_ | refine At.block_normal ?_ | refine At.block_ret ?_ | refine At.loop_ret ?_ | refine At.then_exit ?_ | refine At.block_here rfl ?_ | refine At.block_there rfl ?_ | refine At.loop_exit ?_ | refine At.cut_ret ?_ | refine At.cutA_ret ?_ | refine At.cutA_exit ?_ | refine At.cut_exit ?_ | (refine At.cut_same ?_; repeat' (first | exact FLe.nil _ | refine FLe.cons rfl rfl ?_)) | refine KW.cond_t rfl (by first | with_reducible rfl | decide) ?_ | refine KW.cond_f rfl (by first | with_reducible rfl | decide) ?_ | refine KW.scope ?_ | refine KW.label ?_ | refine At.scope_normal ?_ | refine At.scope_ret ?_ | refine At.scope_exit ?_ | refine KO.skip' rfl (by first | with_reducible rfl | decide) rfl rfl ?_ | refine KO.skip0' rfl (by first | with_reducible rfl | decide) rfl ?_ | refine KO.skipIn rfl (by first | with_reducible rfl | decide) rfl rfl ?_ | ((first | apply KO.val rfl rfl rfl ?kq ?_ | apply KO.valIn rfl rfl rfl ?kq ?_); (case kq => ((first | ((first | apply qt_sub rfl rfl rfl ?hi ?om | apply qt_indexAddr_arr rfl rfl rfl ?hi rfl rfl ?om | apply qt_indexAddr_slice rfl rfl rfl ?hi rfl rfl ?om); (case om => (intro hg; first | omega | (simp only [kBool] at hg; omega)))) | apply qt_ev rfl ?hi | ((first | apply qt_load1 rfl rfl ?hi rfl rfl ?hm ?hc | apply qt_loadN rfl rfl ?hi rfl rfl rfl ?hm ?hc); (case hm => repeat (first | exact List.Mem.head _ | apply List.Mem.tail _ | apply List.mem_append_right _)); (case hc => rfl)) | refine qt_callQ rfl rfl ?hi (fun hg => Tr.quiet hsm) | refine qt_callQ rfl rfl ?hi (fun hg => Tr.quiet hawk) | apply qt_pick_t rfl rfl (by first | with_reducible rfl | decide) rfl ?hi | apply qt_pick_f rfl rfl (by first | with_reducible rfl | decide) rfl ?hi | ((first | apply qt_pick_and rfl rfl rfl ?hi ?pj | apply qt_pick_or rfl rfl rfl ?hi ?pj); (case pj => (intro h h2; first | with_reducible exact h2 | with_reducible exact andi h h2 | (rw [h2]; rfl) | (rw [h, h2]; rfl) | with_reducible rfl | (simp [h2]; done) | (simp_all; done)))) | apply qt_cap rfl rfl ?hi rfl | apply qt_eqs rfl rfl rfl ?hi rfl (Or.inl rfl) | apply qt_nes rfl rfl rfl ?hi rfl (Or.inl rfl)); (case hi => (intro h; (repeat' (first | with_reducible exact alln | with_reducible refine allc ?_ ?_ | with_reducible refine andi ?_ ?_)); all_goals (first | with_reducible rfl | with_reducible exact h | with_reducible exact andl h | with_reducible exact andr h | with_reducible exact andl (andl h) | (simp only [h, Bool.and_self]; done) | (simp [h]; done) | (simp_all; done))))))) | (refine KW.cond rfl ?_ ?_ <;> (intro hc; try simp only [kBool] at hc)) | exact absurd trivial ‹¬True› | fail)
  · ((first | apply At.done_ret | apply At.done_normal); (focus (repeat' (first | exact ResVs.nil' | apply ResVs.cons' | exact ResV.tmp' rfl | (apply ResV.cell1 rfl ?hm rfl rfl ?hc; (case hm => repeat (first | exact List.Mem.head _ | apply List.Mem.tail _ | apply List.mem_append_right _)); (case hc => rfl)) | (apply ResV.cellN rfl ?hm rfl rfl rfl ?hc; (case hm => repeat (first | exact List.Mem.head _ | apply List.Mem.tail _ | apply List.mem_append_right _)); (case hc => rfl))))); dsimp only [resVal])
  have hlen := hl.len
  obtain ⟨hn60, hop, hrun, hn0⟩ := small_ok (hS.symm.trans hc)
  rw [hlen] at hn60 hn0
  refine KO.callE rfl rfl rfl rfl rfl rfl rfl rfl (made_p _ ls q n d hl hn60 hrun) ?_
  rintro _ _ ⟨ts, EH, φ, hz, rfl, hM⟩
  rw [List.append_nil]
  obtain ⟨pz, cz, rfl⟩ := hz.len
  obtain ⟨t, ht1, htl, hts, hsh⟩ := hM.last (by omega)
  rw [hlen] at ht1 hsh
  obtain ⟨T, u, hv⟩ := t.val_iface
  obtain ⟨bp, rfl, hp⟩ := vec_cel (β := E.β) hz (by omega)
  have k2 : Cel E.β (EH ++ φ) bp (0 + ((n : Int) - 1).toNat * 1) (.iface T u) := by
    have := hp (EH ++ φ) (fun r hr => List.mem_append_right _ hr) (n - 1) _ (ev_get ht1)
    rwa [show (((n - 1 : Nat) : Int)) = (n : Int) - 1 by omega, hv] at this
  obtain ⟨D, hD⟩ : ∃ D, D = decide (c ∈ t.codes) := ⟨_, rfl⟩
  have hIs := fun (σ : Heap) (m : ∀ r ∈ EH, r ∈ σ) => quietB (σ := σ) (β := E.β) (v := .bool D) (Is_p E.β c (.code 0) trivial).1 (fun β' g1 g2 => hD ▸ Is_v (c := c) hv (ErrT.Lies.frz (φ := σ) g1 g2 (htl.mono m)))
  have hHa := fun (σ : Heap) (m : ∀ r ∈ EH, r ∈ σ) => quietB (σ := σ) (β := E.β) (v := .bool D) (Has_p E.β c (.code 0) trivial).1 (fun β' g1 g2 => hD ▸ Has_v (c := c) hv (ErrT.Lies.frz (φ := σ) g1 g2 (htl.mono m)))
  repeat' (first | refine KW.seq ?_ | refine KW.region ?_ | refine KO.nil ?_ | refine At.then_normal ?_ | refine KW.skip ?_ | refine KW.ret ?_ | refine At.then_ret ?_ | refine KW.block ?_ | refine KW.exit ?_ | refine At.block_normal ?_ | refine At.block_ret ?_ | refine At.loop_ret ?_ | refine At.then_exit ?_ | refine At.block_here rfl ?_ | refine At.block_there rfl ?_ | refine At.loop_exit ?_ | refine At.cut_ret ?_ | refine At.cutA_ret ?_ | refine At.cutA_exit ?_ | refine At.cut_exit ?_ | (refine At.cut_same ?_; repeat' (first | exact FLe.nil _ | refine FLe.cons rfl rfl ?_)) | refine KW.cond_t rfl (by first | with_reducible rfl | decide) ?_ | refine KW.cond_f rfl (by first | with_reducible rfl | decide) ?_ | refine KW.scope ?_ | refine KW.label ?_ | refine At.scope_normal ?_ | refine At.scope_ret ?_ | refine At.scope_exit ?_ | refine KO.skip' rfl (by first | with_reducible rfl | decide) rfl rfl ?_ | refine KO.skip0' rfl (by first | with_reducible rfl | decide) rfl ?_ | refine KO.skipIn rfl (by first | with_reducible rfl | decide) rfl rfl ?_ | ((first | apply KO.val rfl rfl rfl ?kq ?_ | apply KO.valIn rfl rfl rfl ?kq ?_); (case kq => ((first | ((first | apply qt_sub rfl rfl rfl ?hi ?om | apply qt_indexAddr_arr rfl rfl rfl ?hi rfl rfl ?om | apply qt_indexAddr_slice rfl rfl rfl ?hi rfl rfl ?om); (case om => (intro hg; first | omega | (simp only [kBool] at hg; omega)))) | apply qt_ev rfl ?hi | ((first | apply qt_load1 rfl rfl ?hi rfl rfl ?hm ?hc | apply qt_loadN rfl rfl ?hi rfl rfl rfl ?hm ?hc); (case hm => repeat (first | exact List.Mem.head _ | apply List.Mem.tail _ | apply List.mem_append_right _)); (case hc => rfl)) | refine qt_callQ rfl rfl ?hi (fun hg => hIs _ (by intro r hr; simp [hr])) | refine qt_callQ rfl rfl ?hi (fun hg => hHa _ (by intro r hr; simp [hr])) | refine qt_callQ rfl rfl ?hi (fun hg => Tr.quiet hawk) | apply qt_pick_t rfl rfl (by first | with_reducible rfl | decide) rfl ?hi | apply qt_pick_f rfl rfl (by first | with_reducible rfl | decide) rfl ?hi | ((first | apply qt_pick_and rfl rfl rfl ?hi ?pj | apply qt_pick_or rfl rfl rfl ?hi ?pj); (case pj => (intro h h2; first | with_reducible exact h2 | with_reducible exact andi h h2 | (rw [h2]; rfl) | (rw [h, h2]; rfl) | with_reducible rfl | (simp [h2]; done) | (simp_all; done)))) | apply qt_cap rfl rfl ?hi rfl | apply qt_eqs rfl rfl rfl ?hi rfl (Or.inl rfl) | apply qt_nes rfl rfl rfl ?hi rfl (Or.inl rfl)); (case hi => (intro h; (repeat' (first | with_reducible exact alln | with_reducible refine allc ?_ ?_ | with_reducible refine andi ?_ ?_)); all_goals (first | with_reducible rfl | with_reducible exact h | with_reducible exact andl h | with_reducible exact andr h | with_reducible exact andl (andl h) | (simp only [h, Bool.and_self]; done) | (simp [h]; done) | (simp_all; done))))))) | (refine KW.cond rfl ?_ ?_ <;> (intro hc; try simp only [kBool] at hc)) | exact absurd trivial ‹¬True› | ((first | apply KO.val (g := true) rfl rfl rfl | apply KO.val rfl rfl rfl | apply KO.valIn rfl rfl rfl); (first | (apply qt_loadN_cel rfl rfl ?hi rfl rfl rfl ?hl ?hc; (case hc => exact fun _ => (k2)); (case hl => rfl)) | (apply qt_load1_cel rfl rfl ?hi rfl rfl ?hc; (case hc => first | exact fun _ => (k2)))); (case hi => (first | exact fun _ => rfl | (intro h; first | rfl | exact h | (simp [h]; done) | (simp_all; done))))) | (exfalso; omega) | (exfalso; simp at hc; done) | fail)
  ((first | apply At.done_ret | apply At.done_normal); (focus (repeat' (first | exact ResVs.nil' | apply ResVs.cons' | exact ResV.tmp' rfl | (apply ResV.cell1 rfl ?hm rfl rfl ?hc; (case hm => repeat (first | exact List.Mem.head _ | apply List.Mem.tail _ | apply List.mem_append_right _)); (case hc => rfl)) | (apply ResV.cellN rfl ?hm rfl rfl rfl ?hc; (case hm => repeat (first | exact List.Mem.head _ | apply List.Mem.tail _ | apply List.mem_append_right _)); (case hc => rfl))))); dsimp only [resVal])
  simp
theorem FailIs_c (β : Nat → Option Obj) (ht : TB β) (vs : List Value) (hrd : RdVs Tryd.prog β [35, 23] vs) : Go.K.PureB Tryd.prog 8 vs.toArray β (.bool true) := by
  obtain ⟨va0, vr0, rfl, ha0, hrd⟩ := hrd.cons
  obtain ⟨va1, vr1, rfl, ha1, hrd⟩ := hrd.cons
  obtain rfl := hrd.nil
  have hq0 := rdV_one ha0 (by kernel_rfl)
  obtain ⟨l_p, l_m, l_c, l_xs, rfl, hs_l, he_l⟩ := rd_slice (k := 8) (ts := [3, 9, 23, 3, 3]) Tryd.underlying35 (by kernel_rfl) (by kernel_rfl) hq0
  have hq1 := rdV_one ha1 (by kernel_rfl)
  obtain ⟨c, rfl, hb_c⟩ := rd_i64 Tryd.underlying23 hq1
  obtain ⟨ls, hls⟩ := rd_nodes (P := Tryd.prog) Tryd.underlying3 Tryd.underlying9 Tryd.underlying23 Tryd.underlying3 Tryd.underlying3 hs_l he_l
  exact FailIs_p β ht l_p l_m l_c ls hls c
set_option maxRecDepth 100000 in
theorem FailIs_lifted (os : Os) (started : os.Started) (H : Type) (enc : TypeId × Value → H) :
    ReturnsInHanded {} Tryd.checked os 8 .any (fun w args => (Rows.failIsSpec.pre enc Tryd.prog Tryd.f8 [] false w args ∧ laidMetH Tryd.prog laidL w) ∧ sizedMet enc Tryd.prog Tryd.f8 (OpenSpec.ofChange Rows.failIsSpec) false w args) (Rows.failIsSpec.post enc Tryd.prog Tryd.f8 false true false false) :=
  law_liftL (C := Tryd.checked) (laid := laidL) (Tb := TB) Tryd.own started (by kernel_rfl) Tryd.func8
    (ChangeSpec.witness_shaped (enc := enc) (C := Tryd.checked) (os := os) (X := fun w _ => laidMetH Tryd.prog laidL w) false (World.doorLaid Tryd.prog 400 os) #[.slice none 0 0, .int .i64 0] 8 rfl (World.shaped_of_RefB (by kernel_rfl) (by kernel_rfl)) (by kernel_rfl) (by kernel_rfl) (by kernel_rfl) (door_met os _))
    Tryd.laidOut rfl (by kernel_rfl) (by kernel_rfl) rfl Tryd.underlying4
    (fun ds h => by
      have h' : ds.length = 2 := h
      match ds, h' with
      | [_, _], _ => rfl)
    tb_of (fun β vs h ht => FailIs_c β ht vs h)

theorem FailIs_holds : Rows.FailIsSaid :=
  OpenClaim.holds_of_wide 8 Tryd.f8 rfl rfl rfl rfl rfl rfl rfl ⟨rfl, rfl, rfl, rfl, rfl⟩ rfl rfl rfl rfl rfl (by kernel_rfl) Tryd.func8 (by kernel_rfl)
    (of_decide_eq_true (by kernel_rfl)) (by unfold Func.isWrapper; first | (rw [if_pos (by decide +kernel)]; kernel_rfl) | (rw [if_neg (by decide +kernel)]; exact ⟨rfl, rfl⟩))
    (fun os started H enc _ => FailIs_lifted os started H enc)
theorem FailIs_card : Rows.FailIsCardSaid :=
  Claim7.holds_tied_plain_at .later [] [.handle] true (true, "ed858f0a61a2b990faf843b0fa7c700c4c29907536363e02bc2a7a83efa71f84") true
    FailIs_holds (fun _ h => by cases h) (by kernel_rfl) (fun _ h => by cases h) failIs_row_tie rfl ⟨rfl, rfl⟩ (by kernel_rfl) rfl
    (fun f fn hf hfn => by
      obtain rfl : f = 8 := Option.some.inj ((show Tryd.prog.funcNamed "gloaming/gloaminglaw18.FailIs" = some 8 by kernel_rfl).symm.trans hf) |>.symm
      obtain rfl : fn = Tryd.f8 := (Option.some.inj (Tryd.func8.symm.trans hfn)).symm
      refine ⟨by kernel_rfl, fun j t ht => ?_⟩
      rw [Tryd.params8] at ht
      have hall : ([35, 23].all fun t => !Tryd.prog.wantsStandIn t) = true := by kernel_rfl
      have hm : t ∈ [35, 23] := by have := Array.mem_of_getElem? ht; simpa using this
      have := List.all_eq_true.1 hall t hm
      have h5 : Tryd.prog.wantsStandIn t = false := by simpa using this
      exact h5)
    (by kernel_rfl)
end Go.Proofs.YtpnbcegefhdmdaaDoor

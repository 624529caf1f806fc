/- MsgTells: what is written is parsed, and what is parsed is written to the same bytes; and which responses are the same. -/
import Derived.Test.YtnaclkdjchnbpaaDoorZF
section
namespace Go.Proofs.YtnaclkdjchnbpaaDoor
open Go Go.K

theorem eqB_self (a : Rs) : a.eqB a true = true := (Rs.eqB_iff a a true).2 ⟨rfl, rfl⟩
set_option maxHeartbeats 16000000 in
theorem MsgTells_p (β : Nat → Option Obj) (ht : TB β) (r : Rs) (hr : r.Ok) (ms : List Nat) (p : Option Addr) (m c : Nat) (hmv : r.mv = .slice p m c) (hn : ms.length = m) (hM : Byt ms) (hp : SL β [] 1 m (by8 ms) p)
    (x : Rs) (hx : x.Ok) (ns : List Nat) (px : Option Addr) (k cx : Nat) (hmx : x.mv = .slice px k cx) (hk : ns.length = k) (hN : Byt ns) (hpx : SL β [] 1 k (by8 ns) px)
    (n d : Nat) (l : List Nat) (pl : Option Addr) (hl : l.length = n) (hB : Byt l) (hv : SL β [] 1 n (by8 l) pl) (hpc : pl = none → d = 0 ∧ n = 0) : Go.K.PureB Tryd.prog 5 #[.agg r.cells.toArray, .agg x.cells.toArray, .slice pl n d] β (.bool true) := by
  refine Tr.pureB (Tr.of_body Tryd.tt (args := [.agg r.cells.toArray, .agg x.cells.toArray, .slice pl n d]) (fr := [(0, true, .agg r.cells.toArray), (1, true, .agg x.cells.toArray), (2, true, .slice pl n d)]) Tryd.func5 rfl (by decide) rfl Tryd.ntmps5 rfl rfl ?_)
  intro E hE
  subst hE
  by_cases hbig : 600 < n ∨ 300 < m ∨ 300 < k
  · dsimp only [Rs.cells]
    rw [hmv, hmx]
    have htr := trivial
    repeat' (first | refine KW.seq ?_ | refine KW.region ?_ | refine KO.nil ?_ | refine At.then_normal ?_ | refine KW.skip ?_ | refine KW.ret ?_ | refine At.then_ret ?_ | refine KW.drawU rfl (by decide +kernel) ?_ | ((first | apply KO.val rfl rfl rfl ?kq ?_ | apply KD.val rfl rfl rfl ?kq ?_ ); (case kq => ((first | apply qt_ev rfl ?hi | ((first | apply qt_load1 rfl rfl ?hi rfl rfl ?hm ?hc | apply qt_loadN rfl rfl ?hi rfl rfl rfl ?hm ?hc); (case hm => repeat (first | exact List.Mem.head _ | apply List.Mem.tail _ )); (case hc => rfl)) | refine qt_callQ rfl rfl ?hi (fun hg => Tr.quiet (awakeW_p _)) | ((first | apply qt_pick_or rfl rfl rfl ?hi ?pj); (case pj => (intro h h2; first | (rw [h2]; rfl) ))) ); (case hi => (intro h; (repeat' (first | with_reducible exact alln | with_reducible refine allc ?_ ?_ )); all_goals (first | with_reducible rfl | with_reducible exact h )))))) | (refine KO.box rfl rfl rfl rfl rfl rfl ?_; intro _ _) | (refine KW.cond rfl ?_ ?_ <;> (intro hc; try simp only [kBool] at hc)) | (exfalso; omega) | fail)
    ((first | apply At.done_ret ); (focus (repeat' (first | exact ResVs.nil' | apply ResVs.cons' | exact ResV.tmp' rfl ))); dsimp only [resVal])
  have hSrx := Same_p E.β r x ms ns p px c cx m k hmv hmx hn hk hp hpx (by omega) (by omega)
  have hSrr := Same_p E.β r r ms ms p p c c m m hmv hmv hn hn hp hp (by omega) (by omega)
  have hO := fun σ => one_p E.β σ r x ms ns p px c cx m k hmv hmx hn hk (hp.mono (fun _ h => by cases h)) (hpx.mono (fun _ h => by cases h)) (by omega)
  simp only [Rs.eqC_B] at hO
  simp only [decide_true, eqB_self] at hSrr
  have hif := wri_iff r x hr hx ms ns
  obtain ⟨z, hz⟩ : ∃ z, z = r.eqB x (decide (ms = ns)) := ⟨_, rfl⟩
  rw [← hz] at hSrx hO hif
  clear hz
  have hL := toldL_p E.β r p m c hmv
  have hL2 := toldL_p E.β x px k cx hmx
  have hW := Write_p E.β r hr ms p m c hmv hn hM hp (by omega)
  have hW2 := Write_p E.β x hx ns px k cx hmx hk hN hpx (by omega)
  have hpar := wri_par r hr ms
  have hbyt := fun o h => wri_byt r hr ms o hM h
  have hlen := wri_len2 r hr ms
  have hlen2 := wri_len2 x hx ns
  have hcells : ∀ mv, ({ r with mv := mv } : Rs).cells = [.int .i64 r.st, .int .i64 r.op, .int .u64 (r.tok : Int), .int .i64 r.unit, .int .i64 r.ax, .int .i64 r.ay, .int .i64 r.new, .int .i64 r.expl, .int .i64 r.ver, .bool r.hit, .int .u64 (r.cost : Int), .int .i64 r.settled, .int .i64 r.left, mv, .int .i64 r.units, .int .i64 r.cache, .int .i64 r.sess] := fun _ => rfl
  dsimp only [Rs.cells] at hSrx hSrr hO hL hL2 hW hW2 ⊢
  simp only [hmv, hmx] at hSrx hSrr hO hL hL2 hW hW2 ⊢
  have htr := trivial
  repeat' (first | refine KW.seq ?_ | refine KW.region ?_ | refine KO.nil ?_ | refine At.then_normal ?_ | refine KW.skip ?_ | refine KW.ret ?_ | refine At.then_ret ?_ | refine KW.drawU rfl (by decide +kernel) ?_ | refine KD.zero ?_ | ((first | apply KO.val rfl rfl rfl ?kq ?_ | apply KD.val rfl rfl rfl ?kq ?_ ); (case kq => ((first | apply qt_ev rfl ?hi | ((first | apply qt_load1 rfl rfl ?hi rfl rfl ?hm ?hc | apply qt_loadN rfl rfl ?hi rfl rfl rfl ?hm ?hc); (case hm => repeat (first | exact List.Mem.head _ | apply List.Mem.tail _ )); (case hc => rfl)) | refine qt_callQ rfl rfl ?hi (fun hg => Tr.quiet hSrx) | refine qt_callQ rfl rfl ?hi (fun hg => Tr.quiet hL) | refine qt_callQ rfl rfl ?hi (fun hg => Tr.quiet hL2) | refine qt_callQ rfl rfl ?hi (fun hg => hO _) | refine qt_callQ rfl rfl ?hi (fun hg => Tr.quiet hSrr) | refine qt_callQ rfl rfl ?hi (fun hg => Tr.quiet (awakeW_p _)) | ((first | apply qt_pick_or rfl rfl rfl ?hi ?pj); (case pj => (intro h h2; first | (rw [h2]; rfl) ))) ); (case hi => (intro h; (repeat' (first | with_reducible exact alln | with_reducible refine allc ?_ ?_ )); all_goals (first | with_reducible rfl | with_reducible exact h )))))) | (refine KO.box rfl rfl rfl rfl rfl rfl ?_; intro _ _) | (refine KW.cond rfl ?_ ?_ <;> (intro hc; try simp only [kBool] at hc)) | (exfalso; omega) | fail)
  · exfalso; simp at hc
  · rename_i br _ bx _ _
    clear hSrr hc
    refine KO.callF [] [(bx, cl [.int .i64 x.st, .int .i64 x.op, .int .u64 (x.tok : Int), .int .i64 x.unit, .int .i64 x.ax, .int .i64 x.ay, .int .i64 x.new, .int .i64 x.expl, .int .i64 x.ver, .bool x.hit, .int .u64 (x.cost : Int), .int .i64 x.settled, .int .i64 x.left, (.slice px k cx), .int .i64 x.units, .int .i64 x.cache, .int .i64 x.sess] 44), (br, cl [.int .i64 r.st, .int .i64 r.op, .int .u64 (r.tok : Int), .int .i64 r.unit, .int .i64 r.ax, .int .i64 r.ay, .int .i64 r.new, .int .i64 r.expl, .int .i64 r.ver, .bool r.hit, .int .u64 (r.cost : Int), .int .i64 r.settled, .int .i64 r.left, (.slice p m c), .int .i64 r.units, .int .i64 r.cache, .int .i64 r.sess] 44)] (by classical exact List.perm_iff_count.2 (fun _ => by first | (simp only [List.count_append, List.count_cons, List.count_nil, List.append_assoc, List.cons_append, List.nil_append]; done) )) rfl rfl rfl rfl rfl rfl rfl hW ?_
    intro v σ1 h1
    unfold WriR at h1
    rcases hF : wri r ms with ⟨y, o⟩
    rw [hF] at h1
    rcases y with _ | y
    · obtain ⟨b1, rfl, rfl⟩ := h1
      have hB1 := hbyt o hF
      have hl1 := hlen o hF
      obtain ⟨hd0, hd1, hd2⟩ := parF_ok hB1 (hpar o hF)
      have hPr := fun β' (hb : ∀ b o, E.β b = some o → β' b = some o) (hs : SL β' [] 1 o.length (by8 o) (some ⟨b1, 0, none⟩)) => Parse_p β' (TBE.up hb ht) o.length o.length o (some ⟨b1, 0, none⟩) rfl hB1 hs (fun h => by cases h) (by omega)
      unfold ParR at hPr
      rw [hd0] at hPr
      dsimp only at hPr
      rw [hd1, hd2] at hPr
      dsimp only [Rs.cells] at hPr
      repeat' (first | refine KW.seq ?_ | refine KW.region ?_ | refine KO.nil ?_ | refine At.then_normal ?_ | refine KW.cond_t rfl (by first | with_reducible rfl ) ?_ | ((first | apply KO.val rfl rfl rfl ?kq ?_ ); (case kq => ((first | apply qt_ev rfl ?hi | apply qt_eqs rfl rfl rfl ?hi rfl (Or.inr ⟨rfl, rfl, rfl⟩) ); (case hi => (intro h; (repeat' (first | with_reducible exact alln | with_reducible refine allc ?_ ?_ | with_reducible refine andi ?_ ?_)); all_goals (first | with_reducible rfl )))))) | fail)
      refine KO.callX [] [(b1, cl (by8 o) 5), (bx, cl [.int .i64 x.st, .int .i64 x.op, .int .u64 (x.tok : Int), .int .i64 x.unit, .int .i64 x.ax, .int .i64 x.ay, .int .i64 x.new, .int .i64 x.expl, .int .i64 x.ver, .bool x.hit, .int .u64 (x.cost : Int), .int .i64 x.settled, .int .i64 x.left, (.slice px k cx), .int .i64 x.units, .int .i64 x.cache, .int .i64 x.sess] 44), (br, cl [.int .i64 r.st, .int .i64 r.op, .int .u64 (r.tok : Int), .int .i64 r.unit, .int .i64 r.ax, .int .i64 r.ay, .int .i64 r.new, .int .i64 r.expl, .int .i64 r.ver, .bool r.hit, .int .u64 (r.cost : Int), .int .i64 r.settled, .int .i64 r.left, (.slice p m c), .int .i64 r.units, .int .i64 r.cache, .int .i64 r.sess] 44)] (by classical exact List.perm_iff_count.2 (fun _ => by first | (simp only [List.count_append, List.count_cons, List.count_nil, List.append_assoc, List.cons_append, List.nil_append]; done) )) rfl rfl rfl rfl rfl rfl rfl (fun β' g1 g2 => hPr β' g1 (SL.frz (φ := [(b1, cl (by8 o) 5)]) g1 (fun q hq => g2 q (by simp only [List.mem_singleton] at hq; rw [hq]; exact List.Mem.head _)) (SL.ofBlk (List.Mem.head _) (by simp [by8_len])))) ?_
      rintro β' _ σ3 hbl ⟨mv3, ⟨pm, cm, rfl, hsl, hpc3, hlc3⟩, rfl⟩
      have hsl2 : SL E.β (σ3 ++ [(b1, cl (by8 o) 5), (bx, cl [.int .i64 x.st, .int .i64 x.op, .int .u64 (x.tok : Int), .int .i64 x.unit, .int .i64 x.ax, .int .i64 x.ay, .int .i64 x.new, .int .i64 x.expl, .int .i64 x.ver, .bool x.hit, .int .u64 (x.cost : Int), .int .i64 x.settled, .int .i64 x.left, (.slice px k cx), .int .i64 x.units, .int .i64 x.cache, .int .i64 x.sess] 44), (br, cl [.int .i64 r.st, .int .i64 r.op, .int .u64 (r.tok : Int), .int .i64 r.unit, .int .i64 r.ax, .int .i64 r.ay, .int .i64 r.new, .int .i64 r.expl, .int .i64 r.ver, .bool r.hit, .int .u64 (r.cost : Int), .int .i64 r.settled, .int .i64 r.left, (.slice p m c), .int .i64 r.units, .int .i64 r.cache, .int .i64 r.sess] 44)]) 1 ms.length (by8 ms) pm := SL.unfrz hbl (by intro q hq; simp only [List.mem_cons, List.not_mem_nil, or_false] at hq; rcases hq with rfl | rfl | rfl <;> exact ⟨_, _, rfl⟩) hsl
      clear hsl hbl
      have hS3 := fun σ (h : ∀ q ∈ σ3 ++ [(b1, cl (by8 o) 5), (bx, cl [.int .i64 x.st, .int .i64 x.op, .int .u64 (x.tok : Int), .int .i64 x.unit, .int .i64 x.ax, .int .i64 x.ay, .int .i64 x.new, .int .i64 x.expl, .int .i64 x.ver, .bool x.hit, .int .u64 (x.cost : Int), .int .i64 x.settled, .int .i64 x.left, (.slice px k cx), .int .i64 x.units, .int .i64 x.cache, .int .i64 x.sess] 44), (br, cl [.int .i64 r.st, .int .i64 r.op, .int .u64 (r.tok : Int), .int .i64 r.unit, .int .i64 r.ax, .int .i64 r.ay, .int .i64 r.new, .int .i64 r.expl, .int .i64 r.ver, .bool r.hit, .int .u64 (r.cost : Int), .int .i64 r.settled, .int .i64 r.left, (.slice p m c), .int .i64 r.units, .int .i64 r.cache, .int .i64 r.sess] 44)], q ∈ σ) => SameT_p E.β σ { r with mv := .slice pm ms.length cm } r ms ms pm p cm c ms.length m rfl hmv rfl hn (hsl2.mono h) (hp.mono (fun _ h => by cases h)) (by omega) (by omega)
      simp only [decide_true, show ({ r with mv := .slice pm ms.length cm } : Rs).eqB r true = true from (Rs.eqB_iff _ _ true).2 ⟨rfl, rfl⟩] at hS3
      dsimp only [Rs.cells] at hS3
      simp only [hmv] at hS3
      repeat' (first | refine KW.seq ?_ | refine KW.region ?_ | refine KO.nil ?_ | refine At.then_normal ?_ | refine KW.skip ?_ | refine KW.cond_f rfl (by first | decide) ?_ | ((first | apply KO.val rfl rfl rfl ?kq ?_ ); (case kq => ((first | apply qt_ev rfl ?hi | ((first | apply qt_loadN rfl rfl ?hi rfl rfl rfl ?hm ?hc); (case hm => repeat (first | exact List.Mem.head _ | apply List.Mem.tail _ | apply List.mem_append_right _)); (case hc => rfl)) | refine qt_callQ rfl rfl ?hi (fun hg => hS3 _ (by intro q hq; simp only [List.mem_append, List.mem_cons, List.not_mem_nil, or_false] at hq ⊢; rcases hq with h | h | h | h <;> simp [h])) | apply qt_pick_f rfl rfl (by first | decide) rfl ?hi | apply qt_nes rfl rfl rfl ?hi rfl (Or.inr ⟨rfl, rfl, rfl⟩)); (case hi => (intro h; (repeat' (first | with_reducible exact alln | with_reducible refine allc ?_ ?_ | with_reducible refine andi ?_ ?_)); all_goals (first | with_reducible rfl | with_reducible exact h | (simp [h]; done) )))))) | (refine KO.alloc rfl rfl rfl rfl rfl rfl ?_; intro _ _) | (apply KO.store (i := _) rfl rfl rfl rfl rfl rfl rfl rfl ?hl ?sg ?hw ?ho ?hs; (case sg => first | exact (rfl : getI 0 _ = _) ); (case hl => rfl); (case hw => rfl); (case ho => rfl); (case hs => rfl)) | fail)
      rename_i bd _
      refine KO.callF [] ((bd, cl [.int .i64 r.st, .int .i64 r.op, .int .u64 (r.tok : Int), .int .i64 r.unit, .int .i64 r.ax, .int .i64 r.ay, .int .i64 r.new, .int .i64 r.expl, .int .i64 r.ver, .bool r.hit, .int .u64 (r.cost : Int), .int .i64 r.settled, .int .i64 r.left, (.slice pm ms.length cm), .int .i64 r.units, .int .i64 r.cache, .int .i64 r.sess] 44) :: (σ3 ++ [(b1, cl (by8 o) 5), (bx, cl [.int .i64 x.st, .int .i64 x.op, .int .u64 (x.tok : Int), .int .i64 x.unit, .int .i64 x.ax, .int .i64 x.ay, .int .i64 x.new, .int .i64 x.expl, .int .i64 x.ver, .bool x.hit, .int .u64 (x.cost : Int), .int .i64 x.settled, .int .i64 x.left, (.slice px k cx), .int .i64 x.units, .int .i64 x.cache, .int .i64 x.sess] 44), (br, cl [.int .i64 r.st, .int .i64 r.op, .int .u64 (r.tok : Int), .int .i64 r.unit, .int .i64 r.ax, .int .i64 r.ay, .int .i64 r.new, .int .i64 r.expl, .int .i64 r.ver, .bool r.hit, .int .u64 (r.cost : Int), .int .i64 r.settled, .int .i64 r.left, (.slice p m c), .int .i64 r.units, .int .i64 r.cache, .int .i64 r.sess] 44)])) (by classical exact List.perm_iff_count.2 (fun _ => by first | (simp only [List.count_append, List.count_cons, List.count_nil, List.append_assoc, List.cons_append, List.nil_append]; done) )) rfl rfl rfl rfl rfl rfl rfl hW2 ?_
      intro v4 σ4 h4
      unfold WriR at h4
      rcases hX : wri x ns with ⟨y4, u⟩
      rw [hX] at h4
      rcases y4 with _ | y4
      · obtain ⟨b2, rfl, rfl⟩ := h4
        have hl2 := hlen2 u hX
        have hs4 := fun (σ : Heap) (h1 : (b1, cl (by8 o) 5) ∈ σ) (h2 : (b2, cl (by8 u) 5) ∈ σ) => same_p E.β σ o u (some ⟨b1, 0, none⟩) (some ⟨b2, 0, none⟩) o.length u.length o.length u.length rfl rfl (SL.ofBlk h1 (by simp [by8_len])) (SL.ofBlk h2 (by simp [by8_len])) (by omega)
        rw [hif o u hF hX] at hs4
        repeat' (first | refine KW.seq ?_ | refine KW.region ?_ | refine KO.nil ?_ | refine At.then_normal ?_ | refine KW.skip ?_ | refine KW.ret ?_ | refine At.then_ret ?_ | refine KW.drawU rfl (by decide +kernel) ?_ | refine KD.zero ?_ | ((first | apply KO.val rfl rfl rfl ?kq ?_ | apply KD.val rfl rfl rfl ?kq ?_ ); (case kq => ((first | apply qt_ev rfl ?hi | ((first | apply qt_loadN rfl rfl ?hi rfl rfl rfl ?hm ?hc); (case hm => repeat (first | exact List.Mem.head _ | apply List.Mem.tail _ | apply List.mem_append_right _)); (case hc => rfl)) | refine qt_callQ rfl rfl ?hi (fun hg => hs4 _ (by simp) (by simp)) | refine qt_callQ rfl rfl ?hi (fun hg => Tr.quiet hSrx) | apply qt_pick_t rfl rfl (by first | with_reducible rfl ) rfl ?hi | apply qt_eqs rfl rfl rfl ?hi rfl (Or.inr ⟨rfl, rfl, rfl⟩) ); (case hi => (intro h; (repeat' (first | with_reducible exact alln | with_reducible refine allc ?_ ?_ | with_reducible refine andi ?_ ?_)); all_goals (first | with_reducible rfl )))))) | (refine KW.cond rfl ?_ ?_ <;> (intro hc; try simp only [kBool] at hc)) | fail)
        · exfalso; simp at hc
        · refine KO.permS (σ' := [(bx, cl [.int .i64 x.st, .int .i64 x.op, .int .u64 (x.tok : Int), .int .i64 x.unit, .int .i64 x.ax, .int .i64 x.ay, .int .i64 x.new, .int .i64 x.expl, .int .i64 x.ver, .bool x.hit, .int .u64 (x.cost : Int), .int .i64 x.settled, .int .i64 x.left, (.slice px k cx), .int .i64 x.units, .int .i64 x.cache, .int .i64 x.sess] 44), (br, cl [.int .i64 r.st, .int .i64 r.op, .int .u64 (r.tok : Int), .int .i64 r.unit, .int .i64 r.ax, .int .i64 r.ay, .int .i64 r.new, .int .i64 r.expl, .int .i64 r.ver, .bool r.hit, .int .u64 (r.cost : Int), .int .i64 r.settled, .int .i64 r.left, (.slice p m c), .int .i64 r.units, .int .i64 r.cache, .int .i64 r.sess] 44)]) (φ := (b2, cl (by8 u) 5) :: ((bd, cl [.int .i64 r.st, .int .i64 r.op, .int .u64 (r.tok : Int), .int .i64 r.unit, .int .i64 r.ax, .int .i64 r.ay, .int .i64 r.new, .int .i64 r.expl, .int .i64 r.ver, .bool r.hit, .int .u64 (r.cost : Int), .int .i64 r.settled, .int .i64 r.left, (.slice pm ms.length cm), .int .i64 r.units, .int .i64 r.cache, .int .i64 r.sess] 44) :: (σ3 ++ [(b1, cl (by8 o) 5)]))) (by classical exact List.perm_iff_count.2 (fun _ => by first | (simp only [List.count_append, List.count_cons, List.count_nil, List.append_assoc, List.cons_append, List.nil_append]; omega))) ?_
          have hD := Parse_p E.β ht n d l pl hl hB hv hpc (by omega)
          have h65 := toldT_65 (l, none)
          have hbm := toldT_byt (z := (l, none)) hB
          refine KO.callF [] [(bx, cl [.int .i64 x.st, .int .i64 x.op, .int .u64 (x.tok : Int), .int .i64 x.unit, .int .i64 x.ax, .int .i64 x.ay, .int .i64 x.new, .int .i64 x.expl, .int .i64 x.ver, .bool x.hit, .int .u64 (x.cost : Int), .int .i64 x.settled, .int .i64 x.left, (.slice px k cx), .int .i64 x.units, .int .i64 x.cache, .int .i64 x.sess] 44), (br, cl [.int .i64 r.st, .int .i64 r.op, .int .u64 (r.tok : Int), .int .i64 r.unit, .int .i64 r.ax, .int .i64 r.ay, .int .i64 r.new, .int .i64 r.expl, .int .i64 r.ver, .bool r.hit, .int .u64 (r.cost : Int), .int .i64 r.settled, .int .i64 r.left, (.slice p m c), .int .i64 r.units, .int .i64 r.cache, .int .i64 r.sess] 44)] (by classical exact List.perm_iff_count.2 (fun _ => by first | (simp only [List.count_append, List.count_cons, List.count_nil, List.append_assoc, List.cons_append, List.nil_append]; done) )) rfl rfl rfl rfl rfl rfl rfl hD ?_
          intro v2 σ2 h2
          unfold ParR at h2
          rcases hG : parF l with _ | z2
          · rw [hG] at h2
            obtain ⟨mv2, ⟨pm, cm, rfl, hsl, hpcm, hlcm⟩, rfl⟩ := h2
            obtain ⟨hq1, hq2, hq3⟩ := par_wri l hB _ _ (parF_none hB hG)
            generalize (toldT (l, none)).2.1 = q at hq1 hq2 hq3 ⊢
            generalize (toldT (l, none)).2.2 = qs at hq3 hsl hpcm hlcm h65 hbm ⊢
            have hE2 := fun β' (hs : SL β' [] 1 qs.length (by8 qs) pm) => Write_p β' { q with mv := .slice pm qs.length cm } (hq1.mv _) qs pm qs.length cm rfl rfl hbm hs (by omega)
            unfold WriR at hE2
            rw [wri_mv q hq1, hq3] at hE2
            dsimp only [Rs.cells] at hE2 ⊢
            repeat' (first | refine KW.seq ?_ | refine KW.region ?_ | refine KO.nil ?_ | refine At.then_normal ?_ | refine KW.skip ?_ | refine KW.cond_f rfl (by first | decide) ?_ | ((first | apply KO.val rfl rfl rfl ?kq ?_ ); (case kq => ((first | apply qt_ev rfl ?hi | ((first | apply qt_loadN rfl rfl ?hi rfl rfl rfl ?hm ?hc); (case hm => repeat (first | exact List.Mem.head _ )); (case hc => rfl)) | apply qt_nes rfl rfl rfl ?hi rfl (Or.inr ⟨rfl, rfl, rfl⟩)); (case hi => (intro h; (repeat' (first | with_reducible exact alln | with_reducible refine allc ?_ ?_ | with_reducible refine andi ?_ ?_)); all_goals (first | with_reducible rfl )))))) | (refine KO.alloc rfl rfl rfl rfl rfl rfl ?_; intro _ _) | (apply KO.store (i := _) rfl rfl rfl rfl rfl rfl rfl rfl ?hl ?sg ?hw ?ho ?hs; (case sg => first | exact (rfl : getI 0 _ = _) ); (case hl => rfl); (case hw => rfl); (case ho => rfl); (case hs => rfl)) | fail)
            rename_i bq _
            refine KO.callB [] ((bq, cl [.int .i64 q.st, .int .i64 q.op, .int .u64 (q.tok : Int), .int .i64 q.unit, .int .i64 q.ax, .int .i64 q.ay, .int .i64 q.new, .int .i64 q.expl, .int .i64 q.ver, .bool q.hit, .int .u64 (q.cost : Int), .int .i64 q.settled, .int .i64 q.left, (.slice pm qs.length cm), .int .i64 q.units, .int .i64 q.cache, .int .i64 q.sess] 44) :: (σ2 ++ [(bx, cl [.int .i64 x.st, .int .i64 x.op, .int .u64 (x.tok : Int), .int .i64 x.unit, .int .i64 x.ax, .int .i64 x.ay, .int .i64 x.new, .int .i64 x.expl, .int .i64 x.ver, .bool x.hit, .int .u64 (x.cost : Int), .int .i64 x.settled, .int .i64 x.left, (.slice px k cx), .int .i64 x.units, .int .i64 x.cache, .int .i64 x.sess] 44), (br, cl [.int .i64 r.st, .int .i64 r.op, .int .u64 (r.tok : Int), .int .i64 r.unit, .int .i64 r.ax, .int .i64 r.ay, .int .i64 r.new, .int .i64 r.expl, .int .i64 r.ver, .bool r.hit, .int .u64 (r.cost : Int), .int .i64 r.settled, .int .i64 r.left, (.slice p m c), .int .i64 r.units, .int .i64 r.cache, .int .i64 r.sess] 44)])) (by classical exact List.perm_iff_count.2 (fun _ => by first | (simp only [List.count_append, List.count_cons, List.count_nil, List.append_assoc, List.cons_append, List.nil_append]; done) )) rfl rfl rfl rfl rfl rfl rfl (fun β' g1 g2 => hE2 β' (SL.frz (φ := σ2) g1 (fun q hq => g2 q (by simp [hq])) hsl)) ?_
            rintro _ _ ⟨bc, rfl, rfl⟩
            have hs := fun (σ : Heap) (h1 : (bc, cl (by8 l) 5) ∈ σ) => same_p E.β σ l l pl (some ⟨bc, 0, none⟩) d l.length n l.length hl rfl (hv.mono (fun _ h => by cases h)) (SL.ofBlk h1 (by simp [by8_len])) (by omega)
            simp only [decide_true] at hs
            repeat' (first | refine KW.seq ?_ | refine KW.region ?_ | refine KO.nil ?_ | refine At.then_normal ?_ | refine KW.ret ?_ | ((first | apply KO.val rfl rfl rfl ?kq ?_ ); (case kq => ((first | apply qt_ev rfl ?hi | refine qt_callQ rfl rfl ?hi (fun hg => hs _ (by simp)) | refine qt_callQ rfl rfl ?hi (fun hg => Tr.quiet (awakeW_p _)) | apply qt_pick_t rfl rfl (by first | with_reducible rfl ) rfl ?hi | apply qt_eqs rfl rfl rfl ?hi rfl (Or.inr ⟨rfl, rfl, rfl⟩) ); (case hi => (intro h; (repeat' (first | with_reducible exact alln | with_reducible refine allc ?_ ?_ | with_reducible refine andi ?_ ?_)); all_goals (first | with_reducible rfl )))))) | fail)
            ((first | apply At.done_ret ); (focus (repeat' (first | exact ResVs.nil' | apply ResVs.cons' | exact ResV.tmp' rfl ))); dsimp only [resVal])
          · rw [hG] at h2
            obtain ⟨f1, f2, rfl, rfl⟩ := h2
            have hZ := Same_p E.β zR zR [] [] none none 0 0 0 0 rfl rfl rfl rfl (SL.nil8 _ _) (SL.nil8 _ _) (by omega) (by omega)
            simp only [decide_true, eqB_self] at hZ
            dsimp only [Rs.cells, zR] at hZ ⊢
            repeat' (first | refine KW.seq ?_ | refine KW.region ?_ | refine KO.nil ?_ | refine At.then_normal ?_ | refine KW.ret ?_ | refine At.then_ret ?_ | refine KW.cond_t rfl (by first | decide) ?_ | ((first | apply KO.val rfl rfl rfl ?kq ?_ ); (case kq => ((first | apply qt_ev rfl ?hi | ((first | apply qt_loadN rfl rfl ?hi rfl rfl rfl ?hm ?hc); (case hm => repeat (first | exact List.Mem.head _ )); (case hc => rfl)) | refine qt_callQ rfl rfl ?hi (fun hg => Tr.quiet hZ) | refine qt_callQ rfl rfl ?hi (fun hg => Tr.quiet (awakeW_p _)) | apply qt_pick_t rfl rfl (by first | with_reducible rfl ) rfl ?hi | apply qt_build rfl rfl ?hi rfl | apply qt_nes rfl rfl rfl ?hi rfl (Or.inl rfl) ); (case hi => (intro h; (repeat' (first | with_reducible exact alln | with_reducible refine allc ?_ ?_ | with_reducible refine andi ?_ ?_)); all_goals (first | with_reducible rfl )))))) | (refine KO.alloc rfl rfl rfl rfl rfl rfl ?_; intro _ _) | (apply KO.store (i := _) rfl rfl rfl rfl rfl rfl rfl rfl ?hl ?sg ?hw ?ho ?hs; (case sg => first | exact (rfl : getI 0 _ = _) ); (case hl => rfl); (case hw => rfl); (case ho => rfl); (case hs => rfl)) | fail)
            ((first | apply At.done_ret ); (focus (repeat' (first | exact ResVs.nil' | apply ResVs.cons' | exact ResV.tmp' rfl ))); dsimp only [resVal])
      · obtain ⟨ev, ε, ⟨e1, e2, rfl, rfl⟩, rfl, rfl⟩ := h4
        repeat' (first | refine KW.seq ?_ | refine KW.region ?_ | refine KO.nil ?_ | refine At.then_normal ?_ | refine KW.skip ?_ | refine KW.cond_f rfl (by first | with_reducible rfl ) ?_ | refine KW.drawU rfl (by decide +kernel) ?_ | refine KD.zero ?_ | refine KD.skip' rfl (by first | with_reducible rfl ) rfl rfl ?_ | ((first | apply KO.val rfl rfl rfl ?kq ?_ | apply KD.val rfl rfl rfl ?kq ?_ ); (case kq => ((first | apply qt_ev rfl ?hi | apply qt_pick_f rfl rfl (by first | with_reducible rfl ) rfl ?hi | apply qt_eqs rfl rfl rfl ?hi rfl (Or.inl rfl) ); (case hi => (intro h; (repeat' (first | with_reducible exact alln | with_reducible refine allc ?_ ?_ | with_reducible refine andi ?_ ?_)); all_goals (first | with_reducible rfl )))))) | fail)
        refine KO.permS (σ' := [(bx, cl [.int .i64 x.st, .int .i64 x.op, .int .u64 (x.tok : Int), .int .i64 x.unit, .int .i64 x.ax, .int .i64 x.ay, .int .i64 x.new, .int .i64 x.expl, .int .i64 x.ver, .bool x.hit, .int .u64 (x.cost : Int), .int .i64 x.settled, .int .i64 x.left, (.slice px k cx), .int .i64 x.units, .int .i64 x.cache, .int .i64 x.sess] 44), (br, cl [.int .i64 r.st, .int .i64 r.op, .int .u64 (r.tok : Int), .int .i64 r.unit, .int .i64 r.ax, .int .i64 r.ay, .int .i64 r.new, .int .i64 r.expl, .int .i64 r.ver, .bool r.hit, .int .u64 (r.cost : Int), .int .i64 r.settled, .int .i64 r.left, (.slice p m c), .int .i64 r.units, .int .i64 r.cache, .int .i64 r.sess] 44)]) (φ := (e1, cl [.string sRes, .iface 100 (.pointer (some ⟨e2, 0, none⟩))] 108) :: (e2, cl [.string y4.1, .iface 32 (.int .i64 y4.2)] 108) :: ((bd, cl [.int .i64 r.st, .int .i64 r.op, .int .u64 (r.tok : Int), .int .i64 r.unit, .int .i64 r.ax, .int .i64 r.ay, .int .i64 r.new, .int .i64 r.expl, .int .i64 r.ver, .bool r.hit, .int .u64 (r.cost : Int), .int .i64 r.settled, .int .i64 r.left, (.slice pm ms.length cm), .int .i64 r.units, .int .i64 r.cache, .int .i64 r.sess] 44) :: (σ3 ++ [(b1, cl (by8 o) 5)]))) (by classical exact List.perm_iff_count.2 (fun _ => by first | (simp only [List.count_append, List.count_cons, List.count_nil, List.append_assoc, List.cons_append, List.nil_append]; omega))) ?_
        have hD := Parse_p E.β ht n d l pl hl hB hv hpc (by omega)
        have h65 := toldT_65 (l, none)
        have hbm := toldT_byt (z := (l, none)) hB
        refine KO.callF [] [(bx, cl [.int .i64 x.st, .int .i64 x.op, .int .u64 (x.tok : Int), .int .i64 x.unit, .int .i64 x.ax, .int .i64 x.ay, .int .i64 x.new, .int .i64 x.expl, .int .i64 x.ver, .bool x.hit, .int .u64 (x.cost : Int), .int .i64 x.settled, .int .i64 x.left, (.slice px k cx), .int .i64 x.units, .int .i64 x.cache, .int .i64 x.sess] 44), (br, cl [.int .i64 r.st, .int .i64 r.op, .int .u64 (r.tok : Int), .int .i64 r.unit, .int .i64 r.ax, .int .i64 r.ay, .int .i64 r.new, .int .i64 r.expl, .int .i64 r.ver, .bool r.hit, .int .u64 (r.cost : Int), .int .i64 r.settled, .int .i64 r.left, (.slice p m c), .int .i64 r.units, .int .i64 r.cache, .int .i64 r.sess] 44)] (by classical exact List.perm_iff_count.2 (fun _ => by first | (simp only [List.count_append, List.count_cons, List.count_nil, List.append_assoc, List.cons_append, List.nil_append]; done) )) rfl rfl rfl rfl rfl rfl rfl hD ?_
        intro v2 σ2 h2
        unfold ParR at h2
        rcases hG : parF l with _ | z2
        · rw [hG] at h2
          obtain ⟨mv2, ⟨pm, cm, rfl, hsl, hpcm, hlcm⟩, rfl⟩ := h2
          obtain ⟨hq1, hq2, hq3⟩ := par_wri l hB _ _ (parF_none hB hG)
          generalize (toldT (l, none)).2.1 = q at hq1 hq2 hq3 ⊢
          generalize (toldT (l, none)).2.2 = qs at hq3 hsl hpcm hlcm h65 hbm ⊢
          have hE2 := fun β' (hs : SL β' [] 1 qs.length (by8 qs) pm) => Write_p β' { q with mv := .slice pm qs.length cm } (hq1.mv _) qs pm qs.length cm rfl rfl hbm hs (by omega)
          unfold WriR at hE2
          rw [wri_mv q hq1, hq3] at hE2
          dsimp only [Rs.cells] at hE2 ⊢
          repeat' (first | refine KW.seq ?_ | refine KW.region ?_ | refine KO.nil ?_ | refine At.then_normal ?_ | refine KW.skip ?_ | refine KW.cond_f rfl (by first | decide) ?_ | ((first | apply KO.val rfl rfl rfl ?kq ?_ ); (case kq => ((first | apply qt_ev rfl ?hi | ((first | apply qt_loadN rfl rfl ?hi rfl rfl rfl ?hm ?hc); (case hm => repeat (first | exact List.Mem.head _ )); (case hc => rfl)) | apply qt_nes rfl rfl rfl ?hi rfl (Or.inr ⟨rfl, rfl, rfl⟩)); (case hi => (intro h; (repeat' (first | with_reducible exact alln | with_reducible refine allc ?_ ?_ | with_reducible refine andi ?_ ?_)); all_goals (first | with_reducible rfl )))))) | (refine KO.alloc rfl rfl rfl rfl rfl rfl ?_; intro _ _) | (apply KO.store (i := _) rfl rfl rfl rfl rfl rfl rfl rfl ?hl ?sg ?hw ?ho ?hs; (case sg => first | exact (rfl : getI 0 _ = _) ); (case hl => rfl); (case hw => rfl); (case ho => rfl); (case hs => rfl)) | fail)
          rename_i bq _
          refine KO.callB [] ((bq, cl [.int .i64 q.st, .int .i64 q.op, .int .u64 (q.tok : Int), .int .i64 q.unit, .int .i64 q.ax, .int .i64 q.ay, .int .i64 q.new, .int .i64 q.expl, .int .i64 q.ver, .bool q.hit, .int .u64 (q.cost : Int), .int .i64 q.settled, .int .i64 q.left, (.slice pm qs.length cm), .int .i64 q.units, .int .i64 q.cache, .int .i64 q.sess] 44) :: (σ2 ++ [(bx, cl [.int .i64 x.st, .int .i64 x.op, .int .u64 (x.tok : Int), .int .i64 x.unit, .int .i64 x.ax, .int .i64 x.ay, .int .i64 x.new, .int .i64 x.expl, .int .i64 x.ver, .bool x.hit, .int .u64 (x.cost : Int), .int .i64 x.settled, .int .i64 x.left, (.slice px k cx), .int .i64 x.units, .int .i64 x.cache, .int .i64 x.sess] 44), (br, cl [.int .i64 r.st, .int .i64 r.op, .int .u64 (r.tok : Int), .int .i64 r.unit, .int .i64 r.ax, .int .i64 r.ay, .int .i64 r.new, .int .i64 r.expl, .int .i64 r.ver, .bool r.hit, .int .u64 (r.cost : Int), .int .i64 r.settled, .int .i64 r.left, (.slice p m c), .int .i64 r.units, .int .i64 r.cache, .int .i64 r.sess] 44)])) (by classical exact List.perm_iff_count.2 (fun _ => by first | (simp only [List.count_append, List.count_cons, List.count_nil, List.append_assoc, List.cons_append, List.nil_append]; done) )) rfl rfl rfl rfl rfl rfl rfl (fun β' g1 g2 => hE2 β' (SL.frz (φ := σ2) g1 (fun q hq => g2 q (by simp [hq])) hsl)) ?_
          rintro _ _ ⟨bc, rfl, rfl⟩
          have hs := fun (σ : Heap) (h1 : (bc, cl (by8 l) 5) ∈ σ) => same_p E.β σ l l pl (some ⟨bc, 0, none⟩) d l.length n l.length hl rfl (hv.mono (fun _ h => by cases h)) (SL.ofBlk h1 (by simp [by8_len])) (by omega)
          simp only [decide_true] at hs
          repeat' (first | refine KW.seq ?_ | refine KW.region ?_ | refine KO.nil ?_ | refine At.then_normal ?_ | refine KW.ret ?_ | ((first | apply KO.val rfl rfl rfl ?kq ?_ ); (case kq => ((first | apply qt_ev rfl ?hi | refine qt_callQ rfl rfl ?hi (fun hg => hs _ (by simp)) | refine qt_callQ rfl rfl ?hi (fun hg => Tr.quiet (awakeW_p _)) | apply qt_pick_t rfl rfl (by first | with_reducible rfl ) rfl ?hi | apply qt_eqs rfl rfl rfl ?hi rfl (Or.inr ⟨rfl, rfl, rfl⟩) ); (case hi => (intro h; (repeat' (first | with_reducible exact alln | with_reducible refine allc ?_ ?_ | with_reducible refine andi ?_ ?_)); all_goals (first | with_reducible rfl )))))) | fail)
          ((first | apply At.done_ret ); (focus (repeat' (first | exact ResVs.nil' | apply ResVs.cons' | exact ResV.tmp' rfl ))); dsimp only [resVal])
        · rw [hG] at h2
          obtain ⟨f1, f2, rfl, rfl⟩ := h2
          have hZ := Same_p E.β zR zR [] [] none none 0 0 0 0 rfl rfl rfl rfl (SL.nil8 _ _) (SL.nil8 _ _) (by omega) (by omega)
          simp only [decide_true, eqB_self] at hZ
          dsimp only [Rs.cells, zR] at hZ ⊢
          repeat' (first | refine KW.seq ?_ | refine KW.region ?_ | refine KO.nil ?_ | refine At.then_normal ?_ | refine KW.ret ?_ | refine At.then_ret ?_ | refine KW.cond_t rfl (by first | decide) ?_ | ((first | apply KO.val rfl rfl rfl ?kq ?_ ); (case kq => ((first | apply qt_ev rfl ?hi | ((first | apply qt_loadN rfl rfl ?hi rfl rfl rfl ?hm ?hc); (case hm => repeat (first | exact List.Mem.head _ )); (case hc => rfl)) | refine qt_callQ rfl rfl ?hi (fun hg => Tr.quiet hZ) | refine qt_callQ rfl rfl ?hi (fun hg => Tr.quiet (awakeW_p _)) | apply qt_pick_t rfl rfl (by first | with_reducible rfl ) rfl ?hi | apply qt_build rfl rfl ?hi rfl | apply qt_nes rfl rfl rfl ?hi rfl (Or.inl rfl) ); (case hi => (intro h; (repeat' (first | with_reducible exact alln | with_reducible refine allc ?_ ?_ | with_reducible refine andi ?_ ?_)); all_goals (first | with_reducible rfl )))))) | (refine KO.alloc rfl rfl rfl rfl rfl rfl ?_; intro _ _) | (apply KO.store (i := _) rfl rfl rfl rfl rfl rfl rfl rfl ?hl ?sg ?hw ?ho ?hs; (case sg => first | exact (rfl : getI 0 _ = _) ); (case hl => rfl); (case hw => rfl); (case ho => rfl); (case hs => rfl)) | fail)
          ((first | apply At.done_ret ); (focus (repeat' (first | exact ResVs.nil' | apply ResVs.cons' | exact ResV.tmp' rfl ))); dsimp only [resVal])
    · obtain ⟨ev, ε, ⟨e1, e2, rfl, rfl⟩, rfl, rfl⟩ := h1
      repeat' (first | refine KW.seq ?_ | refine KW.region ?_ | refine KO.nil ?_ | refine At.then_normal ?_ | refine KW.skip ?_ | refine KW.cond_f rfl (by first | with_reducible rfl | decide) ?_ | ((first | apply KO.val rfl rfl rfl ?kq ?_ ); (case kq => ((first | apply qt_ev rfl ?hi | apply qt_eqs rfl rfl rfl ?hi rfl (Or.inl rfl) ); (case hi => (intro h; (repeat' (first | with_reducible exact alln | with_reducible refine allc ?_ ?_ | with_reducible refine andi ?_ ?_)); all_goals (first | with_reducible rfl )))))) | fail)
      refine KO.permS (σ' := [(bx, cl [.int .i64 x.st, .int .i64 x.op, .int .u64 (x.tok : Int), .int .i64 x.unit, .int .i64 x.ax, .int .i64 x.ay, .int .i64 x.new, .int .i64 x.expl, .int .i64 x.ver, .bool x.hit, .int .u64 (x.cost : Int), .int .i64 x.settled, .int .i64 x.left, (.slice px k cx), .int .i64 x.units, .int .i64 x.cache, .int .i64 x.sess] 44), (br, cl [.int .i64 r.st, .int .i64 r.op, .int .u64 (r.tok : Int), .int .i64 r.unit, .int .i64 r.ax, .int .i64 r.ay, .int .i64 r.new, .int .i64 r.expl, .int .i64 r.ver, .bool r.hit, .int .u64 (r.cost : Int), .int .i64 r.settled, .int .i64 r.left, (.slice p m c), .int .i64 r.units, .int .i64 r.cache, .int .i64 r.sess] 44)]) (φ := [(e1, cl [.string sRes, .iface 100 (.pointer (some ⟨e2, 0, none⟩))] 108), (e2, cl [.string y.1, .iface 32 (.int .i64 y.2)] 108)]) (by classical exact List.perm_iff_count.2 (fun _ => by first | (simp only [List.count_append, List.count_cons, List.count_nil, List.append_assoc, List.cons_append, List.nil_append]; omega))) ?_
      have hD := Parse_p E.β ht n d l pl hl hB hv hpc (by omega)
      have h65 := toldT_65 (l, none)
      have hbm := toldT_byt (z := (l, none)) hB
      refine KO.callF [] [(bx, cl [.int .i64 x.st, .int .i64 x.op, .int .u64 (x.tok : Int), .int .i64 x.unit, .int .i64 x.ax, .int .i64 x.ay, .int .i64 x.new, .int .i64 x.expl, .int .i64 x.ver, .bool x.hit, .int .u64 (x.cost : Int), .int .i64 x.settled, .int .i64 x.left, (.slice px k cx), .int .i64 x.units, .int .i64 x.cache, .int .i64 x.sess] 44), (br, cl [.int .i64 r.st, .int .i64 r.op, .int .u64 (r.tok : Int), .int .i64 r.unit, .int .i64 r.ax, .int .i64 r.ay, .int .i64 r.new, .int .i64 r.expl, .int .i64 r.ver, .bool r.hit, .int .u64 (r.cost : Int), .int .i64 r.settled, .int .i64 r.left, (.slice p m c), .int .i64 r.units, .int .i64 r.cache, .int .i64 r.sess] 44)] (by classical exact List.perm_iff_count.2 (fun _ => by first | (simp only [List.count_append, List.count_cons, List.count_nil, List.append_assoc, List.cons_append, List.nil_append]; done) )) rfl rfl rfl rfl rfl rfl rfl hD ?_
      intro v2 σ2 h2
      unfold ParR at h2
      rcases hG : parF l with _ | z2
      · rw [hG] at h2
        obtain ⟨mv2, ⟨pm, cm, rfl, hsl, hpcm, hlcm⟩, rfl⟩ := h2
        obtain ⟨hq1, hq2, hq3⟩ := par_wri l hB _ _ (parF_none hB hG)
        generalize (toldT (l, none)).2.1 = q at hq1 hq2 hq3 ⊢
        generalize (toldT (l, none)).2.2 = qs at hq3 hsl hpcm hlcm h65 hbm ⊢
        have hE2 := fun β' (hs : SL β' [] 1 qs.length (by8 qs) pm) => Write_p β' { q with mv := .slice pm qs.length cm } (hq1.mv _) qs pm qs.length cm rfl rfl hbm hs (by omega)
        unfold WriR at hE2
        rw [wri_mv q hq1, hq3] at hE2
        dsimp only [Rs.cells] at hE2 ⊢
        repeat' (first | refine KW.seq ?_ | refine KW.region ?_ | refine KO.nil ?_ | refine At.then_normal ?_ | refine KW.skip ?_ | refine KW.cond_f rfl (by first | decide) ?_ | ((first | apply KO.val rfl rfl rfl ?kq ?_ ); (case kq => ((first | apply qt_ev rfl ?hi | ((first | apply qt_loadN rfl rfl ?hi rfl rfl rfl ?hm ?hc); (case hm => repeat (first | exact List.Mem.head _ )); (case hc => rfl)) | apply qt_nes rfl rfl rfl ?hi rfl (Or.inr ⟨rfl, rfl, rfl⟩)); (case hi => (intro h; (repeat' (first | with_reducible exact alln | with_reducible refine allc ?_ ?_ | with_reducible refine andi ?_ ?_)); all_goals (first | with_reducible rfl )))))) | (refine KO.alloc rfl rfl rfl rfl rfl rfl ?_; intro _ _) | (apply KO.store (i := _) rfl rfl rfl rfl rfl rfl rfl rfl ?hl ?sg ?hw ?ho ?hs; (case sg => first | exact (rfl : getI 0 _ = _) ); (case hl => rfl); (case hw => rfl); (case ho => rfl); (case hs => rfl)) | fail)
        rename_i bq _
        refine KO.callB [] ((bq, cl [.int .i64 q.st, .int .i64 q.op, .int .u64 (q.tok : Int), .int .i64 q.unit, .int .i64 q.ax, .int .i64 q.ay, .int .i64 q.new, .int .i64 q.expl, .int .i64 q.ver, .bool q.hit, .int .u64 (q.cost : Int), .int .i64 q.settled, .int .i64 q.left, (.slice pm qs.length cm), .int .i64 q.units, .int .i64 q.cache, .int .i64 q.sess] 44) :: (σ2 ++ [(bx, cl [.int .i64 x.st, .int .i64 x.op, .int .u64 (x.tok : Int), .int .i64 x.unit, .int .i64 x.ax, .int .i64 x.ay, .int .i64 x.new, .int .i64 x.expl, .int .i64 x.ver, .bool x.hit, .int .u64 (x.cost : Int), .int .i64 x.settled, .int .i64 x.left, (.slice px k cx), .int .i64 x.units, .int .i64 x.cache, .int .i64 x.sess] 44), (br, cl [.int .i64 r.st, .int .i64 r.op, .int .u64 (r.tok : Int), .int .i64 r.unit, .int .i64 r.ax, .int .i64 r.ay, .int .i64 r.new, .int .i64 r.expl, .int .i64 r.ver, .bool r.hit, .int .u64 (r.cost : Int), .int .i64 r.settled, .int .i64 r.left, (.slice p m c), .int .i64 r.units, .int .i64 r.cache, .int .i64 r.sess] 44)])) (by classical exact List.perm_iff_count.2 (fun _ => by first | (simp only [List.count_append, List.count_cons, List.count_nil, List.append_assoc, List.cons_append, List.nil_append]; done) )) rfl rfl rfl rfl rfl rfl rfl (fun β' g1 g2 => hE2 β' (SL.frz (φ := σ2) g1 (fun q hq => g2 q (by simp [hq])) hsl)) ?_
        rintro _ _ ⟨bc, rfl, rfl⟩
        have hs := fun (σ : Heap) (h1 : (bc, cl (by8 l) 5) ∈ σ) => same_p E.β σ l l pl (some ⟨bc, 0, none⟩) d l.length n l.length hl rfl (hv.mono (fun _ h => by cases h)) (SL.ofBlk h1 (by simp [by8_len])) (by omega)
        simp only [decide_true] at hs
        repeat' (first | refine KW.seq ?_ | refine KW.region ?_ | refine KO.nil ?_ | refine At.then_normal ?_ | refine KW.ret ?_ | ((first | apply KO.val rfl rfl rfl ?kq ?_ ); (case kq => ((first | apply qt_ev rfl ?hi | refine qt_callQ rfl rfl ?hi (fun hg => hs _ (by simp)) | refine qt_callQ rfl rfl ?hi (fun hg => Tr.quiet (awakeW_p _)) | apply qt_pick_t rfl rfl (by first | with_reducible rfl ) rfl ?hi | apply qt_eqs rfl rfl rfl ?hi rfl (Or.inr ⟨rfl, rfl, rfl⟩) ); (case hi => (intro h; (repeat' (first | with_reducible exact alln | with_reducible refine allc ?_ ?_ | with_reducible refine andi ?_ ?_)); all_goals (first | with_reducible rfl )))))) | fail)
        ((first | apply At.done_ret ); (focus (repeat' (first | exact ResVs.nil' | apply ResVs.cons' | exact ResV.tmp' rfl ))); dsimp only [resVal])
      · rw [hG] at h2
        obtain ⟨f1, f2, rfl, rfl⟩ := h2
        have hZ := Same_p E.β zR zR [] [] none none 0 0 0 0 rfl rfl rfl rfl (SL.nil8 _ _) (SL.nil8 _ _) (by omega) (by omega)
        simp only [decide_true, eqB_self] at hZ
        dsimp only [Rs.cells, zR] at hZ ⊢
        repeat' (first | refine KW.seq ?_ | refine KW.region ?_ | refine KO.nil ?_ | refine At.then_normal ?_ | refine KW.ret ?_ | refine At.then_ret ?_ | refine KW.cond_t rfl (by first | decide) ?_ | ((first | apply KO.val rfl rfl rfl ?kq ?_ ); (case kq => ((first | apply qt_ev rfl ?hi | ((first | apply qt_loadN rfl rfl ?hi rfl rfl rfl ?hm ?hc); (case hm => repeat (first | exact List.Mem.head _ )); (case hc => rfl)) | refine qt_callQ rfl rfl ?hi (fun hg => Tr.quiet hZ) | refine qt_callQ rfl rfl ?hi (fun hg => Tr.quiet (awakeW_p _)) | apply qt_pick_t rfl rfl (by first | with_reducible rfl ) rfl ?hi | apply qt_build rfl rfl ?hi rfl | apply qt_nes rfl rfl rfl ?hi rfl (Or.inl rfl) ); (case hi => (intro h; (repeat' (first | with_reducible exact alln | with_reducible refine allc ?_ ?_ | with_reducible refine andi ?_ ?_)); all_goals (first | with_reducible rfl )))))) | (refine KO.alloc rfl rfl rfl rfl rfl rfl ?_; intro _ _) | (apply KO.store (i := _) rfl rfl rfl rfl rfl rfl rfl rfl ?hl ?sg ?hw ?ho ?hs; (case sg => first | exact (rfl : getI 0 _ = _) ); (case hl => rfl); (case hw => rfl); (case ho => rfl); (case hs => rfl)) | fail)
        ((first | apply At.done_ret ); (focus (repeat' (first | exact ResVs.nil' | apply ResVs.cons' | exact ResV.tmp' rfl ))); dsimp only [resVal])
theorem u64_nat {t : Int} (h : (Lit.int .u64 t).wf = true) : ∃ n : Nat, t = n ∧ n < 18446744073709551616 := by
  simp only [Lit.wf, Bool.and_eq_true, decide_eq_true_eq] at h
  have h1 : (0 : Int) ≤ t := h.1
  have h2 : t ≤ 18446744073709551615 := h.2
  exact ⟨t.toNat, by omega, by omega⟩
theorem MsgTells_c (β : Nat → Option Obj) (ht : TB β) (vs : List Value) (hrd : RdVs Tryd.prog β [44, 44, 27] vs) : Go.K.PureB Tryd.prog 5 vs.toArray β (.bool true) := by
  obtain ⟨va0, vr0, rfl, ha0, hrd⟩ := hrd.cons
  obtain ⟨va1, vr1, rfl, ha1, hrd⟩ := hrd.cons
  obtain ⟨va2, vr2, rfl, ha2, hrd⟩ := hrd.cons
  obtain rfl := hrd.nil
  obtain ⟨vc0, rfl, hq0⟩ := rdV_agg (k := 8) (ts := [32, 3, 22, 3, 3, 3, 3, 3, 3, 4, 22, 3, 3, 27, 3, 3, 3]) ha0 (by kernel_rfl) (by kernel_rfl)
  obtain ⟨vl0_0, vm0_0, rfl, hl0_0, hq0⟩ := hq0.cons
  obtain ⟨vl0_1, vm0_1, rfl, hl0_1, hq0⟩ := hq0.cons
  obtain ⟨vl0_2, vm0_2, rfl, hl0_2, hq0⟩ := hq0.cons
  obtain ⟨vl0_3, vm0_3, rfl, hl0_3, hq0⟩ := hq0.cons
  obtain ⟨vl0_4, vm0_4, rfl, hl0_4, hq0⟩ := hq0.cons
  obtain ⟨vl0_5, vm0_5, rfl, hl0_5, hq0⟩ := hq0.cons
  obtain ⟨vl0_6, vm0_6, rfl, hl0_6, hq0⟩ := hq0.cons
  obtain ⟨vl0_7, vm0_7, rfl, hl0_7, hq0⟩ := hq0.cons
  obtain ⟨vl0_8, vm0_8, rfl, hl0_8, hq0⟩ := hq0.cons
  obtain ⟨vl0_9, vm0_9, rfl, hl0_9, hq0⟩ := hq0.cons
  obtain ⟨vl0_10, vm0_10, rfl, hl0_10, hq0⟩ := hq0.cons
  obtain ⟨vl0_11, vm0_11, rfl, hl0_11, hq0⟩ := hq0.cons
  obtain ⟨vl0_12, vm0_12, rfl, hl0_12, hq0⟩ := hq0.cons
  obtain ⟨vl0_13, vm0_13, rfl, hl0_13, hq0⟩ := hq0.cons
  obtain ⟨vl0_14, vm0_14, rfl, hl0_14, hq0⟩ := hq0.cons
  obtain ⟨vl0_15, vm0_15, rfl, hl0_15, hq0⟩ := hq0.cons
  obtain ⟨vl0_16, vm0_16, rfl, hl0_16, hq0⟩ := hq0.cons
  obtain rfl := hq0.nil
  obtain ⟨st, rfl, hb_st⟩ := rd_i64 Tryd.underlying32 hl0_0
  obtain ⟨op, rfl, hb_op⟩ := rd_i64 Tryd.underlying3 hl0_1
  obtain ⟨tok, rfl, hb_tok⟩ := rd_int Tryd.underlying22 hl0_2
  obtain ⟨unit, rfl, hb_unit⟩ := rd_i64 Tryd.underlying3 hl0_3
  obtain ⟨ax, rfl, hb_ax⟩ := rd_i64 Tryd.underlying3 hl0_4
  obtain ⟨ay, rfl, hb_ay⟩ := rd_i64 Tryd.underlying3 hl0_5
  obtain ⟨new, rfl, hb_new⟩ := rd_i64 Tryd.underlying3 hl0_6
  obtain ⟨expl, rfl, hb_expl⟩ := rd_i64 Tryd.underlying3 hl0_7
  obtain ⟨ver, rfl, hb_ver⟩ := rd_i64 Tryd.underlying3 hl0_8
  obtain ⟨hit, rfl⟩ := rd_bool Tryd.underlying4 hl0_9
  obtain ⟨cost, rfl, hb_cost⟩ := rd_int Tryd.underlying22 hl0_10
  obtain ⟨settled, rfl, hb_settled⟩ := rd_i64 Tryd.underlying3 hl0_11
  obtain ⟨left, rfl, hb_left⟩ := rd_i64 Tryd.underlying3 hl0_12
  obtain ⟨mv_p, mv_m, mv_c, mv, rfl, hb_mv⟩ := rd_bytes Tryd.underlying27 Tryd.underlying5 (by kernel_rfl) (by kernel_rfl) (by kernel_rfl) hl0_13
  obtain ⟨units, rfl, hb_units⟩ := rd_i64 Tryd.underlying3 hl0_14
  obtain ⟨cache, rfl, hb_cache⟩ := rd_i64 Tryd.underlying3 hl0_15
  obtain ⟨sess, rfl, hb_sess⟩ := rd_i64 Tryd.underlying3 hl0_16
  obtain ⟨vc1, rfl, hq1⟩ := rdV_agg (k := 8) (ts := [32, 3, 22, 3, 3, 3, 3, 3, 3, 4, 22, 3, 3, 27, 3, 3, 3]) ha1 (by kernel_rfl) (by kernel_rfl)
  obtain ⟨vl1_0, vm1_0, rfl, hl1_0, hq1⟩ := hq1.cons
  obtain ⟨vl1_1, vm1_1, rfl, hl1_1, hq1⟩ := hq1.cons
  obtain ⟨vl1_2, vm1_2, rfl, hl1_2, hq1⟩ := hq1.cons
  obtain ⟨vl1_3, vm1_3, rfl, hl1_3, hq1⟩ := hq1.cons
  obtain ⟨vl1_4, vm1_4, rfl, hl1_4, hq1⟩ := hq1.cons
  obtain ⟨vl1_5, vm1_5, rfl, hl1_5, hq1⟩ := hq1.cons
  obtain ⟨vl1_6, vm1_6, rfl, hl1_6, hq1⟩ := hq1.cons
  obtain ⟨vl1_7, vm1_7, rfl, hl1_7, hq1⟩ := hq1.cons
  obtain ⟨vl1_8, vm1_8, rfl, hl1_8, hq1⟩ := hq1.cons
  obtain ⟨vl1_9, vm1_9, rfl, hl1_9, hq1⟩ := hq1.cons
  obtain ⟨vl1_10, vm1_10, rfl, hl1_10, hq1⟩ := hq1.cons
  obtain ⟨vl1_11, vm1_11, rfl, hl1_11, hq1⟩ := hq1.cons
  obtain ⟨vl1_12, vm1_12, rfl, hl1_12, hq1⟩ := hq1.cons
  obtain ⟨vl1_13, vm1_13, rfl, hl1_13, hq1⟩ := hq1.cons
  obtain ⟨vl1_14, vm1_14, rfl, hl1_14, hq1⟩ := hq1.cons
  obtain ⟨vl1_15, vm1_15, rfl, hl1_15, hq1⟩ := hq1.cons
  obtain ⟨vl1_16, vm1_16, rfl, hl1_16, hq1⟩ := hq1.cons
  obtain rfl := hq1.nil
  obtain ⟨xst, rfl, hb_xst⟩ := rd_i64 Tryd.underlying32 hl1_0
  obtain ⟨xop, rfl, hb_xop⟩ := rd_i64 Tryd.underlying3 hl1_1
  obtain ⟨xtok, rfl, hb_xtok⟩ := rd_int Tryd.underlying22 hl1_2
  obtain ⟨xunit, rfl, hb_xunit⟩ := rd_i64 Tryd.underlying3 hl1_3
  obtain ⟨xax, rfl, hb_xax⟩ := rd_i64 Tryd.underlying3 hl1_4
  obtain ⟨xay, rfl, hb_xay⟩ := rd_i64 Tryd.underlying3 hl1_5
  obtain ⟨xnew, rfl, hb_xnew⟩ := rd_i64 Tryd.underlying3 hl1_6
  obtain ⟨xexpl, rfl, hb_xexpl⟩ := rd_i64 Tryd.underlying3 hl1_7
  obtain ⟨xver, rfl, hb_xver⟩ := rd_i64 Tryd.underlying3 hl1_8
  obtain ⟨xhit, rfl⟩ := rd_bool Tryd.underlying4 hl1_9
  obtain ⟨xcost, rfl, hb_xcost⟩ := rd_int Tryd.underlying22 hl1_10
  obtain ⟨xsettled, rfl, hb_xsettled⟩ := rd_i64 Tryd.underlying3 hl1_11
  obtain ⟨xleft, rfl, hb_xleft⟩ := rd_i64 Tryd.underlying3 hl1_12
  obtain ⟨xmv_p, xmv_m, xmv_c, xmv, rfl, hb_xmv⟩ := rd_bytes Tryd.underlying27 Tryd.underlying5 (by kernel_rfl) (by kernel_rfl) (by kernel_rfl) hl1_13
  obtain ⟨xunits, rfl, hb_xunits⟩ := rd_i64 Tryd.underlying3 hl1_14
  obtain ⟨xcache, rfl, hb_xcache⟩ := rd_i64 Tryd.underlying3 hl1_15
  obtain ⟨xsess, rfl, hb_xsess⟩ := rd_i64 Tryd.underlying3 hl1_16
  have hq2 := rdV_one ha2 (by kernel_rfl)
  obtain ⟨b_p, b_m, b_c, b, rfl, hb_b⟩ := rd_bytes Tryd.underlying27 Tryd.underlying5 (by kernel_rfl) (by kernel_rfl) (by kernel_rfl) hq2
  obtain ⟨tok, rfl, h1⟩ := u64_nat hb_tok
  obtain ⟨cost, rfl, h2⟩ := u64_nat hb_cost
  obtain ⟨xtok, rfl, h3⟩ := u64_nat hb_xtok
  obtain ⟨xcost, rfl, h4⟩ := u64_nat hb_xcost
  exact MsgTells_p β ht ⟨st, op, tok, unit, ax, ay, new, expl, ver, hit, cost, settled, left, .slice mv_p mv_m mv_c, units, cache, sess⟩ ⟨hb_st, hb_op, h1, hb_unit, hb_ax, hb_ay, hb_new, hb_expl, hb_ver, h2, hb_settled, hb_left, hb_units, hb_cache, hb_sess⟩ mv mv_p mv_m mv_c rfl hb_mv.len hb_mv.byt hb_mv.sl ⟨xst, xop, xtok, xunit, xax, xay, xnew, xexpl, xver, xhit, xcost, xsettled, xleft, .slice xmv_p xmv_m xmv_c, xunits, xcache, xsess⟩ ⟨hb_xst, hb_xop, h3, hb_xunit, hb_xax, hb_xay, hb_xnew, hb_xexpl, hb_xver, h4, hb_xsettled, hb_xleft, hb_xunits, hb_xcache, hb_xsess⟩ xmv xmv_p xmv_m xmv_c rfl hb_xmv.len hb_xmv.byt hb_xmv.sl b_m b_c b b_p hb_b.len hb_b.byt hb_b.sl hb_b.none
set_option maxRecDepth 100000 in
theorem MsgTells_lifted (os : Os) (started : os.Started) (H : Type) (enc : TypeId × Value → H) :
    ReturnsInHanded {} Tryd.checked os 5 .any (fun w args => (Rows.msgTellsSpec.pre enc Tryd.prog Tryd.f5 [] false w args ∧ laidMetH Tryd.prog laidL w) ∧ sizedMet enc Tryd.prog Tryd.f5 (OpenSpec.ofChange Rows.msgTellsSpec) false w args) (Rows.msgTellsSpec.post enc Tryd.prog Tryd.f5 false true false false) :=
  law_liftL (C := Tryd.checked) (laid := laidL) (Tb := TB) Tryd.own started (by kernel_rfl) Tryd.func5
    (ChangeSpec.witness_shaped (enc := enc) (C := Tryd.checked) (os := os) (X := fun w _ => laidMetH Tryd.prog laidL w) false (World.doorLaid Tryd.prog 400 os) #[.agg #[.int .i64 0, .int .i64 0, .int .u64 0, .int .i64 0, .int .i64 0, .int .i64 0, .int .i64 0, .int .i64 0, .int .i64 0, .bool false, .int .u64 0, .int .i64 0, .int .i64 0, .slice none 0 0, .int .i64 0, .int .i64 0, .int .i64 0], .agg #[.int .i64 0, .int .i64 0, .int .u64 0, .int .i64 0, .int .i64 0, .int .i64 0, .int .i64 0, .int .i64 0, .int .i64 0, .bool false, .int .u64 0, .int .i64 0, .int .i64 0, .slice none 0 0, .int .i64 0, .int .i64 0, .int .i64 0], .slice none 0 0] 8 rfl (World.shaped_of_RefB (by kernel_rfl) (by kernel_rfl)) (by kernel_rfl) (by kernel_rfl) (by kernel_rfl) (door_met os _))
    Tryd.laidOut rfl (by kernel_rfl) (by kernel_rfl) rfl Tryd.underlying4
    (fun ds h => by
      have h' : ds.length = 3 := h
      match ds, h' with
      | [_, _, _], _ => rfl)
    tb_of (fun β vs h ht => MsgTells_c β ht vs h)

theorem MsgTells_holds : Rows.MsgTellsSaid :=
  OpenClaim.holds_of_wide 5 Tryd.f5 rfl rfl rfl rfl rfl rfl rfl ⟨rfl, rfl, rfl, rfl, rfl⟩ rfl rfl rfl rfl rfl (by kernel_rfl) Tryd.func5 (by kernel_rfl)
    (of_decide_eq_true (by kernel_rfl)) (by unfold Func.isWrapper; first | (rw [if_neg (by decide +kernel)]; exact ⟨rfl, rfl⟩))
    (fun os started H enc _ => MsgTells_lifted os started H enc)
theorem MsgTells_card : Rows.MsgTellsCardSaid :=
  Claim7.holds_tied_plain_at .later [] [.handle] true (true, "9b5da6f2840a215d410c8f54959855c8ec1c8453c8fb6315fb33309d85292c9f") true
    MsgTells_holds (fun _ h => by cases h) (by kernel_rfl) (fun _ h => by cases h) msgTells_row_tie rfl ⟨rfl, rfl⟩ (by kernel_rfl) rfl
    (fun f fn hf hfn => by
      obtain rfl : f = 5 := Option.some.inj ((show Tryd.prog.funcNamed "gloaming/gloaminglaw20.MsgTells" = some 5 by kernel_rfl).symm.trans hf) |>.symm
      obtain rfl : fn = Tryd.f5 := (Option.some.inj (Tryd.func5.symm.trans hfn)).symm
      refine ⟨by kernel_rfl, fun j t ht => ?_⟩
      rw [Tryd.params5] at ht
      have hall : ([44, 44, 27].all fun t => !Tryd.prog.wantsStandIn t) = true := by kernel_rfl
      have hm : t ∈ [44, 44, 27] := by have := Array.mem_of_getElem? ht; simpa using this
      have := List.all_eq_true.1 hall t hm
      have h5 : Tryd.prog.wantsStandIn t = false := by simpa using this
      exact h5)
    (by kernel_rfl)
end Go.Proofs.YtnaclkdjchnbpaaDoor
end

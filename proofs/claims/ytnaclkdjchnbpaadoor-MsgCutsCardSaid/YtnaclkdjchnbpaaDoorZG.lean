/- MsgCuts: each beginning of a payload that is right, but all of it, is too short, and each longer one too long. -/
import Derived.Test.YtnaclkdjchnbpaaDoorZF
section
namespace Go.Proofs.YtnaclkdjchnbpaaDoor
open Go Go.K

theorem Md.bytes_len (md : Md) : md.bytes.length = md.len := by cases md <;> rfl
theorem encB_len (r : Rq) : (encB r).length ≤ 100 := by
  unfold encB
  rw [Md.bytes_len]
  have h : (stepR (.put []) r).1.len ≤ 0 + 100 := stepR_len (.put []) r
  omega
def ParW (l : List Nat) (v : Value) (σ : Heap) : Prop := match parF l with
  | some y => ∃ e1 e2, v = .tuple #[.agg zR.cells.toArray, .iface 100 (.pointer (some ⟨e1, 0, none⟩))] ∧ σ = [(e1, cl [.string sRes, .iface 100 (.pointer (some ⟨e2, 0, none⟩))] 108), (e2, cl [.string y.1, .iface 32 (.int .i64 y.2)] 108)]
  | none => ∃ p n c, v = .tuple #[.agg { (toldT (l, none)).2.1 with mv := .slice p n c }.cells.toArray, .nilIface]
theorem ParseW_p (β : Nat → Option Obj) (ht : TBE β) (m c : Nat) (l : List Nat) (p : Option Addr) (hl : l.length = m) (hB : Byt l) (hv : SL β [] 1 m (by8 l) p) (hpc : p = none → c = 0 ∧ m = 0) (hm : m ≤ 900000) :
    Go.K.Tr Tryd.prog 21 [.slice p m c] β [] (fun v σ' => ParW l v σ') := by
  refine (Parse_p β ht m c l p hl hB hv hpc hm).mono ?_
  intro v σ h
  unfold ParR at h
  unfold ParW
  rcases hp : parF l with _ | y
  · rw [hp] at h
    obtain ⟨mv, hmv, rfl⟩ := h
    obtain ⟨pm, nm, cm, rfl⟩ := hmv.slice
    exact ⟨pm, nm, cm, rfl⟩
  · rw [hp] at h
    exact h
theorem WriR_t {r : Rs} {ms : List Nat} {v : Value} {σ : Heap} (h : WriR r ms v σ) : ∃ p n c w, v = .tuple #[.slice p n c, w] := by
  unfold WriR at h
  generalize wri r ms = q at h
  obtain ⟨y, o⟩ := q
  rcases y with _ | y
  · obtain ⟨b, rfl, _⟩ := h
    exact ⟨_, _, _, _, rfl⟩
  · obtain ⟨ev, ε, _, rfl, _⟩ := h
    exact ⟨_, _, _, _, rfl⟩
set_option maxHeartbeats 16000000 in
theorem MsgCuts_p (β : Nat → Option Obj) (ht : TB β) (r : Rq) (hr : r.Ok)
    (x : Rs) (hx : x.Ok) (ns : List Nat) (px : Option Addr) (k cx : Nat) (hmx : x.mv = .slice px k cx) (hk : ns.length = k) (hN : Byt ns) (hpx : SL β [] 1 k (by8 ns) px)
    (y : Int) (hy : I64 y) (n d : Nat) (l : List Nat) (pl : Option Addr) (hl : l.length = n) (hB : Byt l) (hv : SL β [] 1 n (by8 l) pl) (hpc : pl = none → d = 0 ∧ n = 0) : Go.K.PureB Tryd.prog 7 #[.agg r.cells.toArray, .agg x.cells.toArray, .agg #[.int .i64 y, .slice pl n d]] β (.bool true) := by
  refine Tr.pureB (Tr.of_body Tryd.tt (args := [.agg r.cells.toArray, .agg x.cells.toArray, .agg #[.int .i64 y, .slice pl n d]]) (fr := [(0, true, .agg r.cells.toArray), (1, true, .agg x.cells.toArray), (2, true, .agg #[.int .i64 y, .slice pl n d])]) Tryd.func7 rfl (by decide) rfl Tryd.ntmps7 rfl rfl ?_)
  intro E hE
  subst hE
  by_cases hbig : 100 < k ∨ 50 < n ∨ y < 0
  · dsimp only [Rs.cells, Rq.cells]
    rw [hmx]
    have htr := trivial
    repeat' (first | refine KW.seq ?_ | refine KW.region ?_ | refine KO.nil ?_ | refine At.then_normal ?_ | refine KW.skip ?_ | refine KW.ret ?_ | refine At.then_ret ?_ | ((first | apply KO.val rfl rfl rfl ?kq ?_ ); (case kq => ((first | apply qt_ev rfl ?hi | ((first | apply qt_load1 rfl rfl ?hi rfl rfl ?hm ?hc | apply qt_loadN rfl rfl ?hi rfl rfl rfl ?hm ?hc); (case hm => repeat (first | exact List.Mem.head _ | apply List.Mem.tail _ )); (case hc => rfl)) | refine qt_callQ rfl rfl ?hi (fun hg => Tr.quiet (awakeW_p _)) | ((first | apply qt_pick_or rfl rfl rfl ?hi ?pj); (case pj => (intro h h2; first | (rw [h2]; rfl) ))) ); (case hi => (intro h; (repeat' (first | with_reducible exact alln | with_reducible refine allc ?_ ?_ )); all_goals (first | with_reducible rfl | with_reducible exact h )))))) | (refine KO.box rfl rfl rfl rfl rfl rfl ?_; intro _ _) | (refine KW.cond rfl ?_ ?_ <;> (intro hc; try simp only [kBool] at hc)) | (exfalso; omega) | fail)
    ((first | apply At.done_ret ); (focus (repeat' (first | exact ResVs.nil' | apply ResVs.cons' | exact ResV.tmp' rfl ))); dsimp only [resVal])
  have hA := Encode_p E.β r hr
  have hW := Write_p E.β x hx ns px k cx hmx hk hN hpx (by omega)
  dsimp only [Rs.cells, Rq.cells] at hA hW ⊢
  simp only [hmx] at hA hW ⊢
  have htr := trivial
  repeat' (first | refine KW.seq ?_ | refine KW.region ?_ | refine KO.nil ?_ | refine At.then_normal ?_ | refine KW.skip ?_ | ((first | apply KO.val rfl rfl rfl ?kq ?_ ); (case kq => ((first | apply qt_ev rfl ?hi | ((first | apply qt_load1 rfl rfl ?hi rfl rfl ?hm ?hc | apply qt_loadN rfl rfl ?hi rfl rfl rfl ?hm ?hc); (case hm => repeat (first | exact List.Mem.head _ | apply List.Mem.tail _ )); (case hc => rfl)) | ((first | apply qt_pick_or rfl rfl rfl ?hi ?pj); (case pj => (intro h h2; first | (rw [h2]; rfl) ))) ); (case hi => (intro h; (repeat' (first | with_reducible exact alln | with_reducible refine allc ?_ ?_ )); all_goals (first | with_reducible rfl | with_reducible exact h )))))) | (refine KO.box rfl rfl rfl rfl rfl rfl ?_; intro _ _) | (refine KW.cond rfl ?_ ?_ <;> (intro hc; try simp only [kBool] at hc)) | (exfalso; omega) | fail)
  rename_i bR _ bX _ bY _
  refine KO.callF [] [(bY, cl [.int .i64 y, .slice pl n d] 61), (bX, cl [.int .i64 x.st, .int .i64 x.op, .int .u64 (x.tok : Int), .int .i64 x.unit, .int .i64 x.ax, .int .i64 x.ay, .int .i64 x.new, .int .i64 x.expl, .int .i64 x.ver, .bool x.hit, .int .u64 (x.cost : Int), .int .i64 x.settled, .int .i64 x.left, (.slice px k cx), .int .i64 x.units, .int .i64 x.cache, .int .i64 x.sess] 44), (bR, cl [.int .i64 r.op, .int .u64 (r.tok : Int), .int .i64 r.unit, .int .i64 r.dir, .int .i64 r.fx, .int .i64 r.fy, .int .i64 r.tx, .int .i64 r.ty] 26)] (by classical exact List.perm_iff_count.2 (fun _ => by first | (simp only [List.count_append, List.count_cons, List.count_nil, List.append_assoc, List.cons_append, List.nil_append]; done) )) rfl rfl rfl rfl rfl rfl rfl hA ?_
  intro v σb h1
  unfold EncR at h1
  rcases hF : encF r with _ | z
  · rw [hF] at h1
    obtain ⟨b1, rfl, rfl⟩ := h1
    have hBB := (enc_dec r hr hF).1
    have hdB := (enc_dec r hr hF).2.1
    have hlB := encB_len r
    have hl0 : 0 < (encB r).length := by
      rcases hq : encB r with _ | ⟨a, t⟩
      · rw [hq] at hdB; cases hdB
      · simp
    have hlL : (encB r ++ l).length = (encB r).length + n := by rw [List.length_append, hl]
    repeat' (first | refine KW.seq ?_ | refine KW.region ?_ | refine KO.nil ?_ | ((first | apply KO.val rfl rfl rfl ?kq ?_ ); (case kq => ((first | apply qt_ev rfl ?hi | ((first | apply qt_loadN rfl rfl ?hi rfl rfl rfl ?hm ?hc); (case hm => repeat (first | exact List.Mem.head _ | apply List.Mem.tail _ )); (case hc => rfl)) ); (case hi => (intro h; (repeat' (first | with_reducible exact alln | with_reducible refine allc ?_ ?_ )); all_goals (first | with_reducible rfl )))))) | fail)
    refine KO.callF [] [(b1, cl (by8 (encB r)) 5), (bY, cl [.int .i64 y, .slice pl n d] 61), (bX, cl [.int .i64 x.st, .int .i64 x.op, .int .u64 (x.tok : Int), .int .i64 x.unit, .int .i64 x.ax, .int .i64 x.ay, .int .i64 x.new, .int .i64 x.expl, .int .i64 x.ver, .bool x.hit, .int .u64 (x.cost : Int), .int .i64 x.settled, .int .i64 x.left, (.slice px k cx), .int .i64 x.units, .int .i64 x.cache, .int .i64 x.sess] 44), (bR, cl [.int .i64 r.op, .int .u64 (r.tok : Int), .int .i64 r.unit, .int .i64 r.dir, .int .i64 r.fx, .int .i64 r.fy, .int .i64 r.tx, .int .i64 r.ty] 26)] (by classical exact List.perm_iff_count.2 (fun _ => by first | (simp only [List.count_append, List.count_cons, List.count_nil, List.append_assoc, List.cons_append, List.nil_append]; done) )) rfl rfl rfl rfl rfl rfl rfl hW ?_
    intro v2 σc h2
    obtain ⟨p2, n2, c2, w2, rfl⟩ := WriR_t h2
    refine KO.perm (σ' := (b1, cl (by8 (encB r)) 5) :: (bY, cl [.int .i64 y, .slice pl n d] 61) :: (bX, cl [.int .i64 x.st, .int .i64 x.op, .int .u64 (x.tok : Int), .int .i64 x.unit, .int .i64 x.ax, .int .i64 x.ay, .int .i64 x.new, .int .i64 x.expl, .int .i64 x.ver, .bool x.hit, .int .u64 (x.cost : Int), .int .i64 x.settled, .int .i64 x.left, (.slice px k cx), .int .i64 x.units, .int .i64 x.cache, .int .i64 x.sess] 44) :: (bR, cl [.int .i64 r.op, .int .u64 (r.tok : Int), .int .i64 r.unit, .int .i64 r.dir, .int .i64 r.fx, .int .i64 r.fy, .int .i64 r.tx, .int .i64 r.ty] 26) :: σc) (by classical exact List.perm_iff_count.2 (fun _ => by first | (simp only [List.count_append, List.count_cons, List.count_nil, List.append_assoc, List.cons_append, List.nil_append]; omega))) ?_
    repeat' (first | refine KO.nil ?_ | refine At.then_normal ?_ | ((first | apply KO.val rfl rfl rfl ?kq ?_ ); (case kq => ((first | apply qt_ev rfl ?hi ); (case hi => (intro h; (repeat' (first | with_reducible exact alln | with_reducible refine allc ?_ ?_ )); all_goals (first | with_reducible rfl )))))) | fail)
    refine KW.seq ?_
    refine KW.cutS ?_ ?_
    rotate_left
    · skip
      repeat' (first | refine KW.seq ?_ | refine KW.region ?_ | refine KO.nil ?_ | refine At.then_normal ?_ | refine KW.cond_t rfl (by first | with_reducible rfl ) ?_ | ((first | apply KO.val rfl rfl rfl ?kq ?_ ); (case kq => ((first | apply qt_ev rfl ?hi | apply qt_eqs rfl rfl rfl ?hi rfl (Or.inr ⟨rfl, rfl, rfl⟩) ); (case hi => (intro h; (repeat' (first | with_reducible exact alln | with_reducible refine allc ?_ ?_ | with_reducible refine andi ?_ ?_)); all_goals (first | with_reducible rfl )))))) | fail)
      have hsB : ∀ σ : Heap, (b1, cl (by8 (encB r)) 5) ∈ σ → SL E.β σ 1 (encB r).length (by8 (encB r)) (some ⟨b1, 0, none⟩) := fun σ h => SL.ofBlk h (by simp [by8_len])
      have hcut : ∀ h, h ≤ (encB r).length → SL E.β [(b1, cl (by8 (encB r)) 5)] 1 (h - 0) (by8 ((encB r).take h)) (adv 1 (some ⟨b1, 0, none⟩) (encB r).length 0) := by
        intro h hh
        have := SL.adv (c := (encB r).length) (hsB [(b1, cl (by8 (encB r)) 5)] (List.Mem.head _)) (l := 0) (h := h) (Nat.zero_le _) hh hh
        simpa [by8, List.map_take] using this
      have hadv : ∀ k, adv 1 (some ⟨b1, 0, none⟩) (encB r).length 0 = none → (encB r).length - 0 = 0 ∧ k - 0 = 0 := by
        intro k h
        exact absurd (adv_none (p := some ⟨b1, 0, none⟩) (l := (encB r)) (fun h => by cases h) h).1 (by omega)
      refine KO.appendL (k := (encB r).length) (c := (encB r).length) (p := some ⟨b1, 0, none⟩) (news := by8 (encB r)) ((b1, cl (by8 (encB r)) 5) :: (bY, cl [.int .i64 y, .slice pl n d] 61) :: (bX, cl [.int .i64 x.st, .int .i64 x.op, .int .u64 (x.tok : Int), .int .i64 x.unit, .int .i64 x.ax, .int .i64 x.ay, .int .i64 x.new, .int .i64 x.expl, .int .i64 x.ver, .bool x.hit, .int .u64 (x.cost : Int), .int .i64 x.settled, .int .i64 x.left, (.slice px k cx), .int .i64 x.units, .int .i64 x.cache, .int .i64 x.sess] 44) :: (bR, cl [.int .i64 r.op, .int .u64 (r.tok : Int), .int .i64 r.unit, .int .i64 r.dir, .int .i64 r.fx, .int .i64 r.fy, .int .i64 r.tx, .int .i64 r.ty] 26) :: σc) [] (by classical exact List.perm_iff_count.2 (fun _ => by first | (simp only [List.count_append, List.count_cons, List.count_nil, List.append_assoc, List.cons_append, List.nil_append]; omega))) rfl rfl rfl rfl rfl rfl rfl rfl rfl rfl (by decide) (Vec.nil _ 1) (hsB _ (by simp)) (fun h => by cases h) (by8_one _) (by simp only [maxLen]; omega) (by omega) ?_
      rintro w3 φ1 hw1
      simp only [Nat.zero_add, List.nil_append] at hw1
      obtain ⟨p3, c3, rfl⟩ := hw1.len
      simp only [List.cons_append]
      repeat' (first | refine KW.seq ?_ | refine KW.region ?_ | refine KO.nil ?_ | ((first | apply KO.val rfl rfl rfl ?kq ?_ ); (case kq => ((first | apply qt_ev rfl ?hi | ((first | apply qt_load1 rfl rfl ?hi rfl rfl ?hm ?hc ); (case hm => repeat (first | exact List.Mem.head _ | apply List.Mem.tail _ )); (case hc => rfl)) ); (case hi => (intro h; (repeat' (first | with_reducible exact alln | with_reducible refine allc ?_ ?_ )); all_goals (first | with_reducible rfl )))))) | fail)
      refine KO.appendL (k := n) (c := d) (p := pl) (news := by8 l) ((b1, cl (by8 (encB r)) 5) :: (bY, cl [.int .i64 y, .slice pl n d] 61) :: (bX, cl [.int .i64 x.st, .int .i64 x.op, .int .u64 (x.tok : Int), .int .i64 x.unit, .int .i64 x.ax, .int .i64 x.ay, .int .i64 x.new, .int .i64 x.expl, .int .i64 x.ver, .bool x.hit, .int .u64 (x.cost : Int), .int .i64 x.settled, .int .i64 x.left, (.slice px k cx), .int .i64 x.units, .int .i64 x.cache, .int .i64 x.sess] 44) :: (bR, cl [.int .i64 r.op, .int .u64 (r.tok : Int), .int .i64 r.unit, .int .i64 r.dir, .int .i64 r.fx, .int .i64 r.fy, .int .i64 r.tx, .int .i64 r.ty] 26) :: σc) φ1 (by classical exact List.perm_iff_count.2 (fun _ => by first | (simp only [List.count_append, List.count_cons, List.count_nil, List.append_assoc, List.cons_append, List.nil_append]; done) )) rfl rfl rfl rfl rfl rfl rfl rfl rfl rfl (by decide) hw1 (hv.mono (fun _ h => by cases h)) hpc (by8_one _) (by simp only [maxLen]; omega) (by omega) ?_
      rintro w4 φ2 hw2
      have e4 : by8 (encB r) ++ by8 l = by8 ((encB r) ++ l) := List.map_append.symm
      have e5 : (encB r).length + n = ((encB r) ++ l).length := by rw [List.length_append, hl]
      rw [e4, e5] at hw2
      obtain ⟨p4, c4, rfl⟩ := hw2.len
      obtain ⟨b4, o4, rfl, hc4⟩ := (SL.ofVec (β := E.β) hw2 (fun q h => h)).2 (by omega)
      have hs4 : SL E.β φ2 1 ((encB r) ++ l).length (by8 ((encB r) ++ l)) (some ⟨b4, o4, none⟩) := SL.ofVec hw2 (fun q h => h)
      repeat' (first | refine KW.seq ?_ | refine KW.region ?_ | refine KO.nil ?_ | ((first | apply KO.val rfl rfl rfl ?kq ?_ ); (case kq => ((first | apply qt_ev rfl ?hi ); (case hi => (intro h; (repeat' (first | with_reducible exact alln | with_reducible refine allc ?_ ?_ )); all_goals (first | with_reducible rfl )))))) | fail)
      refine KO.callB [] (((b1, cl (by8 (encB r)) 5) :: (bY, cl [.int .i64 y, .slice pl n d] 61) :: (bX, cl [.int .i64 x.st, .int .i64 x.op, .int .u64 (x.tok : Int), .int .i64 x.unit, .int .i64 x.ax, .int .i64 x.ay, .int .i64 x.new, .int .i64 x.expl, .int .i64 x.ver, .bool x.hit, .int .u64 (x.cost : Int), .int .i64 x.settled, .int .i64 x.left, (.slice px k cx), .int .i64 x.units, .int .i64 x.cache, .int .i64 x.sess] 44) :: (bR, cl [.int .i64 r.op, .int .u64 (r.tok : Int), .int .i64 r.unit, .int .i64 r.dir, .int .i64 r.fx, .int .i64 r.fy, .int .i64 r.tx, .int .i64 r.ty] 26) :: σc) ++ φ2) (by classical exact List.perm_iff_count.2 (fun _ => by first | (simp only [List.count_append, List.count_cons, List.count_nil, List.append_assoc, List.cons_append, List.nil_append]; done) )) rfl rfl rfl rfl rfl rfl rfl (fun β' g1 g2 => Decode_p β' ((encB r) ++ l).length c4 ((encB r) ++ l) (some ⟨b4, o4, none⟩) rfl (Byt.app hBB hB) (SL.frz (φ := φ2) g1 (fun q hq => g2 q (by simp [hq])) hs4) (fun h => by cases h) (by omega)) ?_
      intro v5 σ5 h5
      refine KO.perm (σ' := ((b1, cl (by8 (encB r)) 5) :: (bY, cl [.int .i64 y, .slice pl n d] 61) :: (bX, cl [.int .i64 x.st, .int .i64 x.op, .int .u64 (x.tok : Int), .int .i64 x.unit, .int .i64 x.ax, .int .i64 x.ay, .int .i64 x.new, .int .i64 x.expl, .int .i64 x.ver, .bool x.hit, .int .u64 (x.cost : Int), .int .i64 x.settled, .int .i64 x.left, (.slice px k cx), .int .i64 x.units, .int .i64 x.cache, .int .i64 x.sess] 44) :: (bR, cl [.int .i64 r.op, .int .u64 (r.tok : Int), .int .i64 r.unit, .int .i64 r.dir, .int .i64 r.fx, .int .i64 r.fy, .int .i64 r.tx, .int .i64 r.ty] 26) :: σc) ++ (φ2 ++ σ5)) (by classical exact List.perm_iff_count.2 (fun _ => by first | (simp only [List.count_append, List.count_cons, List.count_nil, List.append_assoc, List.cons_append, List.nil_append]; omega))) ?_
      simp only [List.cons_append]
      unfold DecR at h5
      by_cases hn0 : n = 0
      · have hl0' : l = [] := List.length_eq_zero_iff.1 (by omega)
        rw [hl0', List.append_nil, hdB] at h5
        obtain ⟨rfl, rfl⟩ := h5; generalize (decS (encB r)).2.2 = q5; dsimp only [Rq.cells]
        repeat' (first | refine KW.seq ?_ | refine KW.region ?_ | refine KO.nil ?_ | refine At.then_normal ?_ | refine KW.skip ?_ | refine KW.ret ?_ | refine At.then_ret ?_ | refine At.cut_ret ?_ | ((first | apply KO.val rfl rfl rfl ?kq ?_ ); (case kq => ((first | ((first | apply qt_sliceH rfl rfl rfl ?hi rfl rfl ?om ); (case om => (intro hg; first | omega ))) | apply qt_ev rfl ?hi | ((first | apply qt_load1 rfl rfl ?hi rfl rfl ?hm ?hc ); (case hm => repeat (first | exact List.Mem.head _ | apply List.Mem.tail _ )); (case hc => rfl)) | refine qt_callQ rfl rfl ?hi (fun hg => Tr.quiet (CodeNil_p _)) | ((first | apply qt_pick_and rfl rfl rfl ?hi ?pj ); (case pj => (intro h h2; first | with_reducible exact h2 ))) ); (case hi => (intro h; (repeat' (first | with_reducible exact alln | with_reducible refine allc ?_ ?_ | with_reducible refine andi ?_ ?_)); all_goals (first | with_reducible rfl | with_reducible exact h )))))) | (refine KO.alloc rfl rfl rfl rfl rfl rfl ?_; intro _ _) | (apply KO.store (i := _) rfl rfl rfl rfl rfl rfl rfl rfl ?hl ?sg ?hw ?ho ?hs; (case sg => first | exact (rfl : getI 0 _ = _) ); (case hl => rfl); (case hw => rfl); (case ho => rfl); (case hs => rfl)) | (refine KW.cond rfl ?_ ?_ <;> (intro hc; try simp only [kBool] at hc)) | (exfalso; omega) | fail)
        · obtain ⟨nm, hsh⟩ := decF_short hBB hdB (k := y.toNat) (by omega)
          refine KO.callB [] _ (List.Perm.refl _) rfl rfl rfl rfl rfl rfl rfl (fun β' g1 g2 => Decode_p β' (y.toNat - 0) _ ((encB r).take y.toNat) _ (by rw [List.length_take]; omega) (hBB.take _) (SL.frz (φ := [(b1, cl (by8 (encB r)) 5)]) g1 (fun q hq => g2 q (by simp only [List.mem_singleton] at hq; rw [hq]; simp)) (hcut _ (by omega))) (hadv _) (by omega)) ?_
          intro v6 σ6 h6
          unfold DecR at h6
          rw [hsh] at h6
          obtain ⟨ev, ε, ⟨f3, f4, rfl, rfl⟩, rfl, rfl⟩ := h6; dsimp only [Rq.cells, Rq.zero]
          have hCo2 := fun σ (m1 : (f3, cl [.string sReq, .iface 100 (.pointer (some ⟨f4, 0, none⟩))] 108) ∈ σ) (m2 : (f4, cl [.string nm, .iface 32 (.int .i64 17)] 108) ∈ σ) => CodeT_p E.β σ ht f3 f4 sReq nm 17 ⟨.inl ⟨_, _, m1, rfl⟩, .inl ⟨_, _, m1, rfl⟩, .inl ⟨_, _, m2, rfl⟩, .inl ⟨_, _, m2, rfl⟩, trivial⟩
          repeat' (first | refine KW.seq ?_ | refine KW.region ?_ | refine KO.nil ?_ | refine At.then_normal ?_ | refine KW.skip ?_ | refine KW.cond_f rfl (by first | decide) ?_ | ((first | apply KO.val rfl rfl rfl ?kq ?_ ); (case kq => ((first | apply qt_ev rfl ?hi | refine qt_callQ rfl rfl ?hi (fun hg => hCo2 _ (by simp) (by simp)) ); (case hi => (intro h; (repeat' (first | with_reducible exact alln | with_reducible refine allc ?_ ?_ )); all_goals (first | with_reducible rfl )))))) | fail)
          refine At.cut_here (Le.sub (by repeat' (first | exact FLe.nil _ | refine FLe.cons rfl rfl ?_)) (List.Sublist.cons _ (List.Sublist.cons _ (List.Sublist.cons _ (List.sublist_append_left ((b1, cl (by8 (encB r)) 5) :: (bY, cl [.int .i64 y, .slice pl n d] 61) :: (bX, cl [.int .i64 x.st, .int .i64 x.op, .int .u64 (x.tok : Int), .int .i64 x.unit, .int .i64 x.ax, .int .i64 x.ay, .int .i64 x.new, .int .i64 x.expl, .int .i64 x.ver, .bool x.hit, .int .u64 (x.cost : Int), .int .i64 x.settled, .int .i64 x.left, (.slice px k cx), .int .i64 x.units, .int .i64 x.cache, .int .i64 x.sess] 44) :: (bR, cl [.int .i64 r.op, .int .u64 (r.tok : Int), .int .i64 r.unit, .int .i64 r.dir, .int .i64 r.fx, .int .i64 r.fy, .int .i64 r.tx, .int .i64 r.ty] 26) :: σc) _)))))
        · refine At.cut_here (Le.sub (by repeat' (first | exact FLe.nil _ | refine FLe.cons rfl rfl ?_)) (List.Sublist.cons _ (List.sublist_append_left ((b1, cl (by8 (encB r)) 5) :: (bY, cl [.int .i64 y, .slice pl n d] 61) :: (bX, cl [.int .i64 x.st, .int .i64 x.op, .int .u64 (x.tok : Int), .int .i64 x.unit, .int .i64 x.ax, .int .i64 x.ay, .int .i64 x.new, .int .i64 x.expl, .int .i64 x.ver, .bool x.hit, .int .u64 (x.cost : Int), .int .i64 x.settled, .int .i64 x.left, (.slice px k cx), .int .i64 x.units, .int .i64 x.cache, .int .i64 x.sess] 44) :: (bR, cl [.int .i64 r.op, .int .u64 (r.tok : Int), .int .i64 r.unit, .int .i64 r.dir, .int .i64 r.fx, .int .i64 r.fy, .int .i64 r.tx, .int .i64 r.ty] 26) :: σc) _)))
      · have hx5 := decF_long hBB hB (by omega) hdB
        rw [hx5] at h5
        obtain ⟨ev, ε, ⟨f1, f2, rfl, rfl⟩, rfl, rfl⟩ := h5; dsimp only [Rq.cells, Rq.zero]
        have hCo := fun σ (m1 : (f1, cl [.string sReq, .iface 100 (.pointer (some ⟨f2, 0, none⟩))] 108) ∈ σ) (m2 : (f2, cl [.string sEnd, .iface 32 (.int .i64 12)] 108) ∈ σ) => CodeT_p E.β σ ht f1 f2 sReq sEnd 12 ⟨.inl ⟨_, _, m1, rfl⟩, .inl ⟨_, _, m1, rfl⟩, .inl ⟨_, _, m2, rfl⟩, .inl ⟨_, _, m2, rfl⟩, trivial⟩
        repeat' (first | refine KW.seq ?_ | refine KW.region ?_ | refine KO.nil ?_ | refine At.then_normal ?_ | refine KW.skip ?_ | refine KW.ret ?_ | refine At.then_ret ?_ | refine At.cut_ret ?_ | ((first | apply KO.val rfl rfl rfl ?kq ?_ ); (case kq => ((first | ((first | apply qt_sliceH rfl rfl rfl ?hi rfl rfl ?om ); (case om => (intro hg; first | omega ))) | apply qt_ev rfl ?hi | ((first | apply qt_load1 rfl rfl ?hi rfl rfl ?hm ?hc ); (case hm => repeat (first | exact List.Mem.head _ | apply List.Mem.tail _ )); (case hc => rfl)) | refine qt_callQ rfl rfl ?hi (fun hg => hCo _ (by simp) (by simp)) | ((first | apply qt_pick_and rfl rfl rfl ?hi ?pj ); (case pj => (intro h h2; first | with_reducible exact h2 ))) ); (case hi => (intro h; (repeat' (first | with_reducible exact alln | with_reducible refine allc ?_ ?_ | with_reducible refine andi ?_ ?_)); all_goals (first | with_reducible rfl | with_reducible exact h )))))) | (refine KO.alloc rfl rfl rfl rfl rfl rfl ?_; intro _ _) | (apply KO.store (i := _) rfl rfl rfl rfl rfl rfl rfl rfl ?hl ?sg ?hw ?ho ?hs; (case sg => first | exact (rfl : getI 0 _ = _) ); (case hl => rfl); (case hw => rfl); (case ho => rfl); (case hs => rfl)) | (refine KW.cond rfl ?_ ?_ <;> (intro hc; try simp only [kBool] at hc)) | fail)
        · exfalso; simp at hc
        · obtain ⟨nm, hsh⟩ := decF_short hBB hdB (k := y.toNat) (by omega)
          refine KO.callB [] _ (List.Perm.refl _) rfl rfl rfl rfl rfl rfl rfl (fun β' g1 g2 => Decode_p β' (y.toNat - 0) _ ((encB r).take y.toNat) _ (by rw [List.length_take]; omega) (hBB.take _) (SL.frz (φ := [(b1, cl (by8 (encB r)) 5)]) g1 (fun q hq => g2 q (by simp only [List.mem_singleton] at hq; rw [hq]; simp)) (hcut _ (by omega))) (hadv _) (by omega)) ?_
          intro v6 σ6 h6
          unfold DecR at h6
          rw [hsh] at h6
          obtain ⟨ev, ε, ⟨f3, f4, rfl, rfl⟩, rfl, rfl⟩ := h6; dsimp only [Rq.cells, Rq.zero]
          have hCo2 := fun σ (m1 : (f3, cl [.string sReq, .iface 100 (.pointer (some ⟨f4, 0, none⟩))] 108) ∈ σ) (m2 : (f4, cl [.string nm, .iface 32 (.int .i64 17)] 108) ∈ σ) => CodeT_p E.β σ ht f3 f4 sReq nm 17 ⟨.inl ⟨_, _, m1, rfl⟩, .inl ⟨_, _, m1, rfl⟩, .inl ⟨_, _, m2, rfl⟩, .inl ⟨_, _, m2, rfl⟩, trivial⟩
          repeat' (first | refine KW.seq ?_ | refine KW.region ?_ | refine KO.nil ?_ | refine At.then_normal ?_ | refine KW.skip ?_ | refine KW.cond_f rfl (by first | decide) ?_ | ((first | apply KO.val rfl rfl rfl ?kq ?_ ); (case kq => ((first | apply qt_ev rfl ?hi | refine qt_callQ rfl rfl ?hi (fun hg => hCo2 _ (by simp) (by simp)) ); (case hi => (intro h; (repeat' (first | with_reducible exact alln | with_reducible refine allc ?_ ?_ )); all_goals (first | with_reducible rfl )))))) | fail)
          refine At.cut_here (Le.sub (by repeat' (first | exact FLe.nil _ | refine FLe.cons rfl rfl ?_)) (List.Sublist.cons _ (List.Sublist.cons _ (List.Sublist.cons _ (List.sublist_append_left ((b1, cl (by8 (encB r)) 5) :: (bY, cl [.int .i64 y, .slice pl n d] 61) :: (bX, cl [.int .i64 x.st, .int .i64 x.op, .int .u64 (x.tok : Int), .int .i64 x.unit, .int .i64 x.ax, .int .i64 x.ay, .int .i64 x.new, .int .i64 x.expl, .int .i64 x.ver, .bool x.hit, .int .u64 (x.cost : Int), .int .i64 x.settled, .int .i64 x.left, (.slice px k cx), .int .i64 x.units, .int .i64 x.cache, .int .i64 x.sess] 44) :: (bR, cl [.int .i64 r.op, .int .u64 (r.tok : Int), .int .i64 r.unit, .int .i64 r.dir, .int .i64 r.fx, .int .i64 r.fy, .int .i64 r.tx, .int .i64 r.ty] 26) :: σc) _)))))
        · refine At.cut_here (Le.sub (by repeat' (first | exact FLe.nil _ | refine FLe.cons rfl rfl ?_)) (List.Sublist.cons _ (List.sublist_append_left ((b1, cl (by8 (encB r)) 5) :: (bY, cl [.int .i64 y, .slice pl n d] 61) :: (bX, cl [.int .i64 x.st, .int .i64 x.op, .int .u64 (x.tok : Int), .int .i64 x.unit, .int .i64 x.ax, .int .i64 x.ay, .int .i64 x.new, .int .i64 x.expl, .int .i64 x.ver, .bool x.hit, .int .u64 (x.cost : Int), .int .i64 x.settled, .int .i64 x.left, (.slice px k cx), .int .i64 x.units, .int .i64 x.cache, .int .i64 x.sess] 44) :: (bR, cl [.int .i64 r.op, .int .u64 (r.tok : Int), .int .i64 r.unit, .int .i64 r.dir, .int .i64 r.fx, .int .i64 r.fy, .int .i64 r.tx, .int .i64 r.ty] 26) :: σc) _)))
    · rcases hX : wri x ns with ⟨y2, o⟩
      unfold WriR at h2
      rw [hX] at h2
      rcases y2 with _ | y2
      · obtain ⟨b2, e2, rfl⟩ := h2
        have hBB := wri_byt x hx ns o hN hX
        obtain ⟨hdB, hd1, hd2⟩ := parF_ok hBB (wri_par x hx ns o hX)
        have hlB := wri_len2 x hx ns o hX
        have hl0 : 0 < o.length := by
          rcases o with _ | ⟨a, t⟩
          · cases hdB
          · simp
        have hlL : (o ++ l).length = o.length + n := by rw [List.length_append, hl]
        simp only [Value.tuple.injEq, Array.mk.injEq, List.cons.injEq, Value.slice.injEq, and_true] at e2
        obtain ⟨⟨rfl, rfl, rfl⟩, rfl⟩ := e2
        refine KW.seq ?_
        refine KW.cutS ?_ ?_
        rotate_left
        · skip
          repeat' (first | refine KW.seq ?_ | refine KW.region ?_ | refine KO.nil ?_ | refine At.then_normal ?_ | refine KW.cond_t rfl (by first | with_reducible rfl ) ?_ | ((first | apply KO.val rfl rfl rfl ?kq ?_ ); (case kq => ((first | apply qt_ev rfl ?hi | apply qt_eqs rfl rfl rfl ?hi rfl (Or.inr ⟨rfl, rfl, rfl⟩) ); (case hi => (intro h; (repeat' (first | with_reducible exact alln | with_reducible refine allc ?_ ?_ | with_reducible refine andi ?_ ?_)); all_goals (first | with_reducible rfl )))))) | fail)
          have hsB : ∀ σ : Heap, (b2, cl (by8 o) 5) ∈ σ → SL E.β σ 1 o.length (by8 o) (some ⟨b2, 0, none⟩) := fun σ h => SL.ofBlk h (by simp [by8_len])
          have hcut : ∀ h, h ≤ o.length → SL E.β [(b2, cl (by8 o) 5)] 1 (h - 0) (by8 (o.take h)) (adv 1 (some ⟨b2, 0, none⟩) o.length 0) := by
            intro h hh
            have := SL.adv (c := o.length) (hsB [(b2, cl (by8 o) 5)] (List.Mem.head _)) (l := 0) (h := h) (Nat.zero_le _) hh hh
            simpa [by8, List.map_take] using this
          have hadv : ∀ k, adv 1 (some ⟨b2, 0, none⟩) o.length 0 = none → o.length - 0 = 0 ∧ k - 0 = 0 := by
            intro k h
            exact absurd (adv_none (p := some ⟨b2, 0, none⟩) (l := o) (fun h => by cases h) h).1 (by omega)
          refine KO.appendL (k := o.length) (c := o.length) (p := some ⟨b2, 0, none⟩) (news := by8 o) ((b1, cl (by8 (encB r)) 5) :: (bY, cl [.int .i64 y, .slice pl n d] 61) :: (bX, cl [.int .i64 x.st, .int .i64 x.op, .int .u64 (x.tok : Int), .int .i64 x.unit, .int .i64 x.ax, .int .i64 x.ay, .int .i64 x.new, .int .i64 x.expl, .int .i64 x.ver, .bool x.hit, .int .u64 (x.cost : Int), .int .i64 x.settled, .int .i64 x.left, (.slice px k cx), .int .i64 x.units, .int .i64 x.cache, .int .i64 x.sess] 44) :: (bR, cl [.int .i64 r.op, .int .u64 (r.tok : Int), .int .i64 r.unit, .int .i64 r.dir, .int .i64 r.fx, .int .i64 r.fy, .int .i64 r.tx, .int .i64 r.ty] 26) :: [(b2, cl (by8 o) 5)]) [] (by classical exact List.perm_iff_count.2 (fun _ => by first | (simp only [List.count_append, List.count_cons, List.count_nil, List.append_assoc, List.cons_append, List.nil_append]; done) )) rfl rfl rfl rfl rfl rfl rfl rfl rfl rfl (by decide) (Vec.nil _ 1) (hsB _ (by simp)) (fun h => by cases h) (by8_one _) (by simp only [maxLen]; omega) (by omega) ?_
          rintro w3 φ1 hw1
          simp only [Nat.zero_add, List.nil_append] at hw1
          obtain ⟨p3, c3, rfl⟩ := hw1.len
          simp only [List.cons_append]
          repeat' (first | refine KW.seq ?_ | refine KW.region ?_ | refine KO.nil ?_ | ((first | apply KO.val rfl rfl rfl ?kq ?_ ); (case kq => ((first | apply qt_ev rfl ?hi | ((first | apply qt_load1 rfl rfl ?hi rfl rfl ?hm ?hc ); (case hm => repeat (first | exact List.Mem.head _ | apply List.Mem.tail _ )); (case hc => rfl)) ); (case hi => (intro h; (repeat' (first | with_reducible exact alln | with_reducible refine allc ?_ ?_ )); all_goals (first | with_reducible rfl )))))) | fail)
          refine KO.appendL (k := n) (c := d) (p := pl) (news := by8 l) ((b1, cl (by8 (encB r)) 5) :: (bY, cl [.int .i64 y, .slice pl n d] 61) :: (bX, cl [.int .i64 x.st, .int .i64 x.op, .int .u64 (x.tok : Int), .int .i64 x.unit, .int .i64 x.ax, .int .i64 x.ay, .int .i64 x.new, .int .i64 x.expl, .int .i64 x.ver, .bool x.hit, .int .u64 (x.cost : Int), .int .i64 x.settled, .int .i64 x.left, (.slice px k cx), .int .i64 x.units, .int .i64 x.cache, .int .i64 x.sess] 44) :: (bR, cl [.int .i64 r.op, .int .u64 (r.tok : Int), .int .i64 r.unit, .int .i64 r.dir, .int .i64 r.fx, .int .i64 r.fy, .int .i64 r.tx, .int .i64 r.ty] 26) :: [(b2, cl (by8 o) 5)]) φ1 (by classical exact List.perm_iff_count.2 (fun _ => by first | (simp only [List.count_append, List.count_cons, List.count_nil, List.append_assoc, List.cons_append, List.nil_append]; done) )) rfl rfl rfl rfl rfl rfl rfl rfl rfl rfl (by decide) hw1 (hv.mono (fun _ h => by cases h)) hpc (by8_one _) (by simp only [maxLen]; omega) (by omega) ?_
          rintro w4 φ2 hw2
          have e4 : by8 o ++ by8 l = by8 (o ++ l) := List.map_append.symm
          have e5 : o.length + n = (o ++ l).length := by rw [List.length_append, hl]
          rw [e4, e5] at hw2
          obtain ⟨p4, c4, rfl⟩ := hw2.len
          obtain ⟨b4, o4, rfl, hc4⟩ := (SL.ofVec (β := E.β) hw2 (fun q h => h)).2 (by omega)
          have hs4 : SL E.β φ2 1 (o ++ l).length (by8 (o ++ l)) (some ⟨b4, o4, none⟩) := SL.ofVec hw2 (fun q h => h)
          repeat' (first | refine KW.seq ?_ | refine KW.region ?_ | refine KO.nil ?_ | ((first | apply KO.val rfl rfl rfl ?kq ?_ ); (case kq => ((first | apply qt_ev rfl ?hi ); (case hi => (intro h; (repeat' (first | with_reducible exact alln | with_reducible refine allc ?_ ?_ )); all_goals (first | with_reducible rfl )))))) | fail)
          refine KO.callB [] (((b1, cl (by8 (encB r)) 5) :: (bY, cl [.int .i64 y, .slice pl n d] 61) :: (bX, cl [.int .i64 x.st, .int .i64 x.op, .int .u64 (x.tok : Int), .int .i64 x.unit, .int .i64 x.ax, .int .i64 x.ay, .int .i64 x.new, .int .i64 x.expl, .int .i64 x.ver, .bool x.hit, .int .u64 (x.cost : Int), .int .i64 x.settled, .int .i64 x.left, (.slice px k cx), .int .i64 x.units, .int .i64 x.cache, .int .i64 x.sess] 44) :: (bR, cl [.int .i64 r.op, .int .u64 (r.tok : Int), .int .i64 r.unit, .int .i64 r.dir, .int .i64 r.fx, .int .i64 r.fy, .int .i64 r.tx, .int .i64 r.ty] 26) :: [(b2, cl (by8 o) 5)]) ++ φ2) (by classical exact List.perm_iff_count.2 (fun _ => by first | (simp only [List.count_append, List.count_cons, List.count_nil, List.append_assoc, List.cons_append, List.nil_append]; done) )) rfl rfl rfl rfl rfl rfl rfl (fun β' g1 g2 => ParseW_p β' (TBE.up g1 ht) (o ++ l).length c4 (o ++ l) (some ⟨b4, o4, none⟩) rfl (Byt.app hBB hB) (SL.frz (φ := φ2) g1 (fun q hq => g2 q (by simp [hq])) hs4) (fun h => by cases h) (by omega)) ?_
          intro v5 σ5 h5
          refine KO.perm (σ' := ((b1, cl (by8 (encB r)) 5) :: (bY, cl [.int .i64 y, .slice pl n d] 61) :: (bX, cl [.int .i64 x.st, .int .i64 x.op, .int .u64 (x.tok : Int), .int .i64 x.unit, .int .i64 x.ax, .int .i64 x.ay, .int .i64 x.new, .int .i64 x.expl, .int .i64 x.ver, .bool x.hit, .int .u64 (x.cost : Int), .int .i64 x.settled, .int .i64 x.left, (.slice px k cx), .int .i64 x.units, .int .i64 x.cache, .int .i64 x.sess] 44) :: (bR, cl [.int .i64 r.op, .int .u64 (r.tok : Int), .int .i64 r.unit, .int .i64 r.dir, .int .i64 r.fx, .int .i64 r.fy, .int .i64 r.tx, .int .i64 r.ty] 26) :: [(b2, cl (by8 o) 5)]) ++ (φ2 ++ σ5)) (by classical exact List.perm_iff_count.2 (fun _ => by first | (simp only [List.count_append, List.count_cons, List.count_nil, List.append_assoc, List.cons_append, List.nil_append]; omega))) ?_
          simp only [List.cons_append]
          unfold ParW at h5
          by_cases hn0 : n = 0
          · have hl0' : l = [] := List.length_eq_zero_iff.1 (by omega)
            rw [hl0', List.append_nil, hdB] at h5
            obtain ⟨pm5, nm5, cm5, rfl⟩ := h5; generalize (toldT (o, none)).2.1 = q5; dsimp only [Rs.cells]
            repeat' (first | refine KW.seq ?_ | refine KW.region ?_ | refine KO.nil ?_ | refine At.then_normal ?_ | refine KW.skip ?_ | refine KW.ret ?_ | refine At.then_ret ?_ | refine At.cut_ret ?_ | ((first | apply KO.val rfl rfl rfl ?kq ?_ ); (case kq => ((first | ((first | apply qt_sliceH rfl rfl rfl ?hi rfl rfl ?om ); (case om => (intro hg; first | omega ))) | apply qt_ev rfl ?hi | ((first | apply qt_load1 rfl rfl ?hi rfl rfl ?hm ?hc ); (case hm => repeat (first | exact List.Mem.head _ | apply List.Mem.tail _ )); (case hc => rfl)) | refine qt_callQ rfl rfl ?hi (fun hg => Tr.quiet (CodeNil_p _)) | ((first | apply qt_pick_and rfl rfl rfl ?hi ?pj ); (case pj => (intro h h2; first | with_reducible exact h2 ))) ); (case hi => (intro h; (repeat' (first | with_reducible exact alln | with_reducible refine allc ?_ ?_ | with_reducible refine andi ?_ ?_)); all_goals (first | with_reducible rfl | with_reducible exact h )))))) | (refine KO.alloc rfl rfl rfl rfl rfl rfl ?_; intro _ _) | (apply KO.store (i := _) rfl rfl rfl rfl rfl rfl rfl rfl ?hl ?sg ?hw ?ho ?hs; (case sg => first | exact (rfl : getI 0 _ = _) ); (case hl => rfl); (case hw => rfl); (case ho => rfl); (case hs => rfl)) | (refine KW.cond rfl ?_ ?_ <;> (intro hc; try simp only [kBool] at hc)) | (exfalso; omega) | fail)
            · obtain ⟨nm, hsh⟩ := parF_short hBB hdB (k := y.toNat) (by omega)
              refine KO.callB [] _ (List.Perm.refl _) rfl rfl rfl rfl rfl rfl rfl (fun β' g1 g2 => ParseW_p β' (TBE.up g1 ht) (y.toNat - 0) _ (o.take y.toNat) _ (by rw [List.length_take]; omega) (hBB.take _) (SL.frz (φ := [(b2, cl (by8 o) 5)]) g1 (fun q hq => g2 q (by simp only [List.mem_singleton] at hq; rw [hq]; simp)) (hcut _ (by omega))) (hadv _) (by omega)) ?_
              intro v6 σ6 h6
              unfold ParW at h6
              rw [hsh] at h6
              obtain ⟨f3, f4, rfl, rfl⟩ := h6; dsimp only [Rs.cells, zR]
              have hCo2 := fun σ (m1 : (f3, cl [.string sRes, .iface 100 (.pointer (some ⟨f4, 0, none⟩))] 108) ∈ σ) (m2 : (f4, cl [.string nm, .iface 32 (.int .i64 17)] 108) ∈ σ) => CodeT_p E.β σ ht f3 f4 sRes nm 17 ⟨.inl ⟨_, _, m1, rfl⟩, .inl ⟨_, _, m1, rfl⟩, .inl ⟨_, _, m2, rfl⟩, .inl ⟨_, _, m2, rfl⟩, trivial⟩
              repeat' (first | refine KW.seq ?_ | refine KW.region ?_ | refine KO.nil ?_ | refine At.then_normal ?_ | refine KW.skip ?_ | refine KW.cond_f rfl (by first | decide) ?_ | ((first | apply KO.val rfl rfl rfl ?kq ?_ ); (case kq => ((first | apply qt_ev rfl ?hi | refine qt_callQ rfl rfl ?hi (fun hg => hCo2 _ (by simp) (by simp)) ); (case hi => (intro h; (repeat' (first | with_reducible exact alln | with_reducible refine allc ?_ ?_ )); all_goals (first | with_reducible rfl )))))) | fail)
              refine At.cut_here (Le.sub (by repeat' (first | exact FLe.nil _ | refine FLe.cons rfl rfl ?_)) (List.Sublist.cons _ (List.Sublist.cons _ (List.Sublist.cons _ (List.sublist_append_left ((b1, cl (by8 (encB r)) 5) :: (bY, cl [.int .i64 y, .slice pl n d] 61) :: (bX, cl [.int .i64 x.st, .int .i64 x.op, .int .u64 (x.tok : Int), .int .i64 x.unit, .int .i64 x.ax, .int .i64 x.ay, .int .i64 x.new, .int .i64 x.expl, .int .i64 x.ver, .bool x.hit, .int .u64 (x.cost : Int), .int .i64 x.settled, .int .i64 x.left, (.slice px k cx), .int .i64 x.units, .int .i64 x.cache, .int .i64 x.sess] 44) :: (bR, cl [.int .i64 r.op, .int .u64 (r.tok : Int), .int .i64 r.unit, .int .i64 r.dir, .int .i64 r.fx, .int .i64 r.fy, .int .i64 r.tx, .int .i64 r.ty] 26) :: [(b2, cl (by8 o) 5)]) _)))))
            · refine At.cut_here (Le.sub (by repeat' (first | exact FLe.nil _ | refine FLe.cons rfl rfl ?_)) (List.Sublist.cons _ (List.sublist_append_left ((b1, cl (by8 (encB r)) 5) :: (bY, cl [.int .i64 y, .slice pl n d] 61) :: (bX, cl [.int .i64 x.st, .int .i64 x.op, .int .u64 (x.tok : Int), .int .i64 x.unit, .int .i64 x.ax, .int .i64 x.ay, .int .i64 x.new, .int .i64 x.expl, .int .i64 x.ver, .bool x.hit, .int .u64 (x.cost : Int), .int .i64 x.settled, .int .i64 x.left, (.slice px k cx), .int .i64 x.units, .int .i64 x.cache, .int .i64 x.sess] 44) :: (bR, cl [.int .i64 r.op, .int .u64 (r.tok : Int), .int .i64 r.unit, .int .i64 r.dir, .int .i64 r.fx, .int .i64 r.fy, .int .i64 r.tx, .int .i64 r.ty] 26) :: [(b2, cl (by8 o) 5)]) _)))
          · have hx5 := parF_long hBB hB (by omega) hdB
            rw [hx5] at h5
            obtain ⟨f1, f2, rfl, rfl⟩ := h5; dsimp only [Rs.cells, zR]
            have hCo := fun σ (m1 : (f1, cl [.string sRes, .iface 100 (.pointer (some ⟨f2, 0, none⟩))] 108) ∈ σ) (m2 : (f2, cl [.string sEnd, .iface 32 (.int .i64 12)] 108) ∈ σ) => CodeT_p E.β σ ht f1 f2 sRes sEnd 12 ⟨.inl ⟨_, _, m1, rfl⟩, .inl ⟨_, _, m1, rfl⟩, .inl ⟨_, _, m2, rfl⟩, .inl ⟨_, _, m2, rfl⟩, trivial⟩
            repeat' (first | refine KW.seq ?_ | refine KW.region ?_ | refine KO.nil ?_ | refine At.then_normal ?_ | refine KW.skip ?_ | refine KW.ret ?_ | refine At.then_ret ?_ | refine At.cut_ret ?_ | ((first | apply KO.val rfl rfl rfl ?kq ?_ ); (case kq => ((first | ((first | apply qt_sliceH rfl rfl rfl ?hi rfl rfl ?om ); (case om => (intro hg; first | omega ))) | apply qt_ev rfl ?hi | ((first | apply qt_load1 rfl rfl ?hi rfl rfl ?hm ?hc ); (case hm => repeat (first | exact List.Mem.head _ | apply List.Mem.tail _ )); (case hc => rfl)) | refine qt_callQ rfl rfl ?hi (fun hg => hCo _ (by simp) (by simp)) | ((first | apply qt_pick_and rfl rfl rfl ?hi ?pj ); (case pj => (intro h h2; first | with_reducible exact h2 ))) ); (case hi => (intro h; (repeat' (first | with_reducible exact alln | with_reducible refine allc ?_ ?_ | with_reducible refine andi ?_ ?_)); all_goals (first | with_reducible rfl | with_reducible exact h )))))) | (refine KO.alloc rfl rfl rfl rfl rfl rfl ?_; intro _ _) | (apply KO.store (i := _) rfl rfl rfl rfl rfl rfl rfl rfl ?hl ?sg ?hw ?ho ?hs; (case sg => first | exact (rfl : getI 0 _ = _) ); (case hl => rfl); (case hw => rfl); (case ho => rfl); (case hs => rfl)) | (refine KW.cond rfl ?_ ?_ <;> (intro hc; try simp only [kBool] at hc)) | fail)
            · exfalso; simp at hc
            · obtain ⟨nm, hsh⟩ := parF_short hBB hdB (k := y.toNat) (by omega)
              refine KO.callB [] _ (List.Perm.refl _) rfl rfl rfl rfl rfl rfl rfl (fun β' g1 g2 => ParseW_p β' (TBE.up g1 ht) (y.toNat - 0) _ (o.take y.toNat) _ (by rw [List.length_take]; omega) (hBB.take _) (SL.frz (φ := [(b2, cl (by8 o) 5)]) g1 (fun q hq => g2 q (by simp only [List.mem_singleton] at hq; rw [hq]; simp)) (hcut _ (by omega))) (hadv _) (by omega)) ?_
              intro v6 σ6 h6
              unfold ParW at h6
              rw [hsh] at h6
              obtain ⟨f3, f4, rfl, rfl⟩ := h6; dsimp only [Rs.cells, zR]
              have hCo2 := fun σ (m1 : (f3, cl [.string sRes, .iface 100 (.pointer (some ⟨f4, 0, none⟩))] 108) ∈ σ) (m2 : (f4, cl [.string nm, .iface 32 (.int .i64 17)] 108) ∈ σ) => CodeT_p E.β σ ht f3 f4 sRes nm 17 ⟨.inl ⟨_, _, m1, rfl⟩, .inl ⟨_, _, m1, rfl⟩, .inl ⟨_, _, m2, rfl⟩, .inl ⟨_, _, m2, rfl⟩, trivial⟩
              repeat' (first | refine KW.seq ?_ | refine KW.region ?_ | refine KO.nil ?_ | refine At.then_normal ?_ | refine KW.skip ?_ | refine KW.cond_f rfl (by first | decide) ?_ | ((first | apply KO.val rfl rfl rfl ?kq ?_ ); (case kq => ((first | apply qt_ev rfl ?hi | refine qt_callQ rfl rfl ?hi (fun hg => hCo2 _ (by simp) (by simp)) ); (case hi => (intro h; (repeat' (first | with_reducible exact alln | with_reducible refine allc ?_ ?_ )); all_goals (first | with_reducible rfl )))))) | fail)
              refine At.cut_here (Le.sub (by repeat' (first | exact FLe.nil _ | refine FLe.cons rfl rfl ?_)) (List.Sublist.cons _ (List.Sublist.cons _ (List.Sublist.cons _ (List.sublist_append_left ((b1, cl (by8 (encB r)) 5) :: (bY, cl [.int .i64 y, .slice pl n d] 61) :: (bX, cl [.int .i64 x.st, .int .i64 x.op, .int .u64 (x.tok : Int), .int .i64 x.unit, .int .i64 x.ax, .int .i64 x.ay, .int .i64 x.new, .int .i64 x.expl, .int .i64 x.ver, .bool x.hit, .int .u64 (x.cost : Int), .int .i64 x.settled, .int .i64 x.left, (.slice px k cx), .int .i64 x.units, .int .i64 x.cache, .int .i64 x.sess] 44) :: (bR, cl [.int .i64 r.op, .int .u64 (r.tok : Int), .int .i64 r.unit, .int .i64 r.dir, .int .i64 r.fx, .int .i64 r.fy, .int .i64 r.tx, .int .i64 r.ty] 26) :: [(b2, cl (by8 o) 5)]) _)))))
            · refine At.cut_here (Le.sub (by repeat' (first | exact FLe.nil _ | refine FLe.cons rfl rfl ?_)) (List.Sublist.cons _ (List.sublist_append_left ((b1, cl (by8 (encB r)) 5) :: (bY, cl [.int .i64 y, .slice pl n d] 61) :: (bX, cl [.int .i64 x.st, .int .i64 x.op, .int .u64 (x.tok : Int), .int .i64 x.unit, .int .i64 x.ax, .int .i64 x.ay, .int .i64 x.new, .int .i64 x.expl, .int .i64 x.ver, .bool x.hit, .int .u64 (x.cost : Int), .int .i64 x.settled, .int .i64 x.left, (.slice px k cx), .int .i64 x.units, .int .i64 x.cache, .int .i64 x.sess] 44) :: (bR, cl [.int .i64 r.op, .int .u64 (r.tok : Int), .int .i64 r.unit, .int .i64 r.dir, .int .i64 r.fx, .int .i64 r.fy, .int .i64 r.tx, .int .i64 r.ty] 26) :: [(b2, cl (by8 o) 5)]) _)))
        · skip
          repeat' (first | refine KW.seq ?_ | refine KW.region ?_ | refine KO.nil ?_ | refine At.then_normal ?_ | refine KW.ret ?_ | ((first | apply KO.val rfl rfl rfl ?kq ?_ ); (case kq => ((first | apply qt_ev rfl ?hi | refine qt_callQ rfl rfl ?hi (fun hg => Tr.quiet (awakeW_p _)) ); (case hi => (intro h; (repeat' (first | with_reducible exact alln | with_reducible refine allc ?_ ?_ )); all_goals (first | with_reducible rfl )))))) | fail)
          ((first | apply At.done_ret ); (focus (repeat' (first | exact ResVs.nil' | apply ResVs.cons' | exact ResV.tmp' rfl ))); dsimp only [resVal])
      · obtain ⟨ev2, ε2, ⟨g1, g2, rfl, rfl⟩, e2, rfl⟩ := h2
        simp only [Value.tuple.injEq, Array.mk.injEq, List.cons.injEq, Value.slice.injEq, and_true] at e2
        obtain ⟨⟨rfl, rfl, rfl⟩, rfl⟩ := e2
        repeat' (first | refine KW.seq ?_ | refine KW.region ?_ | refine KO.nil ?_ | refine At.then_normal ?_ | refine KW.skip ?_ | refine KW.ret ?_ | refine KW.cond_f rfl (by first | with_reducible rfl ) ?_ | ((first | apply KO.val rfl rfl rfl ?kq ?_ ); (case kq => ((first | apply qt_ev rfl ?hi | refine qt_callQ rfl rfl ?hi (fun hg => Tr.quiet (awakeW_p _)) | apply qt_eqs rfl rfl rfl ?hi rfl (Or.inl rfl) ); (case hi => (intro h; (repeat' (first | with_reducible exact alln | with_reducible refine allc ?_ ?_ | with_reducible refine andi ?_ ?_)); all_goals (first | with_reducible rfl )))))) | fail)
        ((first | apply At.done_ret ); (focus (repeat' (first | exact ResVs.nil' | apply ResVs.cons' | exact ResV.tmp' rfl ))); dsimp only [resVal])
  · rw [hF] at h1
    obtain ⟨ev, ε, ⟨e1, e0, rfl, rfl⟩, rfl, rfl⟩ := h1
    repeat' (first | refine KW.seq ?_ | refine KW.region ?_ | refine KO.nil ?_ | ((first | apply KO.val rfl rfl rfl ?kq ?_ ); (case kq => ((first | apply qt_ev rfl ?hi | ((first | apply qt_loadN rfl rfl ?hi rfl rfl rfl ?hm ?hc); (case hm => repeat (first | exact List.Mem.head _ | apply List.Mem.tail _ )); (case hc => rfl)) ); (case hi => (intro h; (repeat' (first | with_reducible exact alln | with_reducible refine allc ?_ ?_ )); all_goals (first | with_reducible rfl )))))) | fail)
    refine KO.callF [] [(e1, cl [.string sReq, .iface 100 (.pointer (some ⟨e0, 0, none⟩))] 108), (e0, cl [.string z.1, .iface 32 (.int .i64 z.2)] 108), (bY, cl [.int .i64 y, .slice pl n d] 61), (bX, cl [.int .i64 x.st, .int .i64 x.op, .int .u64 (x.tok : Int), .int .i64 x.unit, .int .i64 x.ax, .int .i64 x.ay, .int .i64 x.new, .int .i64 x.expl, .int .i64 x.ver, .bool x.hit, .int .u64 (x.cost : Int), .int .i64 x.settled, .int .i64 x.left, (.slice px k cx), .int .i64 x.units, .int .i64 x.cache, .int .i64 x.sess] 44), (bR, cl [.int .i64 r.op, .int .u64 (r.tok : Int), .int .i64 r.unit, .int .i64 r.dir, .int .i64 r.fx, .int .i64 r.fy, .int .i64 r.tx, .int .i64 r.ty] 26)] (by classical exact List.perm_iff_count.2 (fun _ => by first | (simp only [List.count_append, List.count_cons, List.count_nil, List.append_assoc, List.cons_append, List.nil_append]; done) )) rfl rfl rfl rfl rfl rfl rfl hW ?_
    intro v2 σc h2
    rcases hX : wri x ns with ⟨y2, o⟩
    unfold WriR at h2
    rw [hX] at h2
    rcases y2 with _ | y2
    · obtain ⟨b2, rfl, rfl⟩ := h2
      have hBB := wri_byt x hx ns o hN hX
      obtain ⟨hdB, hd1, hd2⟩ := parF_ok hBB (wri_par x hx ns o hX)
      have hlB := wri_len2 x hx ns o hX
      have hl0 : 0 < o.length := by
        rcases o with _ | ⟨a, t⟩
        · cases hdB
        · simp
      have hlL : (o ++ l).length = o.length + n := by rw [List.length_append, hl]
      repeat' (first | refine KO.nil ?_ | refine At.then_normal ?_ | ((first | apply KO.val rfl rfl rfl ?kq ?_ ); (case kq => ((first | apply qt_ev rfl ?hi ); (case hi => (intro h; (repeat' (first | with_reducible exact alln | with_reducible refine allc ?_ ?_ )); all_goals (first | with_reducible rfl )))))) | fail)
      refine KW.seq ?_
      refine KW.seq ?_
      repeat' (first | refine KW.region ?_ | refine KO.nil ?_ | refine At.then_normal ?_ | refine KW.skip ?_ | refine KW.cond_f rfl (by first | with_reducible rfl ) ?_ | ((first | apply KO.val rfl rfl rfl ?kq ?_ ); (case kq => ((first | apply qt_ev rfl ?hi | apply qt_eqs rfl rfl rfl ?hi rfl (Or.inl rfl) ); (case hi => (intro h; (repeat' (first | with_reducible exact alln | with_reducible refine allc ?_ ?_ | with_reducible refine andi ?_ ?_)); all_goals (first | with_reducible rfl )))))) | fail)
      refine KW.seq ?_
      refine KW.cutS ?_ ?_
      rotate_left
      · skip
        repeat' (first | refine KW.seq ?_ | refine KW.region ?_ | refine KO.nil ?_ | refine At.then_normal ?_ | refine KW.cond_t rfl (by first | with_reducible rfl ) ?_ | ((first | apply KO.val rfl rfl rfl ?kq ?_ ); (case kq => ((first | apply qt_ev rfl ?hi | apply qt_eqs rfl rfl rfl ?hi rfl (Or.inr ⟨rfl, rfl, rfl⟩) ); (case hi => (intro h; (repeat' (first | with_reducible exact alln | with_reducible refine allc ?_ ?_ | with_reducible refine andi ?_ ?_)); all_goals (first | with_reducible rfl )))))) | fail)
        have hsB : ∀ σ : Heap, (b2, cl (by8 o) 5) ∈ σ → SL E.β σ 1 o.length (by8 o) (some ⟨b2, 0, none⟩) := fun σ h => SL.ofBlk h (by simp [by8_len])
        have hcut : ∀ h, h ≤ o.length → SL E.β [(b2, cl (by8 o) 5)] 1 (h - 0) (by8 (o.take h)) (adv 1 (some ⟨b2, 0, none⟩) o.length 0) := by
          intro h hh
          have := SL.adv (c := o.length) (hsB [(b2, cl (by8 o) 5)] (List.Mem.head _)) (l := 0) (h := h) (Nat.zero_le _) hh hh
          simpa [by8, List.map_take] using this
        have hadv : ∀ k, adv 1 (some ⟨b2, 0, none⟩) o.length 0 = none → o.length - 0 = 0 ∧ k - 0 = 0 := by
          intro k h
          exact absurd (adv_none (p := some ⟨b2, 0, none⟩) (l := o) (fun h => by cases h) h).1 (by omega)
        refine KO.appendL (k := o.length) (c := o.length) (p := some ⟨b2, 0, none⟩) (news := by8 o) ((b2, cl (by8 o) 5) :: (e1, cl [.string sReq, .iface 100 (.pointer (some ⟨e0, 0, none⟩))] 108) :: (e0, cl [.string z.1, .iface 32 (.int .i64 z.2)] 108) :: (bY, cl [.int .i64 y, .slice pl n d] 61) :: (bX, cl [.int .i64 x.st, .int .i64 x.op, .int .u64 (x.tok : Int), .int .i64 x.unit, .int .i64 x.ax, .int .i64 x.ay, .int .i64 x.new, .int .i64 x.expl, .int .i64 x.ver, .bool x.hit, .int .u64 (x.cost : Int), .int .i64 x.settled, .int .i64 x.left, (.slice px k cx), .int .i64 x.units, .int .i64 x.cache, .int .i64 x.sess] 44) :: [(bR, cl [.int .i64 r.op, .int .u64 (r.tok : Int), .int .i64 r.unit, .int .i64 r.dir, .int .i64 r.fx, .int .i64 r.fy, .int .i64 r.tx, .int .i64 r.ty] 26)]) [] (by classical exact List.perm_iff_count.2 (fun _ => by first | (simp only [List.count_append, List.count_cons, List.count_nil, List.append_assoc, List.cons_append, List.nil_append]; done) )) rfl rfl rfl rfl rfl rfl rfl rfl rfl rfl (by decide) (Vec.nil _ 1) (hsB _ (by simp)) (fun h => by cases h) (by8_one _) (by simp only [maxLen]; omega) (by omega) ?_
        rintro w3 φ1 hw1
        simp only [Nat.zero_add, List.nil_append] at hw1
        obtain ⟨p3, c3, rfl⟩ := hw1.len
        simp only [List.cons_append]
        repeat' (first | refine KW.seq ?_ | refine KW.region ?_ | refine KO.nil ?_ | ((first | apply KO.val rfl rfl rfl ?kq ?_ ); (case kq => ((first | apply qt_ev rfl ?hi | ((first | apply qt_load1 rfl rfl ?hi rfl rfl ?hm ?hc ); (case hm => repeat (first | exact List.Mem.head _ | apply List.Mem.tail _ )); (case hc => rfl)) ); (case hi => (intro h; (repeat' (first | with_reducible exact alln | with_reducible refine allc ?_ ?_ )); all_goals (first | with_reducible rfl )))))) | fail)
        refine KO.appendL (k := n) (c := d) (p := pl) (news := by8 l) ((b2, cl (by8 o) 5) :: (e1, cl [.string sReq, .iface 100 (.pointer (some ⟨e0, 0, none⟩))] 108) :: (e0, cl [.string z.1, .iface 32 (.int .i64 z.2)] 108) :: (bY, cl [.int .i64 y, .slice pl n d] 61) :: (bX, cl [.int .i64 x.st, .int .i64 x.op, .int .u64 (x.tok : Int), .int .i64 x.unit, .int .i64 x.ax, .int .i64 x.ay, .int .i64 x.new, .int .i64 x.expl, .int .i64 x.ver, .bool x.hit, .int .u64 (x.cost : Int), .int .i64 x.settled, .int .i64 x.left, (.slice px k cx), .int .i64 x.units, .int .i64 x.cache, .int .i64 x.sess] 44) :: [(bR, cl [.int .i64 r.op, .int .u64 (r.tok : Int), .int .i64 r.unit, .int .i64 r.dir, .int .i64 r.fx, .int .i64 r.fy, .int .i64 r.tx, .int .i64 r.ty] 26)]) φ1 (by classical exact List.perm_iff_count.2 (fun _ => by first | (simp only [List.count_append, List.count_cons, List.count_nil, List.append_assoc, List.cons_append, List.nil_append]; done) )) rfl rfl rfl rfl rfl rfl rfl rfl rfl rfl (by decide) hw1 (hv.mono (fun _ h => by cases h)) hpc (by8_one _) (by simp only [maxLen]; omega) (by omega) ?_
        rintro w4 φ2 hw2
        have e4 : by8 o ++ by8 l = by8 (o ++ l) := List.map_append.symm
        have e5 : o.length + n = (o ++ l).length := by rw [List.length_append, hl]
        rw [e4, e5] at hw2
        obtain ⟨p4, c4, rfl⟩ := hw2.len
        obtain ⟨b4, o4, rfl, hc4⟩ := (SL.ofVec (β := E.β) hw2 (fun q h => h)).2 (by omega)
        have hs4 : SL E.β φ2 1 (o ++ l).length (by8 (o ++ l)) (some ⟨b4, o4, none⟩) := SL.ofVec hw2 (fun q h => h)
        repeat' (first | refine KW.seq ?_ | refine KW.region ?_ | refine KO.nil ?_ | ((first | apply KO.val rfl rfl rfl ?kq ?_ ); (case kq => ((first | apply qt_ev rfl ?hi ); (case hi => (intro h; (repeat' (first | with_reducible exact alln | with_reducible refine allc ?_ ?_ )); all_goals (first | with_reducible rfl )))))) | fail)
        refine KO.callB [] (((b2, cl (by8 o) 5) :: (e1, cl [.string sReq, .iface 100 (.pointer (some ⟨e0, 0, none⟩))] 108) :: (e0, cl [.string z.1, .iface 32 (.int .i64 z.2)] 108) :: (bY, cl [.int .i64 y, .slice pl n d] 61) :: (bX, cl [.int .i64 x.st, .int .i64 x.op, .int .u64 (x.tok : Int), .int .i64 x.unit, .int .i64 x.ax, .int .i64 x.ay, .int .i64 x.new, .int .i64 x.expl, .int .i64 x.ver, .bool x.hit, .int .u64 (x.cost : Int), .int .i64 x.settled, .int .i64 x.left, (.slice px k cx), .int .i64 x.units, .int .i64 x.cache, .int .i64 x.sess] 44) :: [(bR, cl [.int .i64 r.op, .int .u64 (r.tok : Int), .int .i64 r.unit, .int .i64 r.dir, .int .i64 r.fx, .int .i64 r.fy, .int .i64 r.tx, .int .i64 r.ty] 26)]) ++ φ2) (by classical exact List.perm_iff_count.2 (fun _ => by first | (simp only [List.count_append, List.count_cons, List.count_nil, List.append_assoc, List.cons_append, List.nil_append]; done) )) rfl rfl rfl rfl rfl rfl rfl (fun β' g1 g2 => ParseW_p β' (TBE.up g1 ht) (o ++ l).length c4 (o ++ l) (some ⟨b4, o4, none⟩) rfl (Byt.app hBB hB) (SL.frz (φ := φ2) g1 (fun q hq => g2 q (by simp [hq])) hs4) (fun h => by cases h) (by omega)) ?_
        intro v5 σ5 h5
        refine KO.perm (σ' := ((b2, cl (by8 o) 5) :: (e1, cl [.string sReq, .iface 100 (.pointer (some ⟨e0, 0, none⟩))] 108) :: (e0, cl [.string z.1, .iface 32 (.int .i64 z.2)] 108) :: (bY, cl [.int .i64 y, .slice pl n d] 61) :: (bX, cl [.int .i64 x.st, .int .i64 x.op, .int .u64 (x.tok : Int), .int .i64 x.unit, .int .i64 x.ax, .int .i64 x.ay, .int .i64 x.new, .int .i64 x.expl, .int .i64 x.ver, .bool x.hit, .int .u64 (x.cost : Int), .int .i64 x.settled, .int .i64 x.left, (.slice px k cx), .int .i64 x.units, .int .i64 x.cache, .int .i64 x.sess] 44) :: [(bR, cl [.int .i64 r.op, .int .u64 (r.tok : Int), .int .i64 r.unit, .int .i64 r.dir, .int .i64 r.fx, .int .i64 r.fy, .int .i64 r.tx, .int .i64 r.ty] 26)]) ++ (φ2 ++ σ5)) (by classical exact List.perm_iff_count.2 (fun _ => by first | (simp only [List.count_append, List.count_cons, List.count_nil, List.append_assoc, List.cons_append, List.nil_append]; omega))) ?_
        simp only [List.cons_append]
        unfold ParW at h5
        by_cases hn0 : n = 0
        · have hl0' : l = [] := List.length_eq_zero_iff.1 (by omega)
          rw [hl0', List.append_nil, hdB] at h5
          obtain ⟨pm5, nm5, cm5, rfl⟩ := h5; generalize (toldT (o, none)).2.1 = q5; dsimp only [Rs.cells]
          repeat' (first | refine KW.seq ?_ | refine KW.region ?_ | refine KO.nil ?_ | refine At.then_normal ?_ | refine KW.skip ?_ | refine KW.ret ?_ | refine At.then_ret ?_ | refine At.cut_ret ?_ | ((first | apply KO.val rfl rfl rfl ?kq ?_ ); (case kq => ((first | ((first | apply qt_sliceH rfl rfl rfl ?hi rfl rfl ?om ); (case om => (intro hg; first | omega ))) | apply qt_ev rfl ?hi | ((first | apply qt_load1 rfl rfl ?hi rfl rfl ?hm ?hc ); (case hm => repeat (first | exact List.Mem.head _ | apply List.Mem.tail _ )); (case hc => rfl)) | refine qt_callQ rfl rfl ?hi (fun hg => Tr.quiet (CodeNil_p _)) | ((first | apply qt_pick_and rfl rfl rfl ?hi ?pj ); (case pj => (intro h h2; first | with_reducible exact h2 ))) ); (case hi => (intro h; (repeat' (first | with_reducible exact alln | with_reducible refine allc ?_ ?_ | with_reducible refine andi ?_ ?_)); all_goals (first | with_reducible rfl | with_reducible exact h )))))) | (refine KO.alloc rfl rfl rfl rfl rfl rfl ?_; intro _ _) | (apply KO.store (i := _) rfl rfl rfl rfl rfl rfl rfl rfl ?hl ?sg ?hw ?ho ?hs; (case sg => first | exact (rfl : getI 0 _ = _) ); (case hl => rfl); (case hw => rfl); (case ho => rfl); (case hs => rfl)) | (refine KW.cond rfl ?_ ?_ <;> (intro hc; try simp only [kBool] at hc)) | (exfalso; omega) | fail)
          · obtain ⟨nm, hsh⟩ := parF_short hBB hdB (k := y.toNat) (by omega)
            refine KO.callB [] _ (List.Perm.refl _) rfl rfl rfl rfl rfl rfl rfl (fun β' g1 g2 => ParseW_p β' (TBE.up g1 ht) (y.toNat - 0) _ (o.take y.toNat) _ (by rw [List.length_take]; omega) (hBB.take _) (SL.frz (φ := [(b2, cl (by8 o) 5)]) g1 (fun q hq => g2 q (by simp only [List.mem_singleton] at hq; rw [hq]; simp)) (hcut _ (by omega))) (hadv _) (by omega)) ?_
            intro v6 σ6 h6
            unfold ParW at h6
            rw [hsh] at h6
            obtain ⟨f3, f4, rfl, rfl⟩ := h6; dsimp only [Rs.cells, zR]
            have hCo2 := fun σ (m1 : (f3, cl [.string sRes, .iface 100 (.pointer (some ⟨f4, 0, none⟩))] 108) ∈ σ) (m2 : (f4, cl [.string nm, .iface 32 (.int .i64 17)] 108) ∈ σ) => CodeT_p E.β σ ht f3 f4 sRes nm 17 ⟨.inl ⟨_, _, m1, rfl⟩, .inl ⟨_, _, m1, rfl⟩, .inl ⟨_, _, m2, rfl⟩, .inl ⟨_, _, m2, rfl⟩, trivial⟩
            repeat' (first | refine KW.seq ?_ | refine KW.region ?_ | refine KO.nil ?_ | refine At.then_normal ?_ | refine KW.skip ?_ | refine KW.cond_f rfl (by first | decide) ?_ | ((first | apply KO.val rfl rfl rfl ?kq ?_ ); (case kq => ((first | apply qt_ev rfl ?hi | refine qt_callQ rfl rfl ?hi (fun hg => hCo2 _ (by simp) (by simp)) ); (case hi => (intro h; (repeat' (first | with_reducible exact alln | with_reducible refine allc ?_ ?_ )); all_goals (first | with_reducible rfl )))))) | fail)
            refine At.cut_here (Le.sub (by repeat' (first | exact FLe.nil _ | refine FLe.cons rfl rfl ?_)) (List.Sublist.cons _ (List.Sublist.cons _ (List.Sublist.cons _ (List.sublist_append_left ((b2, cl (by8 o) 5) :: (e1, cl [.string sReq, .iface 100 (.pointer (some ⟨e0, 0, none⟩))] 108) :: (e0, cl [.string z.1, .iface 32 (.int .i64 z.2)] 108) :: (bY, cl [.int .i64 y, .slice pl n d] 61) :: (bX, cl [.int .i64 x.st, .int .i64 x.op, .int .u64 (x.tok : Int), .int .i64 x.unit, .int .i64 x.ax, .int .i64 x.ay, .int .i64 x.new, .int .i64 x.expl, .int .i64 x.ver, .bool x.hit, .int .u64 (x.cost : Int), .int .i64 x.settled, .int .i64 x.left, (.slice px k cx), .int .i64 x.units, .int .i64 x.cache, .int .i64 x.sess] 44) :: [(bR, cl [.int .i64 r.op, .int .u64 (r.tok : Int), .int .i64 r.unit, .int .i64 r.dir, .int .i64 r.fx, .int .i64 r.fy, .int .i64 r.tx, .int .i64 r.ty] 26)]) _)))))
          · refine At.cut_here (Le.sub (by repeat' (first | exact FLe.nil _ | refine FLe.cons rfl rfl ?_)) (List.Sublist.cons _ (List.sublist_append_left ((b2, cl (by8 o) 5) :: (e1, cl [.string sReq, .iface 100 (.pointer (some ⟨e0, 0, none⟩))] 108) :: (e0, cl [.string z.1, .iface 32 (.int .i64 z.2)] 108) :: (bY, cl [.int .i64 y, .slice pl n d] 61) :: (bX, cl [.int .i64 x.st, .int .i64 x.op, .int .u64 (x.tok : Int), .int .i64 x.unit, .int .i64 x.ax, .int .i64 x.ay, .int .i64 x.new, .int .i64 x.expl, .int .i64 x.ver, .bool x.hit, .int .u64 (x.cost : Int), .int .i64 x.settled, .int .i64 x.left, (.slice px k cx), .int .i64 x.units, .int .i64 x.cache, .int .i64 x.sess] 44) :: [(bR, cl [.int .i64 r.op, .int .u64 (r.tok : Int), .int .i64 r.unit, .int .i64 r.dir, .int .i64 r.fx, .int .i64 r.fy, .int .i64 r.tx, .int .i64 r.ty] 26)]) _)))
        · have hx5 := parF_long hBB hB (by omega) hdB
          rw [hx5] at h5
          obtain ⟨f1, f2, rfl, rfl⟩ := h5; dsimp only [Rs.cells, zR]
          have hCo := fun σ (m1 : (f1, cl [.string sRes, .iface 100 (.pointer (some ⟨f2, 0, none⟩))] 108) ∈ σ) (m2 : (f2, cl [.string sEnd, .iface 32 (.int .i64 12)] 108) ∈ σ) => CodeT_p E.β σ ht f1 f2 sRes sEnd 12 ⟨.inl ⟨_, _, m1, rfl⟩, .inl ⟨_, _, m1, rfl⟩, .inl ⟨_, _, m2, rfl⟩, .inl ⟨_, _, m2, rfl⟩, trivial⟩
          repeat' (first | refine KW.seq ?_ | refine KW.region ?_ | refine KO.nil ?_ | refine At.then_normal ?_ | refine KW.skip ?_ | refine KW.ret ?_ | refine At.then_ret ?_ | refine At.cut_ret ?_ | ((first | apply KO.val rfl rfl rfl ?kq ?_ ); (case kq => ((first | ((first | apply qt_sliceH rfl rfl rfl ?hi rfl rfl ?om ); (case om => (intro hg; first | omega ))) | apply qt_ev rfl ?hi | ((first | apply qt_load1 rfl rfl ?hi rfl rfl ?hm ?hc ); (case hm => repeat (first | exact List.Mem.head _ | apply List.Mem.tail _ )); (case hc => rfl)) | refine qt_callQ rfl rfl ?hi (fun hg => hCo _ (by simp) (by simp)) | ((first | apply qt_pick_and rfl rfl rfl ?hi ?pj ); (case pj => (intro h h2; first | with_reducible exact h2 ))) ); (case hi => (intro h; (repeat' (first | with_reducible exact alln | with_reducible refine allc ?_ ?_ | with_reducible refine andi ?_ ?_)); all_goals (first | with_reducible rfl | with_reducible exact h )))))) | (refine KO.alloc rfl rfl rfl rfl rfl rfl ?_; intro _ _) | (apply KO.store (i := _) rfl rfl rfl rfl rfl rfl rfl rfl ?hl ?sg ?hw ?ho ?hs; (case sg => first | exact (rfl : getI 0 _ = _) ); (case hl => rfl); (case hw => rfl); (case ho => rfl); (case hs => rfl)) | (refine KW.cond rfl ?_ ?_ <;> (intro hc; try simp only [kBool] at hc)) | fail)
          · exfalso; simp at hc
          · obtain ⟨nm, hsh⟩ := parF_short hBB hdB (k := y.toNat) (by omega)
            refine KO.callB [] _ (List.Perm.refl _) rfl rfl rfl rfl rfl rfl rfl (fun β' g1 g2 => ParseW_p β' (TBE.up g1 ht) (y.toNat - 0) _ (o.take y.toNat) _ (by rw [List.length_take]; omega) (hBB.take _) (SL.frz (φ := [(b2, cl (by8 o) 5)]) g1 (fun q hq => g2 q (by simp only [List.mem_singleton] at hq; rw [hq]; simp)) (hcut _ (by omega))) (hadv _) (by omega)) ?_
            intro v6 σ6 h6
            unfold ParW at h6
            rw [hsh] at h6
            obtain ⟨f3, f4, rfl, rfl⟩ := h6; dsimp only [Rs.cells, zR]
            have hCo2 := fun σ (m1 : (f3, cl [.string sRes, .iface 100 (.pointer (some ⟨f4, 0, none⟩))] 108) ∈ σ) (m2 : (f4, cl [.string nm, .iface 32 (.int .i64 17)] 108) ∈ σ) => CodeT_p E.β σ ht f3 f4 sRes nm 17 ⟨.inl ⟨_, _, m1, rfl⟩, .inl ⟨_, _, m1, rfl⟩, .inl ⟨_, _, m2, rfl⟩, .inl ⟨_, _, m2, rfl⟩, trivial⟩
            repeat' (first | refine KW.seq ?_ | refine KW.region ?_ | refine KO.nil ?_ | refine At.then_normal ?_ | refine KW.skip ?_ | refine KW.cond_f rfl (by first | decide) ?_ | ((first | apply KO.val rfl rfl rfl ?kq ?_ ); (case kq => ((first | apply qt_ev rfl ?hi | refine qt_callQ rfl rfl ?hi (fun hg => hCo2 _ (by simp) (by simp)) ); (case hi => (intro h; (repeat' (first | with_reducible exact alln | with_reducible refine allc ?_ ?_ )); all_goals (first | with_reducible rfl )))))) | fail)
            refine At.cut_here (Le.sub (by repeat' (first | exact FLe.nil _ | refine FLe.cons rfl rfl ?_)) (List.Sublist.cons _ (List.Sublist.cons _ (List.Sublist.cons _ (List.sublist_append_left ((b2, cl (by8 o) 5) :: (e1, cl [.string sReq, .iface 100 (.pointer (some ⟨e0, 0, none⟩))] 108) :: (e0, cl [.string z.1, .iface 32 (.int .i64 z.2)] 108) :: (bY, cl [.int .i64 y, .slice pl n d] 61) :: (bX, cl [.int .i64 x.st, .int .i64 x.op, .int .u64 (x.tok : Int), .int .i64 x.unit, .int .i64 x.ax, .int .i64 x.ay, .int .i64 x.new, .int .i64 x.expl, .int .i64 x.ver, .bool x.hit, .int .u64 (x.cost : Int), .int .i64 x.settled, .int .i64 x.left, (.slice px k cx), .int .i64 x.units, .int .i64 x.cache, .int .i64 x.sess] 44) :: [(bR, cl [.int .i64 r.op, .int .u64 (r.tok : Int), .int .i64 r.unit, .int .i64 r.dir, .int .i64 r.fx, .int .i64 r.fy, .int .i64 r.tx, .int .i64 r.ty] 26)]) _)))))
          · refine At.cut_here (Le.sub (by repeat' (first | exact FLe.nil _ | refine FLe.cons rfl rfl ?_)) (List.Sublist.cons _ (List.sublist_append_left ((b2, cl (by8 o) 5) :: (e1, cl [.string sReq, .iface 100 (.pointer (some ⟨e0, 0, none⟩))] 108) :: (e0, cl [.string z.1, .iface 32 (.int .i64 z.2)] 108) :: (bY, cl [.int .i64 y, .slice pl n d] 61) :: (bX, cl [.int .i64 x.st, .int .i64 x.op, .int .u64 (x.tok : Int), .int .i64 x.unit, .int .i64 x.ax, .int .i64 x.ay, .int .i64 x.new, .int .i64 x.expl, .int .i64 x.ver, .bool x.hit, .int .u64 (x.cost : Int), .int .i64 x.settled, .int .i64 x.left, (.slice px k cx), .int .i64 x.units, .int .i64 x.cache, .int .i64 x.sess] 44) :: [(bR, cl [.int .i64 r.op, .int .u64 (r.tok : Int), .int .i64 r.unit, .int .i64 r.dir, .int .i64 r.fx, .int .i64 r.fy, .int .i64 r.tx, .int .i64 r.ty] 26)]) _)))
      · skip
        repeat' (first | refine KW.seq ?_ | refine KW.region ?_ | refine KO.nil ?_ | refine At.then_normal ?_ | refine KW.ret ?_ | ((first | apply KO.val rfl rfl rfl ?kq ?_ ); (case kq => ((first | apply qt_ev rfl ?hi | refine qt_callQ rfl rfl ?hi (fun hg => Tr.quiet (awakeW_p _)) ); (case hi => (intro h; (repeat' (first | with_reducible exact alln | with_reducible refine allc ?_ ?_ )); all_goals (first | with_reducible rfl )))))) | fail)
        ((first | apply At.done_ret ); (focus (repeat' (first | exact ResVs.nil' | apply ResVs.cons' | exact ResV.tmp' rfl ))); dsimp only [resVal])
    · obtain ⟨ev2, ε2, ⟨g1, g2, rfl, rfl⟩, rfl, rfl⟩ := h2
      repeat' (first | refine KW.seq ?_ | refine KW.region ?_ | refine KO.nil ?_ | refine At.then_normal ?_ | refine KW.skip ?_ | refine KW.ret ?_ | refine KW.cond_f rfl (by first | with_reducible rfl ) ?_ | ((first | apply KO.val rfl rfl rfl ?kq ?_ ); (case kq => ((first | apply qt_ev rfl ?hi | refine qt_callQ rfl rfl ?hi (fun hg => Tr.quiet (awakeW_p _)) | apply qt_eqs rfl rfl rfl ?hi rfl (Or.inl rfl) ); (case hi => (intro h; (repeat' (first | with_reducible exact alln | with_reducible refine allc ?_ ?_ | with_reducible refine andi ?_ ?_)); all_goals (first | with_reducible rfl )))))) | fail)
      ((first | apply At.done_ret ); (focus (repeat' (first | exact ResVs.nil' | apply ResVs.cons' | exact ResV.tmp' rfl ))); dsimp only [resVal])
theorem u64_nat {t : Int} (h : (Lit.int .u64 t).wf = true) : ∃ n : Nat, t = n ∧ n < 18446744073709551616 := by
  simp only [Lit.wf, Bool.and_eq_true, decide_eq_true_eq] at h
  have h1 : (0 : Int) ≤ t := h.1
  have h2 : t ≤ 18446744073709551615 := h.2
  exact ⟨t.toNat, by omega, by omega⟩
theorem MsgCuts_c (β : Nat → Option Obj) (ht : TB β) (vs : List Value) (hrd : RdVs Tryd.prog β [26, 44, 61] vs) : Go.K.PureB Tryd.prog 7 vs.toArray β (.bool true) := by
  obtain ⟨va0, vr0, rfl, ha0, hrd⟩ := hrd.cons
  obtain ⟨va1, vr1, rfl, ha1, hrd⟩ := hrd.cons
  obtain ⟨va2, vr2, rfl, ha2, hrd⟩ := hrd.cons
  obtain rfl := hrd.nil
  obtain ⟨vc0, rfl, hq0⟩ := rdV_agg (k := 8) (ts := [3, 22, 3, 3, 3, 3, 3, 3]) ha0 (by kernel_rfl) (by kernel_rfl)
  obtain ⟨vl0_0, vm0_0, rfl, hl0_0, hq0⟩ := hq0.cons
  obtain ⟨vl0_1, vm0_1, rfl, hl0_1, hq0⟩ := hq0.cons
  obtain ⟨vl0_2, vm0_2, rfl, hl0_2, hq0⟩ := hq0.cons
  obtain ⟨vl0_3, vm0_3, rfl, hl0_3, hq0⟩ := hq0.cons
  obtain ⟨vl0_4, vm0_4, rfl, hl0_4, hq0⟩ := hq0.cons
  obtain ⟨vl0_5, vm0_5, rfl, hl0_5, hq0⟩ := hq0.cons
  obtain ⟨vl0_6, vm0_6, rfl, hl0_6, hq0⟩ := hq0.cons
  obtain ⟨vl0_7, vm0_7, rfl, hl0_7, hq0⟩ := hq0.cons
  obtain rfl := hq0.nil
  obtain ⟨op, rfl, hb_op⟩ := rd_i64 Tryd.underlying3 hl0_0
  obtain ⟨tok, rfl, hb_tok⟩ := rd_int Tryd.underlying22 hl0_1
  obtain ⟨unit, rfl, hb_unit⟩ := rd_i64 Tryd.underlying3 hl0_2
  obtain ⟨dir, rfl, hb_dir⟩ := rd_i64 Tryd.underlying3 hl0_3
  obtain ⟨fx, rfl, hb_fx⟩ := rd_i64 Tryd.underlying3 hl0_4
  obtain ⟨fy, rfl, hb_fy⟩ := rd_i64 Tryd.underlying3 hl0_5
  obtain ⟨tx, rfl, hb_tx⟩ := rd_i64 Tryd.underlying3 hl0_6
  obtain ⟨ty, rfl, hb_ty⟩ := rd_i64 Tryd.underlying3 hl0_7
  obtain ⟨vc1, rfl, hq1⟩ := rdV_agg (k := 8) (ts := [32, 3, 22, 3, 3, 3, 3, 3, 3, 4, 22, 3, 3, 27, 3, 3, 3]) ha1 (by kernel_rfl) (by kernel_rfl)
  obtain ⟨vl1_0, vm1_0, rfl, hl1_0, hq1⟩ := hq1.cons
  obtain ⟨vl1_1, vm1_1, rfl, hl1_1, hq1⟩ := hq1.cons
  obtain ⟨vl1_2, vm1_2, rfl, hl1_2, hq1⟩ := hq1.cons
  obtain ⟨vl1_3, vm1_3, rfl, hl1_3, hq1⟩ := hq1.cons
  obtain ⟨vl1_4, vm1_4, rfl, hl1_4, hq1⟩ := hq1.cons
  obtain ⟨vl1_5, vm1_5, rfl, hl1_5, hq1⟩ := hq1.cons
  obtain ⟨vl1_6, vm1_6, rfl, hl1_6, hq1⟩ := hq1.cons
  obtain ⟨vl1_7, vm1_7, rfl, hl1_7, hq1⟩ := hq1.cons
  obtain ⟨vl1_8, vm1_8, rfl, hl1_8, hq1⟩ := hq1.cons
  obtain ⟨vl1_9, vm1_9, rfl, hl1_9, hq1⟩ := hq1.cons
  obtain ⟨vl1_10, vm1_10, rfl, hl1_10, hq1⟩ := hq1.cons
  obtain ⟨vl1_11, vm1_11, rfl, hl1_11, hq1⟩ := hq1.cons
  obtain ⟨vl1_12, vm1_12, rfl, hl1_12, hq1⟩ := hq1.cons
  obtain ⟨vl1_13, vm1_13, rfl, hl1_13, hq1⟩ := hq1.cons
  obtain ⟨vl1_14, vm1_14, rfl, hl1_14, hq1⟩ := hq1.cons
  obtain ⟨vl1_15, vm1_15, rfl, hl1_15, hq1⟩ := hq1.cons
  obtain ⟨vl1_16, vm1_16, rfl, hl1_16, hq1⟩ := hq1.cons
  obtain rfl := hq1.nil
  obtain ⟨xst, rfl, hb_xst⟩ := rd_i64 Tryd.underlying32 hl1_0
  obtain ⟨xop, rfl, hb_xop⟩ := rd_i64 Tryd.underlying3 hl1_1
  obtain ⟨xtok, rfl, hb_xtok⟩ := rd_int Tryd.underlying22 hl1_2
  obtain ⟨xunit, rfl, hb_xunit⟩ := rd_i64 Tryd.underlying3 hl1_3
  obtain ⟨xax, rfl, hb_xax⟩ := rd_i64 Tryd.underlying3 hl1_4
  obtain ⟨xay, rfl, hb_xay⟩ := rd_i64 Tryd.underlying3 hl1_5
  obtain ⟨xnew, rfl, hb_xnew⟩ := rd_i64 Tryd.underlying3 hl1_6
  obtain ⟨xexpl, rfl, hb_xexpl⟩ := rd_i64 Tryd.underlying3 hl1_7
  obtain ⟨xver, rfl, hb_xver⟩ := rd_i64 Tryd.underlying3 hl1_8
  obtain ⟨xhit, rfl⟩ := rd_bool Tryd.underlying4 hl1_9
  obtain ⟨xcost, rfl, hb_xcost⟩ := rd_int Tryd.underlying22 hl1_10
  obtain ⟨xsettled, rfl, hb_xsettled⟩ := rd_i64 Tryd.underlying3 hl1_11
  obtain ⟨xleft, rfl, hb_xleft⟩ := rd_i64 Tryd.underlying3 hl1_12
  obtain ⟨xmv_p, xmv_m, xmv_c, xmv, rfl, hb_xmv⟩ := rd_bytes Tryd.underlying27 Tryd.underlying5 (by kernel_rfl) (by kernel_rfl) (by kernel_rfl) hl1_13
  obtain ⟨xunits, rfl, hb_xunits⟩ := rd_i64 Tryd.underlying3 hl1_14
  obtain ⟨xcache, rfl, hb_xcache⟩ := rd_i64 Tryd.underlying3 hl1_15
  obtain ⟨xsess, rfl, hb_xsess⟩ := rd_i64 Tryd.underlying3 hl1_16
  obtain ⟨vc2, rfl, hq2⟩ := rdV_agg (k := 8) (ts := [3, 27]) ha2 (by kernel_rfl) (by kernel_rfl)
  obtain ⟨vl2_0, vm2_0, rfl, hl2_0, hq2⟩ := hq2.cons
  obtain ⟨vl2_1, vm2_1, rfl, hl2_1, hq2⟩ := hq2.cons
  obtain rfl := hq2.nil
  obtain ⟨y, rfl, hb_y⟩ := rd_i64 Tryd.underlying3 hl2_0
  obtain ⟨b_p, b_m, b_c, b, rfl, hb_b⟩ := rd_bytes Tryd.underlying27 Tryd.underlying5 (by kernel_rfl) (by kernel_rfl) (by kernel_rfl) hl2_1
  obtain ⟨tok, rfl, h⟩ := u64_nat hb_tok
  obtain ⟨xtok, rfl, h3⟩ := u64_nat hb_xtok
  obtain ⟨xcost, rfl, h4⟩ := u64_nat hb_xcost
  exact MsgCuts_p β ht ⟨op, tok, unit, dir, fx, fy, tx, ty⟩ ⟨hb_op, h, hb_unit, hb_dir, hb_fx, hb_fy, hb_tx, hb_ty⟩ ⟨xst, xop, xtok, xunit, xax, xay, xnew, xexpl, xver, xhit, xcost, xsettled, xleft, .slice xmv_p xmv_m xmv_c, xunits, xcache, xsess⟩ ⟨hb_xst, hb_xop, h3, hb_xunit, hb_xax, hb_xay, hb_xnew, hb_xexpl, hb_xver, h4, hb_xsettled, hb_xleft, hb_xunits, hb_xcache, hb_xsess⟩ xmv xmv_p xmv_m xmv_c rfl hb_xmv.len hb_xmv.byt hb_xmv.sl y hb_y b_m b_c b b_p hb_b.len hb_b.byt hb_b.sl hb_b.none
set_option maxRecDepth 100000 in
theorem MsgCuts_lifted (os : Os) (started : os.Started) (H : Type) (enc : TypeId × Value → H) :
    ReturnsInHanded {} Tryd.checked os 7 .any (fun w args => (Rows.msgCutsSpec.pre enc Tryd.prog Tryd.f7 [] false w args ∧ laidMetH Tryd.prog laidL w) ∧ sizedMet enc Tryd.prog Tryd.f7 (OpenSpec.ofChange Rows.msgCutsSpec) false w args) (Rows.msgCutsSpec.post enc Tryd.prog Tryd.f7 false true false false) :=
  law_liftL (C := Tryd.checked) (laid := laidL) (Tb := TB) Tryd.own started (by kernel_rfl) Tryd.func7
    (ChangeSpec.witness_shaped (enc := enc) (C := Tryd.checked) (os := os) (X := fun w _ => laidMetH Tryd.prog laidL w) false (World.doorLaid Tryd.prog 400 os) #[.agg #[.int .i64 0, .int .u64 0, .int .i64 0, .int .i64 0, .int .i64 0, .int .i64 0, .int .i64 0, .int .i64 0], .agg #[.int .i64 0, .int .i64 0, .int .u64 0, .int .i64 0, .int .i64 0, .int .i64 0, .int .i64 0, .int .i64 0, .int .i64 0, .bool false, .int .u64 0, .int .i64 0, .int .i64 0, .slice none 0 0, .int .i64 0, .int .i64 0, .int .i64 0], .agg #[.int .i64 0, .slice none 0 0]] 8 rfl (World.shaped_of_RefB (by kernel_rfl) (by kernel_rfl)) (by kernel_rfl) (by kernel_rfl) (by kernel_rfl) (door_met os _))
    Tryd.laidOut rfl (by kernel_rfl) (by kernel_rfl) rfl Tryd.underlying4
    (fun ds h => by
      have h' : ds.length = 3 := h
      match ds, h' with
      | [_, _, _], _ => rfl)
    tb_of (fun β vs h ht => MsgCuts_c β ht vs h)

theorem MsgCuts_holds : Rows.MsgCutsSaid :=
  OpenClaim.holds_of_wide 7 Tryd.f7 rfl rfl rfl rfl rfl rfl rfl ⟨rfl, rfl, rfl, rfl, rfl⟩ rfl rfl rfl rfl rfl (by kernel_rfl) Tryd.func7 (by kernel_rfl)
    (of_decide_eq_true (by kernel_rfl)) (by unfold Func.isWrapper; first | (rw [if_neg (by decide +kernel)]; exact ⟨rfl, rfl⟩))
    (fun os started H enc _ => MsgCuts_lifted os started H enc)
theorem MsgCuts_card : Rows.MsgCutsCardSaid :=
  Claim7.holds_tied_plain_at .later [] [.handle] true (true, "9b5da6f2840a215d410c8f54959855c8ec1c8453c8fb6315fb33309d85292c9f") true
    MsgCuts_holds (fun _ h => by cases h) (by kernel_rfl) (fun _ h => by cases h) msgCuts_row_tie rfl ⟨rfl, rfl⟩ (by kernel_rfl) rfl
    (fun f fn hf hfn => by
      obtain rfl : f = 7 := Option.some.inj ((show Tryd.prog.funcNamed "gloaming/gloaminglaw20.MsgCuts" = some 7 by kernel_rfl).symm.trans hf) |>.symm
      obtain rfl : fn = Tryd.f7 := (Option.some.inj (Tryd.func7.symm.trans hfn)).symm
      refine ⟨by kernel_rfl, fun j t ht => ?_⟩
      rw [Tryd.params7] at ht
      have hall : ([26, 44, 61].all fun t => !Tryd.prog.wantsStandIn t) = true := by kernel_rfl
      have hm : t ∈ [26, 44, 61] := by have := Array.mem_of_getElem? ht; simpa using this
      have := List.all_eq_true.1 hall t hm
      have h5 : Tryd.prog.wantsStandIn t = false := by simpa using this
      exact h5)
    (by kernel_rfl)
end Go.Proofs.YtnaclkdjchnbpaaDoor
end

/- msg.Write. -/
import Derived.Test.YtnaclkdjchnbpaaDoorP4
import Derived.Test.YtnaclkdjchnbpaaDoorMS
import Derived.Test.YtnaclkdjchnbpaaDoorNC
namespace Go.Proofs.YtnaclkdjchnbpaaDoor
open Go Go.K

/-- A response without the fields that it has. -/
def spareR (r : Rs) : Rs :=
  let l := { r with st := 0, op := 0 }
  if bodyB r.op r.st then
    (if r.op = 0 then { l with tok := 0 }
    else if r.op = 2 then { l with unit := 0, ax := 0, ay := 0, new := 0, ver := 0 }
    else if r.op = 3 then { l with new := 0, expl := 0, ver := 0 }
    else if r.op = 4 ∨ r.op = 5 then { l with hit := false, cost := 0, settled := 0, left := 0, mv := .slice none 0 0 }
    else if r.op = 6 then { l with expl := 0, ver := 0, left := 0, units := 0, cache := 0, sess := 0 }
    else l)
  else l
set_option maxHeartbeats 4000000 in
theorem spare_p (β : Nat → Option Obj) (r : Rs) (p : Option Addr) (n c : Nat) (hmv : r.mv = .slice p n c) :
    Go.K.Tr Tryd.prog 39 [.agg r.cells.toArray] β [] (fun v s => v = .agg (spareR r).cells.toArray ∧ s = []) := by
  obtain ⟨st, op, tok, unit, ax, ay, new, expl, ver, hit, cost, settled, left, mv, units, cache, sess⟩ := r
  dsimp only at hmv
  subst hmv
  refine Tr.sub ?_
  refine Tr.of_body Tryd.tt (args := [.agg (Rs.mk st op tok unit ax ay new expl ver hit cost settled left (.slice p n c) units cache sess).cells.toArray]) (fr := [(0, true, .agg (Rs.mk st op tok unit ax ay new expl ver hit cost settled left (.slice p n c) units cache sess).cells.toArray)]) Tryd.func39 rfl (by decide) rfl Tryd.ntmps39 rfl rfl ?_
  intro E hE
  subst hE
  have hbody := body_p E.β ⟨st, op, tok, unit, ax, ay, new, expl, ver, hit, cost, settled, left, .slice p n c, units, cache, sess⟩
  dsimp only [Rs.cells] at hbody ⊢
  repeat' (first | refine KW.seq ?_ | refine KW.region ?_ | refine KO.nil ?_ | refine At.then_normal ?_ | refine KW.skip ?_ | refine KW.ret ?_ | refine At.then_ret ?_ | refine KW.block ?_ | ((first | apply KO.val rfl rfl rfl ?kq ?_); (case kq => ((first | apply qt_ev rfl ?hi | ((first | apply qt_load1 rfl rfl ?hi rfl rfl ?hm ?hc | apply qt_loadN rfl rfl ?hi rfl rfl rfl ?hm ?hc); (case hm => repeat (first | exact List.Mem.head _ | apply List.Mem.tail _ )); (case hc => rfl)) | refine qt_callQ rfl rfl ?hi (fun hg => Tr.quiet hbody) | apply qt_build rfl rfl ?hi rfl ); (case hi => (intro h; (repeat' (first | with_reducible exact alln | with_reducible refine allc ?_ ?_ )); all_goals (first | with_reducible rfl )))))) | (refine KO.box rfl rfl rfl rfl rfl rfl ?_; intro _ _) | (refine KO.alloc rfl rfl rfl rfl rfl rfl ?_; intro _ _) | (apply KO.store (i := _) rfl rfl rfl rfl rfl rfl rfl rfl ?hl ?sg ?hw ?ho ?hs; (case sg => first | exact (rfl : getI 0 _ = _) | exact (rfl : getI 1 _ = _) ); (case hl => rfl); (case hw => rfl); (case ho => rfl); (case hs => rfl)) | (refine KW.cond rfl ?_ ?_ <;> (intro hc; try simp only [kBool] at hc)) | (exfalso; omega) | fail)
  all_goals
    ((first | apply At.done_ret ); (focus (repeat' (first | exact ResVs.nil' | apply ResVs.cons' | (apply ResV.cellN rfl ?hm rfl rfl rfl ?hc; (case hm => repeat (first | exact List.Mem.head _ | apply List.Mem.tail _ )); (case hc => rfl))))); dsimp only [resVal])
    refine ⟨[], List.nil_sublist _, ?_, rfl⟩
    unfold spareR
    dsimp only
    first | rw [if_pos (by assumption)] | rw [if_neg (by simp_all)]
    (repeat' (first | rw [if_pos (by omega)] | rw [if_neg (by omega)]))
    try rfl
def zR : Rs := ⟨0, 0, 0, 0, 0, 0, 0, 0, 0, false, 0, 0, 0, .slice none 0 0, 0, 0, 0⟩
def spareM (r : Rs) (ms : List Nat) : List Nat := if bodyB r.op r.st ∧ (r.op = 4 ∨ r.op = 5) then [] else ms
/-- Whether a field is not nought that a response has not. -/
def leftS (r : Rs) (ms : List Nat) : Bool := !(spareR r).eqB zR (decide (spareM r ms = []))
theorem spareR_mv1 {r : Rs} (h : bodyB r.op r.st ∧ (r.op = 4 ∨ r.op = 5)) : (spareR r).mv = .slice none 0 0 := by
  obtain ⟨hb, h4⟩ := h
  unfold spareR
  dsimp only
  rw [if_pos hb, if_neg (by omega), if_neg (by omega), if_neg (by omega), if_pos h4]
theorem spareR_mv2 {r : Rs} (h : ¬ (bodyB r.op r.st ∧ (r.op = 4 ∨ r.op = 5))) : (spareR r).mv = r.mv := by
  unfold spareR
  dsimp only
  split
  · rename_i hb
    split
    · rfl
    · split
      · rfl
      · split
        · rfl
        · split
          · rename_i h4
            exact absurd ⟨hb, h4⟩ h
          · split <;> rfl
  · rfl
theorem sameS_p (β : Nat → Option Obj) (r : Rs) (ms : List Nat) (p : Option Addr) (n c : Nat) (hmv : r.mv = .slice p n c) (hn : ms.length = n) (hp : SL β [] 1 n (by8 ms) p) (hm : n ≤ 1000000) :
    Go.K.Tr Tryd.prog 19 [.agg (spareR r).cells.toArray, .agg zR.cells.toArray] β [] (fun v s => v = .bool ((spareR r).eqB zR (decide (spareM r ms = []))) ∧ s = []) := by
  by_cases h : bodyB r.op r.st ∧ (r.op = 4 ∨ r.op = 5)
  · have e : (spareR r).mv = .slice none 0 0 := spareR_mv1 h
    have e2 : spareM r ms = [] := if_pos h
    rw [e2]
    exact Same_p β (spareR r) zR [] [] none none 0 0 0 0 e rfl rfl rfl (SL.nil8 _ _) (SL.nil8 _ _) (by omega) (by omega)
  · have e : (spareR r).mv = .slice p n c := by rw [spareR_mv2 h, hmv]
    have e2 : spareM r ms = ms := if_neg h
    rw [e2]
    exact Same_p β (spareR r) zR ms [] p none c 0 n 0 e rfl hn rfl hp (SL.nil8 _ _) hm (by omega)
def sRes : ByteArray := ⟨#[114, 101, 115, 112, 111, 110, 115, 101]⟩
theorem endW_p (β : Nat → Option Obj) (bf : Nat) {z : List Nat × Flt} {B : Nat} {σ : Heap} (hf : FormQ β bf sRes z B σ) {rest b : Bool} (hb : rest = b) :
    Go.K.Tr Tryd.prog 30 [.pointer (some ⟨bf, 0, none⟩), .bool rest, .int .i64 1] β σ (fun v σ' => ∃ wv dv ev φ ε, Vec 5 1 z.1.length (by8 z.1) wv φ ∧ EV sRes (if b then note z.2 sEnd 1 else z.2) ev ε ∧ v = ev ∧ σ' = (bf, cl [.string sRes, wv, .pointer none, dv, ev] 80) :: (ε ++ φ)) := by
  subst hb
  refine (end_p β bf sRes (.put z.1) z.2 σ hf.f rest 1).mono ?_
  rintro v s ⟨wv, rv, dv, ev, φ, ε, ⟨rfl, hv, rfl⟩, hE, rfl, rfl⟩
  exact ⟨wv, _, _, φ, ε, hv, hE, rfl, rfl⟩
/-- A response's payload, and what is wrong with it. -/
def wri (r : Rs) (ms : List Nat) : Flt × List Nat := fin (cutO (toldF r ms ([], none))) (leftS r ms)
def WriR (r : Rs) (ms : List Nat) (v : Value) (σ : Heap) : Prop := match wri r ms with
  | (some y, _) => ∃ ev ε, EV sRes (some y) ev ε ∧ v = .tuple #[.slice none 0 0, ev] ∧ σ = ε
  | (none, o) => ∃ b, v = .tuple #[.slice (some ⟨b, 0, none⟩) o.length o.length, .nilIface] ∧ σ = [(b, cl (by8 o) 5)]
set_option maxHeartbeats 16000000 in
theorem Write_p (β : Nat → Option Obj) (r : Rs) (hr : r.Ok) (ms : List Nat) (p : Option Addr) (n c : Nat) (hmv : r.mv = .slice p n c) (hn : ms.length = n) (hB : Byt ms) (hp : SL β [] 1 n (by8 ms) p) (hm : n ≤ 800000) :
    Go.K.Tr Tryd.prog 16 [.agg r.cells.toArray] β [] (fun v σ' => WriR r ms v σ') := by
  refine Tr.sub ?_
  refine Tr.of_body Tryd.tt (args := [.agg r.cells.toArray]) (fr := [(0, true, .agg r.cells.toArray)]) Tryd.func16 rfl (by decide) rfl Tryd.ntmps16 rfl rfl ?_
  intro E hE
  subst hE
  have hT := fun (bf bn : Nat) (s : Heap) (h : FormQ E.β bf sRes ([], none) 0 s) => toldP_p E.β bf bn sRes ([], none) 0 s h r hr ms p n c hmv hn hB hp (by omega)
  have hP := spare_p E.β r p n c hmv
  have hS : Go.K.Tr Tryd.prog 19 [.agg (spareR r).cells.toArray, .agg #[.int .i64 0, .int .i64 0, .int .u64 0, .int .i64 0, .int .i64 0, .int .i64 0, .int .i64 0, .int .i64 0, .int .i64 0, .bool false, .int .u64 0, .int .i64 0, .int .i64 0, .slice none 0 0, .int .i64 0, .int .i64 0, .int .i64 0]] E.β [] (fun v s => v = .bool ((spareR r).eqB zR (decide (spareM r ms = []))) ∧ s = []) := sameS_p E.β r ms p n c hmv hn hp (by omega)
  obtain ⟨q, hq⟩ : ∃ q, q = (spareR r).eqB zR (decide (spareM r ms = [])) := ⟨_, rfl⟩
  rw [← hq] at hS
  have hleft : leftS r ms = !q := by rw [hq]; rfl
  obtain ⟨SP, hSP⟩ : ∃ SP, SP = Value.agg (spareR r).cells.toArray := ⟨_, rfl⟩
  rw [← hSP] at hP hS
  dsimp only [Rs.cells] at hT hP ⊢
  simp only [hmv] at hT hP ⊢
  repeat' (first | refine KW.seq ?_ | refine KW.region ?_ | refine KO.nil ?_ | ((first | apply KO.val rfl rfl rfl ?kq ?_); (case kq => ((first | apply qt_ev rfl ?hi ); (case hi => (intro h; (repeat' (first | with_reducible exact alln | with_reducible refine allc ?_ ?_ )); all_goals (first | with_reducible rfl )))))) | (refine KO.box rfl rfl rfl rfl rfl rfl ?_; intro _ _) | fail)
  rename_i bx _
  refine KO.callF [] [(bx, cl [.int .i64 r.st, .int .i64 r.op, .int .u64 (r.tok : Int), .int .i64 r.unit, .int .i64 r.ax, .int .i64 r.ay, .int .i64 r.new, .int .i64 r.expl, .int .i64 r.ver, .bool r.hit, .int .u64 (r.cost : Int), .int .i64 r.settled, .int .i64 r.left, (.slice p n c), .int .i64 r.units, .int .i64 r.cache, .int .i64 r.sess] 44)] (by classical exact List.perm_iff_count.2 (fun _ => by first | (simp only [List.count_append, List.count_cons, List.count_nil, List.append_assoc, List.cons_append, List.nil_append]; done) )) rfl rfl rfl rfl rfl rfl rfl (writes_p _ sRes) ?_
  rintro _ s ⟨bf, rfl, hf⟩
  refine KO.perm (σ' := (bx, cl [.int .i64 r.st, .int .i64 r.op, .int .u64 (r.tok : Int), .int .i64 r.unit, .int .i64 r.ax, .int .i64 r.ay, .int .i64 r.new, .int .i64 r.expl, .int .i64 r.ver, .bool r.hit, .int .u64 (r.cost : Int), .int .i64 r.settled, .int .i64 r.left, (.slice p n c), .int .i64 r.units, .int .i64 r.cache, .int .i64 r.sess] 44) :: s) (by classical exact List.perm_iff_count.2 (fun _ => by first | (simp only [List.count_append, List.count_cons, List.count_nil, List.append_assoc, List.cons_append, List.nil_append]; omega))) ?_
  repeat' (first | refine KW.seq ?_ | refine KW.region ?_ | refine KO.nil ?_ | ((first | apply KO.val rfl rfl rfl ?kq ?_); (case kq => ((first | apply qt_ev rfl ?hi | ((first | apply qt_loadN rfl rfl ?hi rfl rfl rfl ?hm ?hc); (case hm => repeat (first | exact List.Mem.head _ )); (case hc => rfl)) ); (case hi => (intro h; (repeat' (first | with_reducible exact alln | with_reducible refine allc ?_ ?_ )); all_goals (first | with_reducible rfl )))))) | (refine KO.alloc rfl rfl rfl rfl rfl rfl ?_; intro _ _) | (apply KO.store (i := _) rfl rfl rfl rfl rfl rfl rfl rfl ?hl ?sg ?hw ?ho ?hs; (case sg => first | exact (rfl : getI 0 _ = _) ); (case hl => rfl); (case hw => rfl); (case ho => rfl); (case hs => rfl)) | fail)
  rename_i b5 _
  refine KO.callF ((b5, cl [.int .i64 r.st, .int .i64 r.op, .int .u64 (r.tok : Int), .int .i64 r.unit, .int .i64 r.ax, .int .i64 r.ay, .int .i64 r.new, .int .i64 r.expl, .int .i64 r.ver, .bool r.hit, .int .u64 (r.cost : Int), .int .i64 r.settled, .int .i64 r.left, (.slice p n c), .int .i64 r.units, .int .i64 r.cache, .int .i64 r.sess] 44) :: s) [(bx, cl [.int .i64 r.st, .int .i64 r.op, .int .u64 (r.tok : Int), .int .i64 r.unit, .int .i64 r.ax, .int .i64 r.ay, .int .i64 r.new, .int .i64 r.expl, .int .i64 r.ver, .bool r.hit, .int .u64 (r.cost : Int), .int .i64 r.settled, .int .i64 r.left, (.slice p n c), .int .i64 r.units, .int .i64 r.cache, .int .i64 r.sess] 44)] (by classical exact List.perm_iff_count.2 (fun _ => by first | (simp only [List.count_append, List.count_cons, List.count_nil, List.append_assoc, List.cons_append, List.nil_append]; omega))) rfl rfl rfl rfl rfl rfl rfl (hT bf b5 s ⟨hf, Nat.le_refl _⟩) ?_
  rintro _ _ ⟨s2, hs2, rfl⟩
  refine KO.perm (σ' := (bx, cl [.int .i64 r.st, .int .i64 r.op, .int .u64 (r.tok : Int), .int .i64 r.unit, .int .i64 r.ax, .int .i64 r.ay, .int .i64 r.new, .int .i64 r.expl, .int .i64 r.ver, .bool r.hit, .int .u64 (r.cost : Int), .int .i64 r.settled, .int .i64 r.left, (.slice p n c), .int .i64 r.units, .int .i64 r.cache, .int .i64 r.sess] 44) :: ((b5, cl [.int .i64 r.st, .int .i64 r.op, .int .u64 (r.tok : Int), .int .i64 r.unit, .int .i64 r.ax, .int .i64 r.ay, .int .i64 r.new, .int .i64 r.expl, .int .i64 r.ver, .bool r.hit, .int .u64 (r.cost : Int), .int .i64 r.settled, .int .i64 r.left, (.slice p n c), .int .i64 r.units, .int .i64 r.cache, .int .i64 r.sess] 44) :: s2)) ?_ ?_
  · show List.Perm ((b5, cl [.int .i64 r.st, .int .i64 r.op, .int .u64 (r.tok : Int), .int .i64 r.unit, .int .i64 r.ax, .int .i64 r.ay, .int .i64 r.new, .int .i64 r.expl, .int .i64 r.ver, .bool r.hit, .int .u64 (r.cost : Int), .int .i64 r.settled, .int .i64 r.left, (.slice p n c), .int .i64 r.units, .int .i64 r.cache, .int .i64 r.sess] 44) :: s2 ++ [(bx, cl [.int .i64 r.st, .int .i64 r.op, .int .u64 (r.tok : Int), .int .i64 r.unit, .int .i64 r.ax, .int .i64 r.ay, .int .i64 r.new, .int .i64 r.expl, .int .i64 r.ver, .bool r.hit, .int .u64 (r.cost : Int), .int .i64 r.settled, .int .i64 r.left, (.slice p n c), .int .i64 r.units, .int .i64 r.cache, .int .i64 r.sess] 44)]) _
    exact (by classical exact List.perm_iff_count.2 (fun _ => by first | (simp only [List.count_append, List.count_cons, List.count_nil, List.append_assoc, List.cons_append, List.nil_append]; omega)))
  repeat' (first | refine KW.seq ?_ | refine KW.region ?_ | refine KO.nil ?_ | ((first | apply KO.val rfl rfl rfl ?kq ?_); (case kq => ((first | apply qt_ev rfl ?hi | ((first | apply qt_loadN rfl rfl ?hi rfl rfl rfl ?hm ?hc); (case hm => repeat (first | exact List.Mem.head _ )); (case hc => rfl)) | refine qt_callQ rfl rfl ?hi (fun hg => Tr.quiet hP) | refine qt_callQ rfl rfl ?hi (fun hg => Tr.quiet hS) | apply qt_build rfl rfl ?hi rfl ); (case hi => (intro h; (repeat' (first | with_reducible exact alln | with_reducible refine allc ?_ ?_ )); all_goals (first | with_reducible rfl )))))) | fail)
  refine KO.callF s2 [(bx, cl [.int .i64 r.st, .int .i64 r.op, .int .u64 (r.tok : Int), .int .i64 r.unit, .int .i64 r.ax, .int .i64 r.ay, .int .i64 r.new, .int .i64 r.expl, .int .i64 r.ver, .bool r.hit, .int .u64 (r.cost : Int), .int .i64 r.settled, .int .i64 r.left, (.slice p n c), .int .i64 r.units, .int .i64 r.cache, .int .i64 r.sess] 44), (b5, cl [.int .i64 r.st, .int .i64 r.op, .int .u64 (r.tok : Int), .int .i64 r.unit, .int .i64 r.ax, .int .i64 r.ay, .int .i64 r.new, .int .i64 r.expl, .int .i64 r.ver, .bool r.hit, .int .u64 (r.cost : Int), .int .i64 r.settled, .int .i64 r.left, (.slice p n c), .int .i64 r.units, .int .i64 r.cache, .int .i64 r.sess] 44)] (by classical exact List.perm_iff_count.2 (fun _ => by first | (simp only [List.count_append, List.count_cons, List.count_nil, List.append_assoc, List.cons_append, List.nil_append]; omega))) rfl rfl rfl rfl rfl rfl rfl (endW_p _ bf hs2 hleft.symm) ?_
  rintro _ _ ⟨wv, dv, ev, φ, ε, hv, hE2, rfl, rfl⟩
  have eF : wri r ms = match (if leftS r ms then note (toldF r ms ([], none)).2 sEnd 1 else (toldF r ms ([], none)).2) with
      | some y => (some y, [])
      | none => (none, (toldF r ms ([], none)).1) := by
    unfold wri
    rcases toldF r ms ([], none) with ⟨o, x⟩
    rcases x with _ | y
    · cases leftS r ms <;> rfl
    · cases leftS r ms <;> rfl
  rcases hX : (if leftS r ms then note (toldF r ms ([], none)).2 sEnd 1 else (toldF r ms ([], none)).2) with _ | y
  · rw [hX] at hE2 eF
    obtain ⟨rfl, rfl⟩ := hE2
    have htr := trivial
    repeat' (first | refine KW.seq ?_ | refine KW.region ?_ | refine KO.nil ?_ | refine At.then_normal ?_ | refine KW.skip ?_ | refine KW.cond_f rfl (by first | decide) ?_ | ((first | apply KO.val rfl rfl rfl ?kq ?_); (case kq => ((first | apply qt_ev rfl ?hi | apply qt_nes rfl rfl rfl ?hi rfl (Or.inr ⟨rfl, rfl, rfl⟩)); (case hi => (intro h; (repeat' (first | with_reducible exact alln | with_reducible refine allc ?_ ?_ | with_reducible refine andi ?_ ?_)); all_goals (first | with_reducible rfl )))))) | fail)
    refine KO.callF ((bf, cl [.string sRes, wv, .pointer none, dv, .nilIface] 80) :: φ) [(bx, cl [.int .i64 r.st, .int .i64 r.op, .int .u64 (r.tok : Int), .int .i64 r.unit, .int .i64 r.ax, .int .i64 r.ay, .int .i64 r.new, .int .i64 r.expl, .int .i64 r.ver, .bool r.hit, .int .u64 (r.cost : Int), .int .i64 r.settled, .int .i64 r.left, (.slice p n c), .int .i64 r.units, .int .i64 r.cache, .int .i64 r.sess] 44), (b5, cl [.int .i64 r.st, .int .i64 r.op, .int .u64 (r.tok : Int), .int .i64 r.unit, .int .i64 r.ax, .int .i64 r.ay, .int .i64 r.new, .int .i64 r.expl, .int .i64 r.ver, .bool r.hit, .int .u64 (r.cost : Int), .int .i64 r.settled, .int .i64 r.left, (.slice p n c), .int .i64 r.units, .int .i64 r.cache, .int .i64 r.sess] 44)] (by classical exact List.perm_iff_count.2 (fun _ => by first | (simp only [List.count_append, List.count_cons, List.count_nil, List.append_assoc, List.cons_append, List.nil_append]; done) )) rfl rfl rfl rfl rfl rfl rfl (BytesF_p _ bf (toldF r ms ([], none)).1.length _ _ _ _ wv φ φ (toldF r ms ([], none)).1 rfl hv (by have := hs2.b; omega) (fun q hq => hq)) ?_
    rintro _ _ ⟨b, rfl, rfl⟩
    repeat' (first | refine KO.nil ?_ | refine At.then_normal ?_ | refine KW.ret ?_ | ((first | apply KO.val rfl rfl rfl ?kq ?_); (case kq => ((first | apply qt_ev rfl ?hi ); (case hi => (intro h; (repeat' (first | with_reducible exact alln | with_reducible refine allc ?_ ?_ )); all_goals (first | with_reducible rfl )))))) | fail)
    ((first | apply At.done_ret ); (focus (repeat' (first | exact ResVs.nil' | apply ResVs.cons' | exact ResV.tmp' rfl ))); dsimp only [resVal])
    refine ⟨[(b, cl (by8 (toldF r ms ([], none)).1) 5)], List.Sublist.cons_cons _ (List.nil_sublist _), ?_⟩
    unfold WriR
    rw [eF]
    exact ⟨b, rfl, rfl⟩
  · rw [hX] at hE2 eF
    obtain ⟨b, c', rfl, rfl⟩ := hE2
    have htr := trivial
    repeat' (first | refine KW.seq ?_ | refine KW.region ?_ | refine KO.nil ?_ | refine At.then_normal ?_ | refine KW.ret ?_ | refine At.then_ret ?_ | refine KW.cond_t rfl (by first | decide) ?_ | ((first | apply KO.val rfl rfl rfl ?kq ?_); (case kq => ((first | apply qt_ev rfl ?hi | apply qt_nes rfl rfl rfl ?hi rfl (Or.inl rfl) ); (case hi => (intro h; (repeat' (first | with_reducible exact alln | with_reducible refine allc ?_ ?_ | with_reducible refine andi ?_ ?_)); all_goals (first | with_reducible rfl )))))) | fail)
    ((first | apply At.done_ret ); (focus (repeat' (first | exact ResVs.nil' | apply ResVs.cons' | exact ResV.tmp' rfl ))); dsimp only [resVal])
    refine ⟨[(b, cl [.string sRes, .iface 100 (.pointer (some ⟨c', 0, none⟩))] 108), (c', cl [.string y.1, .iface 32 (.int .i64 y.2)] 108)], List.Sublist.cons _ (List.Sublist.cons_cons _ (List.Sublist.cons_cons _ (List.nil_sublist _))), ?_⟩
    unfold WriR
    rw [eF]
    exact ⟨_, _, ⟨b, c', rfl, rfl⟩, rfl, rfl⟩
end Go.Proofs.YtnaclkdjchnbpaaDoor

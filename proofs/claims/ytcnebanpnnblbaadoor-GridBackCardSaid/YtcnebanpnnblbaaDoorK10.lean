/- The program logic, tenth part: statements whose order is open, with effects among them: quiet operations (the head) in whatever order, the effects in their own. -/
import Derived.Test.YtcnebanpnnblbaaDoorK9
namespace Go.K
open Go Go.RowKit

/-! ### Single effects -/
/-- What an operation does to the tracked heap. -/
def EO (C : Cx) (L : Look) (σ : Heap) (o : Oper) (R : Value → Heap → Prop) : Prop :=
  ∀ a w, LOk L a → Own C.E σ w → Eff C.P o a w fun v w' => ∃ σ', R v σ' ∧ Stp σ σ' w w'

theorem KO.ofEO {C : Cx} {ops rest : List Oper} {Q : KQ} {o : Oper} {fr : Fr} {σ : Heap} {d : Nat} {R : Value → Heap → Prop} (hg : guardOf ops (look fr) o = some true) (hd : o.dst = some d) (hn : Nat.blt d C.N = true) (he : EO C (look fr) σ o R)
    (h : ∀ v σ', R v σ' → KO C ops Q rest ((d, true, v) :: fr) σ') : KO C ops Q (o :: rest) fr σ := KO.eff hg hd hn he h
theorem KO.ofEO0 {C : Cx} {ops rest : List Oper} {Q : KQ} {o : Oper} {fr : Fr} {σ : Heap} {R : Value → Heap → Prop} (hg : guardOf ops (look fr) o = some true) (hd : o.dst = none) (he : EO C (look fr) σ o R)
    (h : ∀ v σ', R v σ' → KO C ops Q rest fr σ') : KO C ops Q (o :: rest) fr σ := KO.eff0 hg hd he h

section
variable {C : Cx} {L : Look} {σ : Heap} {o : Oper}

theorem Qt.eo {v : Value} (h : Qt C L σ true o v) : EO C L σ o (fun u s => u = v ∧ s = σ) := fun a w hL hO => by
  rcases h.eff hL hO with ⟨u, w', h1, h2, h3⟩ | ⟨w', h1, h2, h3⟩ | ⟨f, args, h1, h2⟩
  · exact .inl ⟨u, w', h1, σ, ⟨h2, rfl⟩, Stp.of_below h3 hO.has⟩
  · exact .inr (.inl ⟨w', h1, σ, ⟨h2, rfl⟩, Stp.of_below h3 hO.has⟩)
  · exact .inr (.inr ⟨f, args, h1, h2.mono fun e w' ⟨u, h3, h4, h5⟩ => ⟨u, h3, σ, ⟨h4, rfl⟩, Stp.of_below h5 hO.has⟩⟩)

theorem eo_alloc {t : TypeId} {z : Value} {n m : Nat} {cs : List Value} (ho : o.op = .alloc t) (hz : C.T.i t = some (z, n, m)) (hc : vcells z = some cs) :
    EO C L σ o (fun v σ' => ∃ b, b ∉ keys σ ∧ v = .pointer (some ⟨b, 0, none⟩) ∧ σ' = (b, cl cs t) :: σ) := fun a w _ hO => .inl
  ⟨.pointer (some ⟨w.heap.size, 0, none⟩), w.alloc (cl cs t), by simp [execOp, ho, Instr.alloc, run_zero hz, newVar, newRow, vcells_ok hc, cl], _, ⟨w.heap.size, hO.has.fresh, rfl, rfl⟩, Stp.alloc hO.has _⟩
theorem eo_box {t : TypeId} {x : Operand} {v : Value} {cs : List Value} (ho : o.op = .box t x) (hx : opnd L x = some (true, v)) (hc : vcells v = some cs) :
    EO C L σ o (fun u σ' => ∃ b, b ∉ keys σ ∧ u = .pointer (some ⟨b, 0, none⟩) ∧ σ' = (b, cl cs t) :: σ) := fun a w hL hO => .inl
  ⟨.pointer (some ⟨w.heap.size, 0, none⟩), w.alloc (cl cs t), by simp [execOp, ho, Instr.box, opnd_ev hL hx rfl, newVar, newRow, vcells_ok hc, cl], _, ⟨w.heap.size, hO.has.fresh, rfl, rfl⟩, Stp.alloc hO.has _⟩
theorem eo_buildSlice {t e len n m : Nat} {parts : Array (Nat × Operand)} {gs : List Bool} {vs : List (Nat × Value)} {z : Value} {zs base cs : List Value} (ho : o.op = .buildSlice t len parts)
    (hx : evParts L parts.toList = some (gs, vs)) (hgs : gs.all id = true) (hu : C.T.u t = some (.slice e)) (hz : C.T.i e = some (z, n, m)) (hzc : vcells z = some zs) (hzl : lenB n zs = true) (hn0 : Nat.blt 0 (len * n) = true) (hlim : Nat.ble (len * n) 16777216 = true)
    (hb : repL len zs = some base) (hf : fillL (fun i => some (i * n, n)) base vs = some cs) : EO C L σ o (fun u σ' => ∃ b, b ∉ keys σ ∧ u = .slice (some ⟨b, 0, none⟩) len len ∧ σ' = (b, cl cs e) :: σ) := fun a w hL hO => .inl
  ⟨.slice (some ⟨w.heap.size, 0, none⟩) len len, w.alloc (cl cs e), by
    have hlt : 0 < len * n := Nat.le_of_ble_eq_true hn0
    have hlim' : ¬ (16777216 < len * n) := by have := Nat.le_of_ble_eq_true hlim; omega
    have hn1 : 0 < n := Nat.pos_of_mul_pos_left hlt
    have e1 := rep_arr hzc (lenB_ok hzl) hn1 len
    rw [← repL_ok hb] at e1
    have e2 : (parts.map fun (p : Nat × Operand) => (p.1, a.eval p.2)).toList = vs := by rw [Array.toList_map]; exact evParts_ok hL hx hgs
    have e3 := fill_ok (fun i => some (i * n, n)) vs base cs hf
    have hne : ¬ len * n = 0 := by omega
    simp only [execOp, ho, Instr.buildSlice, Sem.run_bind, run_underlying (TT.u_ok hu), Result.andThen_ok, run_sizeOf hz, Sem.run_ite, if_neg hlim', Sem.run_pure, if_neg hne, run_zero hz, e1, e2, e3]
    simp [newRow, cl, hlim', hne, run_zero hz, e1, e3], _, ⟨w.heap.size, hO.has.fresh, rfl, rfl⟩, Stp.alloc hO.has _⟩
theorem eo_makeSlice {t e : TypeId} {x y : Operand} {kl kc : IntKind} {a c : Int} {z : Value} {n m : Nat} {zs : List Value} (ho : o.op = .makeSlice t x y)
    (hx : opnd L x = some (true, .int kl a)) (hy : opnd L y = some (true, .int kc c)) (hu : C.T.u t = some (.slice e)) (hz : C.T.i e = some (z, n, m)) (hzc : vcells z = some zs) (hzl : lenB n zs = true) (hn0 : Nat.blt 0 n = true)
    (h0 : 0 ≤ a ∧ a ≤ c) (hb : (m : Int) * c ≤ 281474976710656 ∧ c ≤ 9223372036854775807) : EO C L σ o (fun v σ' => ∃ b, b ∉ keys σ ∧ v = .slice (some ⟨b, 0, none⟩) a.toNat c.toNat ∧ σ' = (b, cl (List.replicate c.toNat zs).flatten e) :: σ) := fun ac w hL hO => by
  obtain ⟨i, hi1, hi2, hi3, hi4⟩ := TT.i_ok hz
  have hn1 : 0 < n := Nat.le_of_ble_eq_true hn0
  have e1 : madeCells z.cells (c.toNat * i.size) = ((List.replicate c.toNat zs).flatten).toArray := by
    rw [hi3]; exact rep_arr hzc (lenB_ok hzl) hn1 c.toNat
  refine .inl ⟨.slice (some ⟨w.heap.size, 0, none⟩) a.toNat c.toNat, w.alloc (cl (List.replicate c.toNat zs).flatten e), ?_, _, ⟨w.heap.size, hO.has.fresh, rfl, rfl⟩, Stp.alloc hO.has _⟩
  have := run_make (P := C.P) w t e i z (TT.u_ok hu) hi1 hi2 kl kc a c h0.1 h0.2 (by rw [hi4]; exact hb.1) hb.2
  simp only [execOp, ho, opnd_ev hL hx rfl, opnd_ev hL hy rfl, Sem.run_bind, this, Result.andThen_ok, Sem.run_pure, e1]
  rfl
theorem eo_storeW {t : TypeId} {x y : Operand} {z v : Value} {b off n m i : Nat} {cs vs cs' : List Value} {e : TypeId} {σ' : Heap} (ho : o.op = .store t x y)
    (hx : opnd L x = some (true, .pointer (some ⟨b, off, none⟩))) (hy : opnd L y = some (true, v)) (hc : vcells v = some vs) (h1 : vs.all Value.oneCell' = true) (hz : C.T.i t = some (z, n, m)) (hl : vs.length = n)
    (hi : getI i σ = some (b, cl cs e)) (hw : Wr cs off vs cs') (hs : setI i (b, cl cs' e) σ = some σ') : EO C L σ o (fun _ s => s = σ') := fun a w hL hO => by
  have hb := hO.has.has _ (setI_spec hi hs).2.1
  obtain ⟨w', r1, r2, r3, r4, r5, r6, r7⟩ := run_storeCells (P := C.P) vs off 0 cs w hb (by simpa using hw.1) h1
  refine .inr (.inl ⟨w', ?_, σ', rfl, Stp.set hO.has hi hs r2 r3 r4 r5 r6 (by rw [r7]; simp only [Nat.add_zero]; rw [hw.2])⟩)
  have hsz : v.cells.size = n := by rw [vcells_ok hc]; simpa using hl
  simp [execOp, ho, opnd_ev hL hx rfl, opnd_ev hL hy rfl, Instr.storeAt, Instr.sureAddr, storeVar, run_sizeOf hz, hsz, vcells_ok hc, r1, hl]
theorem eo_store {t : TypeId} {x y : Operand} {z v : Value} {b off n m i : Nat} {cs vs cs' : List Value} {e : TypeId} {σ' : Heap} (ho : o.op = .store t x y)
    (hx : opnd L x = some (true, .pointer (some ⟨b, off, none⟩))) (hy : opnd L y = some (true, v)) (hc : vcells v = some vs) (h1 : vs.all Value.oneCell' = true) (hz : C.T.i t = some (z, n, m)) (hl : vs.length = n)
    (hi : getI i σ = some (b, cl cs e)) (hw : writeN off vs cs = some cs') (ho2 : Nat.ble off cs.length = true) (hs : setI i (b, cl cs' e) σ = some σ') : EO C L σ o (fun _ s => s = σ') :=
  eo_storeW ho hx hy hc h1 hz hl hi (writeN_ok (Nat.le_of_ble_eq_true ho2) hw) hs
theorem eo_append {s x : Operand} {t e : Nat} {z : Value} {n by' m k c bx ox : Nat} {zs xs news : List Value} {v : Value} (ρ φ : Heap) (ho : o.op = .call ⟨.builtin .append, #[s, x], #[t, t]⟩)
    (hs : opnd L s = some (true, v)) (hx : opnd L x = some (true, .slice (some ⟨bx, ox, none⟩) k c)) (hu : C.T.u t = some (.slice e)) (hz : C.T.i e = some (z, n, by')) (hzc : vcells z = some zs) (hzl : zs.length = n) (hn0 : 0 < n)
    (hσ : σ = ρ ++ φ) (hv : Vec e n m xs v φ) (hl : news.length = k * n) (hnews : ∀ j u, news[j]? = some u → Cel C.E.β σ bx (ox + j) u) (h1 : news.all Value.oneCell' = true) (hm : m + k ≤ maxLen) (hby : (m + k) * by' ≤ 140737488355328) :
    EO C L σ o (fun v' σ' => ∃ φ', Vec e n (m + k) (xs ++ news) v' φ' ∧ σ' = ρ ++ φ') := fun a w hL hO => by
  subst hσ
  obtain ⟨v', w', φ', r1, r2, r3⟩ := run_append (ty := o.type) hu hz hzc hzl hn0 hv hO.has hl (fun j u hj => by rw [Addr.add_lit]; exact (hnews j u hj).ok hO) h1 hm hby
  refine .inl ⟨v', w', ?_, ρ ++ φ', ⟨φ', r2, rfl⟩, r3⟩
  simp [execOp, ho, resolve, invoke, builtin, opnd_ev hL hs rfl, opnd_ev hL hx rfl]
  rw [r1]
  simp
/-- A call that makes what it tells out of new memory. -/
theorem eo_callE {x : Operand} {f : FuncId} {first cap : List Value} {args : Array Operand} {ts : Array TypeId} {gs : List Bool} {vs av : List Value} {R : Value → Heap → Prop}
    (ho : o.op = .call ⟨.value x, args, ts⟩) (hx : opnd L x = some (true, .func (.func f) first.toArray cap.toArray)) (ha : opnds L args.toList = some (gs, vs)) (hi : gs.all id = true) (hv : av = first ++ vs ++ cap) (hT : Tr C.P f av C.E.β [] R) :
    EO C L σ o (fun v s => ∃ σ', R v σ' ∧ s = σ' ++ σ) := fun a w hL hO => .inr (.inr (by
  refine ⟨f, _, run_call hT.1 ho (opnd_ev hL hx rfl) (opnds_ok hL ha hi), ?_⟩
  have e : (first.toArray ++ vs.toArray) ++ cap.toArray = av.toArray := by rw [hv]; simp
  rw [e]
  refine (hT.2 w (fun b o hb => ⟨(hO.ro hb).1, by simp⟩) (Has.nil w)).mono ?_
  rintro e w' ⟨v, σ', h1, h2, h3⟩
  exact ⟨v, h1, σ' ++ σ, ⟨σ', h2, rfl⟩, h3.frame (σ := []) hO.has⟩))
theorem eo_callT {x : Operand} {f : FuncId} {first cap : List Value} {args : Array Operand} {ts : Array TypeId} {gs : List Bool} {vs av : List Value} {R : Value → Heap → Prop} {is js : List Nat} {σf φ : Heap}
    (ho : o.op = .call ⟨.value x, args, ts⟩) (hx : opnd L x = some (true, .func (.func f) first.toArray cap.toArray)) (ha : opnds L args.toList = some (gs, vs)) (hi : gs.all id = true) (hT : Tr C.P f av C.E.β σf R) (hv : av = first ++ vs ++ cap)
    (hs : selA is σ = some σf) (hr : selA js σ = some φ) (hnd : nodupB (is ++ js) = true) : EO C L σ o (fun v s => ∃ σ', R v σ' ∧ s = σ' ++ φ) := fun a w hL hO => .inr (.inr (by
  have hsub : Sub (σf ++ φ) σ := Sl.sub ⟨selA_append hs hr, hnd⟩ hO.has
  have hh := hO.has.sub hsub
  have hhf : Has σf w := ⟨fun p hp => hh.has p (List.mem_append_left _ hp), by have := hh.nodup; rw [keys_append] at this; exact (List.nodup_append.1 this).1⟩
  refine ⟨f, _, run_call hT.1 ho (opnd_ev hL hx rfl) (opnds_ok hL ha hi), ?_⟩
  have e : (first.toArray ++ vs.toArray) ++ cap.toArray = av.toArray := by rw [hv]; simp
  rw [e]
  refine (hT.2 w (fun b o hb => ⟨(hO.ro hb).1, fun hm => (hO.ro hb).2 (hsub.keys b (by rw [keys_append]; exact List.mem_append_left _ hm))⟩) hhf).mono ?_
  rintro e w' ⟨v, σ', h1, h2, h3⟩
  have h4 := h3.frame hh
  exact ⟨v, h1, σ' ++ φ, ⟨σ', h2, rfl⟩, ⟨h4.os, h4.tape, h4.output, h4.size, fun b hb hnb => h4.old b hb (fun hm => hnb (hsub.keys b hm)), h4.has, fun b hb => (h4.new b hb).imp (hsub.keys b) id⟩⟩))
end

/-! ### The check. Classes: 0: quiet, ahead of all effects that turn something; 1: quiet, reads nothing that turns; 2: makes new memory alone; 3: an effect. -/
def clsAt (cs : List Nat) (k : Nat) : Nat := (nth cs k).getD 9
def hdB (cs : List Nat) (k : Nat) : Bool := Nat.ble (clsAt cs k) 1
def chkM (ops : List Oper) (cs : List Nat) : Bool :=
  let B := masks ops []
  let m := cs.length
  cs.all (fun c => Nat.ble c 3) && Nat.ble m ops.length &&
  (List.range ops.length).all (fun i => match nth ops i with
    | none => true
    | some o => (depsOf o).all (fun j => decide (j < i)) &&
      (if i < m then (List.range m).all (chkPair ops B i o) &&
        (if hdB cs i then (depsOf o).all (hdB cs) else (List.range i).all (fun k => hdB cs k || bit B i k)) &&
        (if Nat.beq (clsAt cs i) 3 then (List.range m).all (fun k => !(Nat.beq (clsAt cs k) 0) || (decide (k < i) && bit B i k)) else true)
      else (List.range i).all (fun k => bit B i k)))

structure ChkM (ops : List Oper) (cs : List Nat) : Prop where
  le : cs.length ≤ ops.length
  c3 : ∀ k, k < cs.length → clsAt cs k ≤ 3
  low : ∀ i o, ops[i]? = some o → ∀ j ∈ depsOf o, j < i
  pair : ∀ i o k ok s, i < cs.length → k < cs.length → ops[i]? = some o → ops[k]? = some ok → ok.dst = some s → i ≠ k → (s ∈ namesOf ops o ∨ o.dst = some s) → if k < i then Bef ops k i else Bef ops i k
  tail : ∀ i o k, cs.length ≤ i → ops[i]? = some o → k < cs.length → Bef ops k i
  head : ∀ i o, i < cs.length → ops[i]? = some o → hdB cs i = true → ∀ j ∈ depsOf o, hdB cs j = true
  chain : ∀ i k, i < cs.length → hdB cs i = false → hdB cs k = false → k < i → Bef ops k i
  early : ∀ i k, i < cs.length → clsAt cs i = 3 → k < cs.length → clsAt cs k = 0 → Bef ops k i

/-- What is behind all stands in a chain. -/
def ChT (ops : List Oper) (cs : List Nat) : Prop := ∀ i o k, cs.length ≤ i → ops[i]? = some o → k < i → Bef ops k i
theorem chkM_okT {ops : List Oper} {cs : List Nat} (h : chkM ops cs = true) : ChT ops cs := by
  unfold chkM at h
  simp only [Bool.and_eq_true, List.all_eq_true, List.mem_range] at h
  obtain ⟨⟨hc, hle⟩, h⟩ := h
  intro i o k hi ho hk
  have h1 := h i (List.getElem?_eq_some_iff.1 ho).1
  rw [nth_eq, ho] at h1
  simp only [Bool.and_eq_true, List.all_eq_true, decide_eq_true_eq] at h1
  have h2 := h1.2
  rw [if_neg (by omega)] at h2
  simp only [List.all_eq_true, List.mem_range] at h2
  exact bit_ok (h2 k hk)

theorem chkM_ok {ops : List Oper} {cs : List Nat} (h : chkM ops cs = true) : ChkM ops cs := by
  unfold chkM at h
  simp only [Bool.and_eq_true, List.all_eq_true, List.mem_range] at h
  obtain ⟨⟨hc, hle⟩, h⟩ := h
  have hle := Nat.le_of_ble_eq_true hle
  have key : ∀ i o, ops[i]? = some o → (∀ j ∈ depsOf o, j < i) ∧ (i < cs.length → (∀ k, k < cs.length → chkPair ops (masks ops []) i o k = true) ∧
      (if hdB cs i then (depsOf o).all (hdB cs) else (List.range i).all (fun k => hdB cs k || bit (masks ops []) i k)) = true ∧
      (clsAt cs i = 3 → ∀ k, k < cs.length → clsAt cs k = 0 → bit (masks ops []) i k = true)) ∧ (cs.length ≤ i → ∀ k, k < i → bit (masks ops []) i k = true) := by
    intro i o ho
    have h1 := h i (List.getElem?_eq_some_iff.1 ho).1
    rw [nth_eq, ho] at h1
    simp only [Bool.and_eq_true, List.all_eq_true, decide_eq_true_eq] at h1
    refine ⟨h1.1, fun hi => ?_, fun hi k hk => ?_⟩
    · have h2 := h1.2
      rw [if_pos hi] at h2
      simp only [Bool.and_eq_true, List.all_eq_true, List.mem_range] at h2
      refine ⟨fun k hk => h2.1.1 k hk, h2.1.2, fun h3 k hk h0 => ?_⟩
      have h4 := h2.2
      rw [h3, if_pos (show Nat.beq 3 3 = true from rfl)] at h4
      have h5 := List.all_eq_true.1 h4 k (List.mem_range.2 hk)
      rw [h0] at h5
      have h6 : (decide (k < i) && bit (masks ops []) i k) = true := by simpa using h5
      rw [Bool.and_eq_true] at h6; exact h6.2
    · have h2 := h1.2
      rw [if_neg (by omega)] at h2
      simp only [List.all_eq_true, List.mem_range] at h2
      exact h2 k hk
  refine ⟨hle, fun k hk => ?_, fun i o ho => (key i o ho).1, fun i o k ok s hi hk ho hok hs hne hn => ?_, fun i o k hi ho hk => bit_ok ((key i o ho).2.2 hi k (by omega)), fun i o hi ho hh j hj => ?_, fun i k hi hh hk hlt => ?_, fun i k hi h3 hk h0 => ?_⟩
  · have : cs[k]? = some cs[k] := List.getElem?_eq_getElem hk
    unfold clsAt
    rw [nth_eq, this]
    exact Nat.le_of_ble_eq_true (hc _ (List.getElem_mem hk))
  · have h2 := ((key i o ho).2.1 hi).1 k hk
    unfold chkPair at h2
    rw [nth_eq, hok] at h2
    simp only [hs] at h2
    have e1 : Nat.beq i k = false := by
      cases hb : Nat.beq i k with
      | false => rfl
      | true => exact absurd (Nat.eq_of_beq_eq_true hb) hne
    have h3 : (if k < i then bit (masks ops []) i k else bit (masks ops []) k i) = true := by
      rcases hn with hn | hn
      · rw [e1, elemB_mem hn] at h2; simpa using h2
      · rw [e1, hn] at h2; simpa using h2
    split at h3
    · rename_i hlt; rw [if_pos hlt]; exact bit_ok h3
    · rename_i hlt; rw [if_neg hlt]; exact bit_ok h3
  · have h2 := ((key i o ho).2.1 hi).2.1
    rw [if_pos hh] at h2
    exact List.all_eq_true.1 h2 j hj
  · have ho : ops[i]? = some ops[i] := List.getElem?_eq_getElem (by omega)
    have h2 := ((key i _ ho).2.1 hi).2.1
    rw [if_neg (by rw [hh]; simp)] at h2
    have h3 := List.all_eq_true.1 h2 k (List.mem_range.2 hlt)
    rw [hk] at h3
    exact bit_ok (by simpa using h3)
  · have ho : ops[i]? = some ops[i] := List.getElem?_eq_getElem (by omega)
    exact bit_ok (((key i _ ho).2.1 hi).2.2 h3 k hk h0)

/-! ### The judgement: the head, in the text's order; the effects; what is behind all of them -/
def hSel (σ0 ρ : Heap) : Nat → Heap
  | 0 => σ0
  | _ => ρ
def KDH (C : Cx) (ops : List Oper) (σ0 ρ : Heap) (K : Fr → Prop) : List Nat → List Oper → Fr → Prop
  | c :: cs, o :: rest, fr => match Nat.ble c 1 with
    | true => ∃ g v, (guardOf ops (LR (namesOf ops o) (look fr)) o = some g ∨ guardIn ops (LR (namesOf ops o) (look fr)) o = some g) ∧ okDst C.N o.dst = true ∧
      Qt C (LR (namesOf ops o) (look fr)) (hSel σ0 ρ c) g o v ∧ KDH C ops σ0 ρ K cs rest (pushFr o.dst g v fr)
    | false => KDH C ops σ0 ρ K cs rest fr
  | _, _, fr => K fr
def KDM (C : Cx) (ops : List Oper) (σ0 ρ : Heap) (K : Fr → Heap → Prop) : Bool → List Nat → List Oper → Fr → Heap → Prop
  | h, c :: cs, o :: rest, fr, σ => match Nat.ble c 1 with
    | true => KDM C ops σ0 ρ K h cs rest fr σ
    | false => ∃ g R, guardOf ops (LR (namesOf ops o) (look fr)) o = some g ∧ okDst C.N o.dst = true ∧ (g = true → EO C (LR (namesOf ops o) (look fr)) σ o R) ∧ (g = false → R undef σ) ∧
      ∀ v σ', R v σ' → (∀ p ∈ hSel σ0 ρ (if h || Nat.beq c 3 then 1 else 0), p ∈ σ') ∧ KDM C ops σ0 ρ K (h || Nat.beq c 3) cs rest (pushFr o.dst g v fr) σ'
  | _, _, _, fr, σ => K fr σ

structure StepH (C : Cx) (ops : List Oper) (σh : Heap) (hd : Bool) (o : Oper) (g : Bool) (v : Value) (fr fr' : Fr) : Prop where
  yes : hd = true → (guardOf ops (LR (namesOf ops o) (look fr)) o = some g ∨ guardIn ops (LR (namesOf ops o) (look fr)) o = some g) ∧ okDst C.N o.dst = true ∧ Qt C (LR (namesOf ops o) (look fr)) σh g o v ∧ fr' = pushFr o.dst g v fr
  no : hd = false → fr' = fr

theorem clsAt_zero (c : Nat) (cs : List Nat) : clsAt (c :: cs) 0 = c := rfl
theorem clsAt_succ (c : Nat) (cs : List Nat) (k : Nat) : clsAt (c :: cs) (k + 1) = clsAt cs k := rfl
theorem clsAt_nil (k : Nat) : clsAt [] k = 9 := by simp [clsAt, nth]

theorem KDH.run {C : Cx} {ops : List Oper} {σ0 ρ : Heap} {K : Fr → Prop} : ∀ (cs : List Nat) (l : List Oper) (n : Nat) (fr : Fr), n + l.length = ops.length → cs.length ≤ l.length → (∀ j, l[j]? = ops[n + j]?) → KDH C ops σ0 ρ K cs l fr →
    ∃ (gs : Nat → Bool) (vs : Nat → Value) (frs : Nat → Fr), frs n = fr ∧ (∀ k o, n ≤ k → k < n + cs.length → ops[k]? = some o → StepH C ops (hSel σ0 ρ (clsAt cs (k - n))) (hdB cs (k - n)) o (gs k) (vs k) (frs k) (frs (k + 1))) ∧ K (frs (n + cs.length))
  | [], l, n, fr, _, _, _, h => ⟨fun _ => true, fun _ => undef, fun _ => fr, rfl, fun k o h1 h2 => by simp at h2; omega, by cases l <;> exact h⟩
  | c :: cs, [], n, fr, _, hle, _, _ => by simp at hle
  | c :: cs, o :: rest, n, fr, hn, hle, hl, h => by
    have h0 : ops[n]? = some o := by have := hl 0; simpa using this.symm
    have hl' : ∀ j, rest[j]? = ops[n + 1 + j]? := fun j => by have := hl (j + 1); simpa [Nat.add_assoc, Nat.add_comm 1 j] using this
    simp only [List.length_cons] at hn hle
    have he : n + (c :: cs).length = n + 1 + cs.length := by simp; omega
    have hshift : ∀ k, n + 1 ≤ k → k - n = (k - (n + 1)) + 1 := fun k hk => by omega
    unfold KDH at h
    cases hc : Nat.ble c 1 with
    | false =>
      rw [hc] at h
      obtain ⟨gs, vs, frs, e1, e2, e3⟩ := KDH.run cs rest (n + 1) fr (by omega) (by omega) hl' h
      refine ⟨gs, vs, fun k => if k = n then fr else frs k, by simp, fun k o' hk hk2 ho => ?_, ?_⟩
      · by_cases e : k = n
        · subst e
          have hne : k + 1 ≠ k := by omega
          rw [Nat.sub_self]
          refine ⟨fun e => ?_, fun _ => ?_⟩
          · rw [show hdB (c :: cs) 0 = Nat.ble c 1 from rfl, hc] at e; cases e
          · simp only [hne, if_false, if_true]; exact e1
        · have hne : k + 1 ≠ n := by omega
          have := e2 k o' (by omega) (by omega) ho
          rw [hshift k (by omega)]
          simp only [e, hne, if_false]
          exact this
      · rw [he]
        have hne : n + 1 + cs.length ≠ n := by omega
        simp only [hne, if_false]; exact e3
    | true =>
      rw [hc] at h
      obtain ⟨g, v, h1, h2, h3, h4⟩ := h
      obtain ⟨gs, vs, frs, e1, e2, e3⟩ := KDH.run cs rest (n + 1) _ (by omega) (by omega) hl' h4
      refine ⟨fun k => if k = n then g else gs k, fun k => if k = n then v else vs k, fun k => if k = n then fr else frs k, by simp, fun k o' hk hk2 ho => ?_, ?_⟩
      · by_cases e : k = n
        · subst e
          have ho' : o' = o := Option.some.inj (ho.symm.trans h0)
          subst ho'
          have hne : k + 1 ≠ k := by omega
          rw [Nat.sub_self]
          refine ⟨fun _ => ?_, fun e => ?_⟩
          · simp only [hne, if_false, if_true]; exact ⟨h1, h2, h3, e1⟩
          · rw [show hdB (c :: cs) 0 = Nat.ble c 1 from rfl, hc] at e; cases e
        · have hne : k + 1 ≠ n := by omega
          have := e2 k o' (by omega) (by omega) ho
          rw [hshift k (by omega)]
          simp only [e, hne, if_false]
          exact this
      · rw [he]
        have hne : n + 1 + cs.length ≠ n := by omega
        simp only [hne, if_false]; exact e3

section
variable {C : Cx} {ops : List Oper} {Q : KQ} {cs : List Nat} {σ0 ρ : Heap}

/-- The values, the guards, the frames of the head, in the text's order. -/
structure RunH (C : Cx) (ops : List Oper) (σ0 ρ : Heap) (cs : List Nat) (gs : Nat → Bool) (vs : Nat → Value) (frs : Nat → Fr) : Prop where
  at_ : ∀ k o, k < cs.length → ops[k]? = some o → StepH C ops (hSel σ0 ρ (clsAt cs k)) (hdB cs k) o (gs k) (vs k) (frs k) (frs (k + 1))

def SrcH (ops : List Oper) (cs : List Nat) (gs : Nat → Bool) (vs : Nat → Value) (fr0 : Fr) (i s : Nat) (g : Bool) (v : Value) : Prop :=
    (∃ k o, k < i ∧ hdB cs k = true ∧ ops[k]? = some o ∧ o.dst = some s ∧ g = gs k ∧ v = vs k ∧ ∀ k' o', k' < i → hdB cs k' = true → ops[k']? = some o' → o'.dst = some s → k' ≤ k) ∨
    ((∀ k o, k < i → hdB cs k = true → ops[k]? = some o → o.dst ≠ some s) ∧ look fr0 s = some (g, v))
theorem RunH.src {gs : Nat → Bool} {vs : Nat → Value} {frs : Nat → Fr} (h : RunH C ops σ0 ρ cs gs vs frs) (hm : cs.length ≤ ops.length) : ∀ i, i ≤ cs.length → ∀ s g v, look (frs i) s = some (g, v) → SrcH ops cs gs vs (frs 0) i s g v
  | 0, _, s, g, v, hl => .inr ⟨fun k o hk => by omega, hl⟩
  | i + 1, hi, s, g, v, hl => by
    have ho : ops[i]? = some ops[i] := List.getElem?_eq_getElem (by omega)
    have hst := h.at_ i _ (by omega) ho
    have old : look (frs i) s = some (g, v) → (hdB cs i = true → ops[i].dst ≠ some s) → SrcH ops cs gs vs (frs 0) (i + 1) s g v := fun hl' hne => by
      have ih := RunH.src h hm i (by omega) s g v hl'
      rcases ih with ⟨k, o, a1, a0, a2, a3, a4, a5, a6⟩ | ⟨a1, a2⟩
      · refine Or.inl ⟨k, o, by omega, a0, a2, a3, a4, a5, fun k' o' hk' hh' ho' hd' => ?_⟩
        by_cases e : k' = i
        · subst e; rw [ho] at ho'; rw [← Option.some.inj ho'] at hd'; exact absurd hd' (hne hh')
        · exact a6 k' o' (by omega) hh' ho' hd'
      · refine Or.inr ⟨fun k o hk hh hok hd => ?_, a2⟩
        by_cases e : k = i
        · subst e; rw [ho] at hok; rw [← Option.some.inj hok] at hd; exact absurd hd (hne hh)
        · exact a1 k o (by omega) hh hok hd
    cases hh : hdB cs i with
    | false =>
      rw [hst.no hh] at hl
      exact old hl (fun e => by rw [hh] at e; cases e)
    | true =>
      obtain ⟨_, _, _, h4⟩ := hst.yes hh
      rw [h4] at hl
      cases hd : ops[i].dst with
      | none => rw [hd] at hl; exact old hl (fun _ => by rw [hd]; simp)
      | some d =>
        rw [hd] at hl
        simp only [pushFr] at hl
        unfold look at hl
        cases hb : Nat.beq d s with
        | true =>
          rw [hb] at hl
          simp only [cond_true, Option.some.injEq, Prod.mk.injEq] at hl
          have e := Nat.eq_of_beq_eq_true hb
          subst e
          exact .inl ⟨i, ops[i], by omega, hh, ho, hd, hl.1.symm, hl.2.symm, fun k' _ hk' _ _ _ => by omega⟩
        | false =>
          rw [hb] at hl
          exact old hl (fun _ => by rw [hd]; intro e; rw [Option.some.inj e] at hb; simp at hb)

/-- What effects have told: the canonical frame and heap when those ahead of t have been carried out. -/
structure InvM (C : Cx) (ops : List Oper) (σ0 ρ : Heap) (cs : List Nat) (gs : Nat → Bool) (vs : Nat → Value) (frm : Fr) (a0 : Act) (K : Fr → Heap → Prop) (L : Array Bool) (a : Act) (w : World) (t : Nat) (h : Bool) (F : Fr) (σ : Heap) : Prop where
  size : L.size = ops.length
  closed : ∀ i o, ops[i]? = some o → L.getD i false = true → ∀ j ∈ depsOf o, L.getD j false = true
  pre : ∀ i, cs.length ≤ i → L.getD i false = false
  n : a.tmps.size = C.N
  tle : t ≤ cs.length
  mids : ∀ i, i < cs.length → hdB cs i = false → (L.getD i false = true ↔ i < t)
  hard : h = true → ∃ i, i < t ∧ clsAt cs i = 3
  wrote : ∀ s k o, hdB cs k = true → L.getD k false = true → ops[k]? = some o → o.dst = some s → (∀ k' o', L.getD k' false = true → ops[k']? = some o' → o'.dst = some s → hdB cs k' = true ∧ k' ≤ k) → a.tmps[s]? = some (gv (gs k) (vs k))
  midw : ∀ s k o g v, hdB cs k = false → L.getD k false = true → ops[k]? = some o → o.dst = some s → look F s = some (g, v) → a.tmps[s]? = some (gv g v)
  midn : ∀ s, (∀ k o, hdB cs k = false → L.getD k false = true → ops[k]? = some o → o.dst ≠ some s) → look F s = look frm s
  kept : ∀ s, (∀ k o, L.getD k false = true → ops[k]? = some o → o.dst ≠ some s) → a.tmps[s]? = a0.tmps[s]?
  own : Own C.E σ w
  defs : Defs C σ a w
  hid : Hid C σ w
  st : ∀ p ∈ hSel σ0 ρ (if h then 1 else 0), p ∈ σ
  go : KDM C ops σ0 ρ K h (cs.drop t) (ops.drop t) F σ

theorem getI_drop_cls {cs : List Nat} {t : Nat} (h : t < cs.length) : cs.drop t = clsAt cs t :: cs.drop (t + 1) := by
  rw [List.drop_eq_getElem_cons h]
  congr 1
  unfold clsAt
  rw [nth_eq, List.getElem?_eq_getElem h]; rfl

theorem KDM.skip {K : Fr → Heap → Prop} {h : Bool} {F : Fr} {σ : Heap} (hle : cs.length ≤ ops.length) : ∀ (n t : Nat), t + n ≤ cs.length → (∀ k, t ≤ k → k < t + n → hdB cs k = true) → KDM C ops σ0 ρ K h (cs.drop t) (ops.drop t) F σ → KDM C ops σ0 ρ K h (cs.drop (t + n)) (ops.drop (t + n)) F σ
  | 0, t, _, _, hk => hk
  | n + 1, t, ht, hh, hk => by
    have h1 : t < cs.length := by omega
    have h2 : t < ops.length := by omega
    rw [getI_drop_cls h1, List.drop_eq_getElem_cons h2] at hk
    unfold KDM at hk
    have h3 : Nat.ble (clsAt cs t) 1 = true := hh t (Nat.le_refl _) (by omega)
    rw [h3] at hk
    have := KDM.skip hle n (t + 1) (by omega) (fun k hk1 hk2 => hh k (by omega) (by omega)) hk
    rwa [show t + (n + 1) = t + 1 + n by omega]

theorem Own.take {E : Env} {σ τ : Heap} {w : World} (h : Own E σ w) (hn : (keys τ).Nodup) (hs : ∀ p ∈ τ, p ∈ σ) : Own E τ w := h.sub ⟨hs, hn⟩

theorem InvM.low {gs : Nat → Bool} {vs : Nat → Value} {frm F : Fr} {a0 a : Act} {K : Fr → Heap → Prop} {L : Array Bool} {w : World} {t i s : Nat} {h : Bool} {σ : Heap} {o : Oper} (hC : ChkM ops cs) (hI : InvM C ops σ0 ρ cs gs vs frm a0 K L a w t h F σ) (hi : i < cs.length) (ho : ops[i]? = some o) (hun : L.getD i false = false)
    (hn : s ∈ namesOf ops o ∨ o.dst = some s) : ∀ k ok, L.getD k false = true → ops[k]? = some ok → ok.dst = some s → k < i ∧ Bef ops k i := fun k ok hk hok hks => by
  have hkm : k < cs.length := by
    rcases Nat.lt_or_ge k cs.length with h | h
    · exact h
    · rw [hI.pre k h] at hk; cases hk
  have hne : i ≠ k := fun e => by subst e; rw [hun] at hk; cases hk
  have h1 := hC.pair i o k ok s hi hkm ho hok hks hne hn
  by_cases hlt : k < i
  · rw [if_pos hlt] at h1; exact ⟨hlt, h1⟩
  · rw [if_neg hlt] at h1
    have := h1.listed hI.closed hk
    rw [hun] at this; cases this

/-- One that comes ahead of a quiet one is quiet. -/
theorem ChkM.bef_head (hC : ChkM ops cs) {k i : Nat} (h : Bef ops k i) : i < cs.length → hdB cs i = true → hdB cs k = true := by
  obtain ⟨n, hn⟩ := h
  have key : ∀ n i, BefN ops n k i → i < cs.length → hdB cs i = true → hdB cs k = true := by
    intro n
    induction n with
    | zero => rintro i ⟨o, h, hk⟩ hi hh; exact hC.head i o hi h hh k hk
    | succ n ih =>
      rintro i ⟨o, j, h, hj, hk⟩ hi hh
      have := hC.low i o h j hj
      exact ih j hk (by omega) (hC.head i o hi h hh j hj)
  exact key n i hn

/-- The slots that an operation names hold what the canonical order says. -/
theorem InvM.namesH {gs : Nat → Bool} {vs : Nat → Value} {frs : Nat → Fr} {frm F : Fr} {a0 a : Act} {K : Fr → Heap → Prop} {L : Array Bool} {w : World} {t i : Nat} {h : Bool} {σ : Heap} {o : Oper} (hC : ChkM ops cs) (hR : RunH C ops σ0 ρ cs gs vs frs) (h0 : LOk (look (frs 0)) a0) (hI : InvM C ops σ0 ρ cs gs vs frm a0 K L a w t h F σ) (hi : i < cs.length)
    (hh : hdB cs i = true) (ho : ops[i]? = some o) (hun : L.getD i false = false) (hd : ∀ j ∈ depsOf o, L.getD j false = true) : LOk (LR (namesOf ops o) (look (frs i))) a := by
  intro s g v hs
  obtain ⟨hn, hl⟩ := LR_some hs
  have hlow := hI.low hC hi ho hun (.inl hn)
  rcases hR.src hC.le i (by omega) s g v hl with ⟨k, ok, a1, a0', a2, a3, rfl, rfl, a6⟩ | ⟨a1, a2⟩
  · have h1 := hC.pair i o k ok s hi (by omega) ho a2 a3 (by omega) (.inl hn)
    rw [if_pos a1] at h1
    refine hI.wrote s k ok a0' (h1.listed' hI.closed ho hd) a2 a3 (fun k' o' hk' ho' hs' => ?_)
    obtain ⟨b1, b2⟩ := hlow k' o' hk' ho' hs'
    have b3 := hC.bef_head b2 hi hh
    exact ⟨b3, a6 k' o' b1 b3 ho' hs'⟩
  · rw [hI.kept s (fun k ok hk hok' hks => by
      obtain ⟨b1, b2⟩ := hlow k ok hk hok' hks
      exact a1 k ok b1 (hC.bef_head b2 hi hh) hok' hks)]
    exact h0 s g v a2
theorem InvM.namesM {gs : Nat → Bool} {vs : Nat → Value} {frs : Nat → Fr} {F : Fr} {a0 a : Act} {K : Fr → Heap → Prop} {L : Array Bool} {w : World} {t i : Nat} {h : Bool} {σ : Heap} {o : Oper} (hC : ChkM ops cs) (hR : RunH C ops σ0 ρ cs gs vs frs) (h0 : LOk (look (frs 0)) a0) (hI : InvM C ops σ0 ρ cs gs vs (frs cs.length) a0 K L a w t h F σ) (hi : i < cs.length)
    (hh : hdB cs i = false) (ho : ops[i]? = some o) (hun : L.getD i false = false) (hd : ∀ j ∈ depsOf o, L.getD j false = true) : LOk (LR (namesOf ops o) (look F)) a := by
  intro s g v hs
  obtain ⟨hn, hl⟩ := LR_some hs
  have hlow := hI.low hC hi ho hun (.inl hn)
  by_cases hw : ∃ k ok, hdB cs k = false ∧ L.getD k false = true ∧ ops[k]? = some ok ∧ ok.dst = some s
  · obtain ⟨k, ok, b1, b2, b3, b4⟩ := hw
    exact hI.midw s k ok g v b1 b2 b3 b4 hl
  · have hno : ∀ k ok, hdB cs k = false → L.getD k false = true → ops[k]? = some ok → ok.dst ≠ some s := fun k ok b1 b2 b3 b4 => hw ⟨k, ok, b1, b2, b3, b4⟩
    have hhd : ∀ k ok, L.getD k false = true → ops[k]? = some ok → ok.dst = some s → hdB cs k = true := fun k ok b2 b3 b4 => by
      cases e : hdB cs k with
      | true => rfl
      | false => exact absurd b4 (hno k ok e b2 b3)
    rw [hI.midn s hno] at hl
    rcases hR.src hC.le cs.length (Nat.le_refl _) s g v hl with ⟨k, ok, a1, a0', a2, a3, rfl, rfl, a6⟩ | ⟨a1, a2⟩
    · have hne : i ≠ k := fun e => by subst e; rw [hh] at a0'; cases a0'
      have h1 := hC.pair i o k ok s hi (by omega) ho a2 a3 hne (.inl hn)
      have hki : k < i := by
        by_cases e : k < i
        · exact e
        · rw [if_neg e] at h1
          have := hC.bef_head h1 a1 a0'
          rw [hh] at this; cases this
      rw [if_pos hki] at h1
      exact hI.wrote s k ok a0' (h1.listed' hI.closed ho hd) a2 a3 (fun k' o' hk' ho' hs' => by
        have b3 := hhd k' o' hk' ho' hs'
        have b1 := hlow k' o' hk' ho' hs'
        exact ⟨b3, a6 k' o' (by omega) b3 ho' hs'⟩)
    · rw [hI.kept s (fun k ok hk hok' hks => by
        have b3 := hhd k ok hk hok' hks
        have b1 := hlow k ok hk hok' hks
        exact a1 k ok (by omega) b3 hok' hks)]
      exact h0 s g v a2

theorem look_push {d : Option Nat} {g : Bool} {v : Value} {F : Fr} {s : Nat} : look (pushFr d g v F) s = if d = some s then some (g, v) else look F s := by
  cases d with
  | none => simp [pushFr]
  | some d =>
    simp only [pushFr]
    by_cases e : d = s
    · subst e
      simp only [if_true]
      unfold look
      simp
    · have : (some d = some s) = False := by simp [e]
      simp only [this, if_false]
      have hb : Nat.beq d s = false := by
        cases hb : Nat.beq d s with
        | false => rfl
        | true => exact absurd (Nat.eq_of_beq_eq_true hb) e
      conv => lhs; unfold look
      rw [hb]; rfl

theorem Defs.put {σ : Heap} {a : Act} {w : World} {d : Option Nat} {v : Value} (h : Defs C σ a w) : Defs C σ (a.put d v) w := by
  obtain ⟨dl, h1, h2, h3⟩ := h
  exact ⟨dl, by cases d <;> exact h1, h2, h3⟩

theorem InvM.nextH {gs : Nat → Bool} {vs : Nat → Value} {frm F : Fr} {a0 a : Act} {K : Fr → Heap → Prop} {L : Array Bool} {w w' : World} {t i : Nat} {h : Bool} {σ : Heap} {o : Oper} (hC : ChkM ops cs) (hI : InvM C ops σ0 ρ cs gs vs frm a0 K L a w t h F σ) (hi : i < cs.length) (hh : hdB cs i = true) (ho : ops[i]? = some o) (hun : L.getD i false = false)
    (hd : ∀ j ∈ depsOf o, L.getD j false = true) (hok : okDst C.N o.dst = true) (hb : Below w.heap.size w w') : InvM C ops σ0 ρ cs gs vs frm a0 K (L.setIfInBounds i true) (a.put o.dst (gv (gs i) (vs i))) w' t h F σ := by
  have hil : i < L.size := by rw [hI.size]; exact (List.getElem?_eq_some_iff.1 ho).1
  have hst := Stp.of_below hb hI.own.has
  have hlow : ∀ s, o.dst = some s → ∀ k ok, L.getD k false = true → ops[k]? = some ok → ok.dst = some s → k < i ∧ Bef ops k i := fun s his => hI.low hC hi ho hun (.inr his)
  have hset : ∀ k, L.getD k false = true → (L.setIfInBounds i true).getD k false = true := fun k hk => by rw [getD_set hil]; split <;> simp_all
  refine ⟨by simpa using hI.size, fun k ok hk hl j hj => ?_, fun k hk => ?_, by rw [put_size]; exact hI.n, hI.tle, fun k hk hm => ?_, hI.hard, fun s k ok hkh hl hk hks hmax => ?_, fun s k ok g v hkh hl hk hks hF => ?_, fun s hno => ?_, fun s hno => ?_, hI.own.step hst, (hI.defs.step hst).put, hI.hid.step hst, hI.st, hI.go⟩
  · rw [getD_set hil] at hl ⊢
    by_cases e : j = i
    · rw [if_pos e]
    · rw [if_neg e]
      by_cases e2 : k = i
      · subst e2; rw [ho] at hk; rw [← Option.some.inj hk] at hj; exact hd j hj
      · rw [if_neg e2] at hl; exact hI.closed k ok hk hl j hj
  · rw [getD_set hil, if_neg (by omega)]; exact hI.pre k hk
  · rw [getD_set hil, if_neg (fun e => by subst e; rw [hh] at hm; cases hm)]; exact hI.mids k hk hm
  · rw [okDst_put hI.n hok]
    by_cases e2 : k = i
    · subst e2
      rw [ho] at hk
      rw [Option.some.inj hk, if_pos hks]
    · rw [getD_set hil, if_neg e2] at hl
      have hne : o.dst ≠ some s := fun his => by
        have h1 := (hlow s his k ok hl hk hks).1
        have h2 := hmax i o (by rw [getD_set hil, if_pos rfl]) ho his
        omega
      rw [if_neg hne]
      exact hI.wrote s k ok hkh hl hk hks (fun k' o' hl' hk' hs' => hmax k' o' (hset k' hl') hk' hs')
  · have e2 : k ≠ i := fun e => by subst e; rw [hh] at hkh; cases hkh
    rw [getD_set hil, if_neg e2] at hl
    rw [okDst_put hI.n hok]
    have hne : o.dst ≠ some s := fun his => by
      have h1 := (hlow s his k ok hl hk hks).2
      have := hC.bef_head h1 hi hh
      rw [hkh] at this; cases this
    rw [if_neg hne]
    exact hI.midw s k ok g v hkh hl hk hks hF
  · exact hI.midn s (fun k ok hkh hl hk => hno k ok hkh (hset k hl) hk)
  · rw [okDst_put hI.n hok, if_neg (hno i o (by rw [getD_set hil, if_pos rfl]) ho)]
    exact hI.kept s (fun k ok hl hk => hno k ok (hset k hl) hk)

theorem InvM.atM {gs : Nat → Bool} {vs : Nat → Value} {frm F : Fr} {a0 a : Act} {K : Fr → Heap → Prop} {L : Array Bool} {w : World} {t i : Nat} {h : Bool} {σ : Heap} {o : Oper} (hC : ChkM ops cs) (hI : InvM C ops σ0 ρ cs gs vs frm a0 K L a w t h F σ) (hi : i < cs.length) (hh : hdB cs i = false) (ho : ops[i]? = some o) (hun : L.getD i false = false)
    (hd : ∀ j ∈ depsOf o, L.getD j false = true) : t ≤ i ∧ (∀ k, t ≤ k → k < i → hdB cs k = true) ∧ KDM C ops σ0 ρ K h (cs.drop i) (ops.drop i) F σ := by
  have hti : t ≤ i := by
    rcases Nat.lt_or_ge i t with e | e
    · have := (hI.mids i hi hh).2 e
      rw [hun] at this; cases this
    · exact e
  have hhd : ∀ k, t ≤ k → k < i → hdB cs k = true := fun k hk1 hk2 => by
    cases e : hdB cs k with
    | true => rfl
    | false =>
      have h1 := hC.chain i k hi hh e hk2
      have h2 := h1.listed' hI.closed ho hd
      have := (hI.mids k (by omega) e).1 h2
      omega
  refine ⟨hti, hhd, ?_⟩
  have := KDM.skip hC.le (i - t) t (by omega) (fun k h1 h2 => hhd k h1 (by omega)) hI.go
  rwa [show t + (i - t) = i by omega] at this

theorem InvM.nextM {gs : Nat → Bool} {vs : Nat → Value} {frm F : Fr} {a0 a : Act} {K : Fr → Heap → Prop} {L : Array Bool} {w w' : World} {t i : Nat} {h : Bool} {σ σ' : Heap} {o : Oper} {g : Bool} {v : Value} (hI : InvM C ops σ0 ρ cs gs vs frm a0 K L a w t h F σ) (hi : i < cs.length) (hh : hdB cs i = false) (ho : ops[i]? = some o)
    (hd : ∀ j ∈ depsOf o, L.getD j false = true) (hok : okDst C.N o.dst = true) (hti : t ≤ i) (hhd : ∀ k, t ≤ k → k < i → hdB cs k = true) (hs : Stp σ σ' w w')
    (hst' : ∀ p ∈ hSel σ0 ρ (if h || Nat.beq (clsAt cs i) 3 then 1 else 0), p ∈ σ') (hgo : KDM C ops σ0 ρ K (h || Nat.beq (clsAt cs i) 3) (cs.drop (i + 1)) (ops.drop (i + 1)) (pushFr o.dst g v F) σ') :
    InvM C ops σ0 ρ cs gs vs frm a0 K (L.setIfInBounds i true) (a.put o.dst (gv g v)) w' (i + 1) (h || Nat.beq (clsAt cs i) 3) (pushFr o.dst g v F) σ' := by
  have hil : i < L.size := by rw [hI.size]; exact (List.getElem?_eq_some_iff.1 ho).1
  have hset : ∀ k, L.getD k false = true → (L.setIfInBounds i true).getD k false = true := fun k hk => by rw [getD_set hil]; split <;> simp_all
  have hseti : (L.setIfInBounds i true).getD i false = true := by rw [getD_set hil, if_pos rfl]
  refine ⟨by simpa using hI.size, fun k ok hk hl j hj => ?_, fun k hk => ?_, by rw [put_size]; exact hI.n, by omega, fun k hk hm => ?_, fun he => ?_, fun s k ok hkh hl hk hks hmax => ?_, fun s k ok g' v' hkh hl hk hks hF => ?_, fun s hno => ?_, fun s hno => ?_, hI.own.step hs, (hI.defs.step hs).put, hI.hid.step hs, hst', hgo⟩
  · rw [getD_set hil] at hl ⊢
    by_cases e : j = i
    · rw [if_pos e]
    · rw [if_neg e]
      by_cases e2 : k = i
      · subst e2; rw [ho] at hk; rw [← Option.some.inj hk] at hj; exact hd j hj
      · rw [if_neg e2] at hl; exact hI.closed k ok hk hl j hj
  · rw [getD_set hil, if_neg (by omega)]; exact hI.pre k hk
  · rw [getD_set hil]
    by_cases e : k = i
    · subst e; simp
    · rw [if_neg e, hI.mids k hk hm]
      constructor
      · intro h1; omega
      · intro h1
        rcases Nat.lt_or_ge k t with h2 | h2
        · exact h2
        · have := hhd k h2 (by omega)
          rw [hm] at this; cases this
  · cases hhb : h with
    | true => obtain ⟨j, h1, h2⟩ := hI.hard hhb; exact ⟨j, by omega, h2⟩
    | false =>
      rw [hhb, Bool.false_or] at he
      exact ⟨i, by omega, Nat.eq_of_beq_eq_true he⟩
  · rw [okDst_put hI.n hok]
    have e2 : k ≠ i := fun e => by subst e; rw [hh] at hkh; cases hkh
    rw [getD_set hil, if_neg e2] at hl
    have hne : o.dst ≠ some s := fun his => by
      have h2 := (hmax i o hseti ho his).1
      rw [hh] at h2; cases h2
    rw [if_neg hne]
    exact hI.wrote s k ok hkh hl hk hks (fun k' o' hl' hk' hs' => hmax k' o' (hset k' hl') hk' hs')
  · rw [okDst_put hI.n hok]
    rw [look_push] at hF
    by_cases e : o.dst = some s
    · rw [if_pos e] at hF ⊢
      simp only [Option.some.injEq, Prod.mk.injEq] at hF
      obtain ⟨rfl, rfl⟩ := hF
      rfl
    · rw [if_neg e] at hF ⊢
      have e2 : k ≠ i := fun e3 => by subst e3; rw [ho] at hk; rw [Option.some.inj hk] at e; exact e hks
      rw [getD_set hil, if_neg e2] at hl
      exact hI.midw s k ok g' v' hkh hl hk hks hF
  · rw [look_push, if_neg (hno i o hh hseti ho)]
    exact hI.midn s (fun k ok hkh hl hk => hno k ok hkh (hset k hl) hk)
  · rw [okDst_put hI.n hok, if_neg (hno i o hseti ho)]
    exact hI.kept s (fun k ok hl hk => hno k ok (hset k hl) hk)

theorem KDM.done {K : Fr → Heap → Prop} {h : Bool} {F : Fr} {σ : Heap} {l : List Oper} (hk : KDM C ops σ0 ρ K h [] l F σ) : K F σ := by
  unfold KDM at hk; exact hk

theorem tail_any {m : Nat} (hlow : ∀ i o, ops[i]? = some o → ∀ j ∈ depsOf o, j < i) (htail : ∀ i o k, m ≤ i → ops[i]? = some o → k < i → Bef ops k i) : ∀ (f t : Nat) (L : Array Bool) (a : Act) (w : World), f + t = ops.length → m ≤ t → L.size = ops.length → (∀ k, L.getD k false = decide (k < t)) →
    wpListIn (fnc C.r) 0 C.P ops.toArray (lift C Q) (ops.drop t) a w → wpAnyIn (fnc C.r) 0 C.P .any ops.toArray (lift C Q) f L a w
  | 0, t, L, a, w, hf, hm, hs, hL, h => by
    have ht : t = ops.length := by omega
    subst ht
    refine ⟨List.eq_nil_iff_forall_not_mem.2 fun i hi => ?_, by simpa [wpListIn] using h⟩
    obtain ⟨h1, o, ho, _⟩ := mem_ready' hi
    have := hL i
    rw [getD_tf h1] at this
    have hlt := (List.getElem?_eq_some_iff.1 ho).1
    simp [hlt] at this
  | f + 1, t, L, a, w, hf, hm, hs, hL, h => by
    have ht : t < ops.length := by omega
    have ho : ops[t]? = some ops[t] := List.getElem?_eq_getElem ht
    have hun : L.getD t true = false := getD_ft (by omega) (by rw [hL]; simp)
    have hrdy : t ∈ Region.ready .any ops.toArray L := ready_of hun ho (fun j hj => by rw [hL]; have := hlow t _ ho j hj; simpa using this)
    refine ⟨(fun he => by rw [he] at hrdy; cases hrdy), fun i hi => ?_⟩
    obtain ⟨h1, o, hoi, hd⟩ := mem_ready' hi
    have hc : ∀ i o, ops[i]? = some o → L.getD i false = true → ∀ j ∈ depsOf o, L.getD j false = true := fun i o ho' hl j hj => by
      rw [hL] at hl ⊢
      have := hlow i o ho' j hj
      simp only [decide_eq_true_eq] at hl ⊢
      omega
    have hit : i = t := by
      have hge : t ≤ i := by
        have := hL i
        rw [getD_tf h1] at this
        simpa using this.symm
      by_cases e : i = t
      · exact e
      · have hb := htail i o t (by omega) hoi (by omega)
        have := hb.listed' hc hoi hd
        rw [hL] at this
        simp at this
    subst hit
    have e : ops.drop i = ops[i] :: ops.drop (i + 1) := List.drop_eq_getElem_cons ht
    rw [e] at h
    unfold wpListIn at h
    unfold wpOpIn
    simp only [List.getElem?_toArray, ho]
    have hnext : ∀ a' w', wpListIn (fnc C.r) 0 C.P ops.toArray (lift C Q) (ops.drop (i + 1)) a' w' → wpAnyIn (fnc C.r) 0 C.P .any ops.toArray (lift C Q) f (L.setIfInBounds i true) a' w' := fun a' w' h' => by
      refine tail_any hlow htail f (i + 1) _ a' w' (by omega) (by omega) (by simpa using hs) (fun k => ?_) h'
      rw [getD_set (by omega), hL]
      by_cases e : k = i
      · subst e; simp
      · simp only [e, if_false]; congr 1; apply propext; omega
    split at h
    · rename_i hw; rw [if_pos hw]; exact Oper.wpIn_mono hnext h
    · rename_i hw; rw [if_neg hw]; exact ⟨h.1, hnext _ _ h.2⟩

theorem any_midG {KT : Fr → Heap → Prop} {gs : Nat → Bool} {vs : Nat → Value} {frs : Nat → Fr} {a0 : Act} (hC : ChkM ops cs) (hR : RunH C ops σ0 ρ cs gs vs frs) (h0 : LOk (look (frs 0)) a0) (hn0 : (keys σ0).Nodup) (hnρ : (keys ρ).Nodup) (hρ : ∀ p ∈ ρ, p ∈ σ0)
    (hK : ∀ (L : Array Bool) (a : Act) (w : World) (F : Fr) (σ : Heap), L.size = ops.length → (∀ k, L.getD k false = decide (k < cs.length)) → KT F σ → St C F σ a w → wpAnyIn (fnc C.r) 0 C.P .any ops.toArray (lift C Q) (ops.length - cs.length) L a w) : ∀ (f c : Nat) (L : Array Bool) (a : Act) (w : World) (t : Nat) (h : Bool) (F : Fr) (σ : Heap),
    c = ((List.range cs.length).filter fun i => !L.getD i false).length → f = c + (ops.length - cs.length) → InvM C ops σ0 ρ cs gs vs (frs cs.length) a0 KT L a w t h F σ → wpAnyIn (fnc C.r) 0 C.P .any ops.toArray (lift C Q) f L a w
  | f, 0, L, a, w, t, h, F, σ, hc, hf, hI => by
    have hall : ∀ i, i < cs.length → L.getD i false = true := fun i hi => by
      have he : ((List.range cs.length).filter fun i => !L.getD i false) = [] := List.eq_nil_of_length_eq_zero hc.symm
      have := (List.filter_eq_nil_iff.1 he) i (List.mem_range.2 hi)
      simpa using this
    have hle := hC.le
    have hf2 : f = ops.length - cs.length := by omega
    subst hf2
    have hgo : KT F σ := by
        have hk := KDM.skip hC.le (cs.length - t) t (by have := hI.tle; omega) (fun k hk1 hk2 => by
          cases e : hdB cs k with
          | true => rfl
          | false =>
            have hlt : k < cs.length := by omega
            have := (hI.mids k hlt e).1 (hall k hlt)
            omega) hI.go
        have e1 : t + (cs.length - t) = cs.length := by have := hI.tle; omega
        rw [e1, List.drop_length] at hk
        exact hk.done
    refine hK L a w F σ hI.size (fun k => ?_) hgo ?_
    · by_cases hk : k < cs.length
      · simp [hall k hk, hk]
      · simp [hI.pre k (by omega), hk]
    · refine ⟨hI.n, fun s g v hl => ?_, hI.own, hI.defs, hI.hid⟩
      by_cases hw : ∃ k ok, hdB cs k = false ∧ L.getD k false = true ∧ ops[k]? = some ok ∧ ok.dst = some s
      · obtain ⟨k, ok, b1, b2, b3, b4⟩ := hw
        exact hI.midw s k ok g v b1 b2 b3 b4 hl
      · have hno : ∀ k ok, hdB cs k = false → L.getD k false = true → ops[k]? = some ok → ok.dst ≠ some s := fun k ok b1 b2 b3 b4 => hw ⟨k, ok, b1, b2, b3, b4⟩
        have hhd : ∀ k ok, L.getD k false = true → ops[k]? = some ok → ok.dst = some s → hdB cs k = true := fun k ok b2 b3 b4 => by
          cases e : hdB cs k with
          | true => rfl
          | false => exact absurd b4 (hno k ok e b2 b3)
        have hlt : ∀ k, L.getD k false = true → k < cs.length := fun k hk => by
          rcases Nat.lt_or_ge k cs.length with h | h
          · exact h
          · rw [hI.pre k h] at hk; cases hk
        rw [hI.midn s hno] at hl
        rcases hR.src hC.le cs.length (Nat.le_refl _) s g v hl with ⟨k, ok, a1, a0', a2, a3, rfl, rfl, a6⟩ | ⟨a1, a2⟩
        · exact hI.wrote s k ok a0' (hall k a1) a2 a3 (fun k' o' hk' ho' hs' => by
            have b3 := hhd k' o' hk' ho' hs'
            exact ⟨b3, a6 k' o' (hlt k' hk') b3 ho' hs'⟩)
        · rw [hI.kept s (fun k ok hk hok' hks => a1 k ok (hlt k hk) (hhd k ok hk hok' hks) hok' hks)]
          exact h0 s g v a2
  | 0, c + 1, L, a, w, t, h, F, σ, hc, hf, hI => by omega
  | f + 1, c + 1, L, a, w, t, h, F, σ, hc, hf, hI => by
    have hle := hC.le
    obtain ⟨u, hu, hun⟩ : ∃ u, u < cs.length ∧ L.getD u false = false := by
      have : ((List.range cs.length).filter fun i => !L.getD i false) ≠ [] := fun e => by rw [e] at hc; simp at hc
      obtain ⟨u, hu⟩ := List.exists_mem_of_ne_nil _ this
      rw [List.mem_filter] at hu
      exact ⟨u, List.mem_range.1 hu.1, by simpa using hu.2⟩
    have hhead : ∀ i ∈ Region.ready .any ops.toArray L, i < cs.length := fun i hi => by
      obtain ⟨h1, o, ho, hd⟩ := mem_ready' hi
      rcases Nat.lt_or_ge i cs.length with h | h
      · exact h
      · have hb := hC.tail i o u h ho hu
        have := hb.listed' hI.closed ho hd
        rw [hun] at this; cases this
    refine ⟨fun he => ?_, fun i hi => ?_⟩
    · exfalso
      have key : ∀ n u, u < n → u < cs.length → L.getD u false = false → False := by
        intro n
        induction n with
        | zero => intro u hu; omega
        | succ n ih =>
          intro u hu hum hun
          have ho : ops[u]? = some ops[u] := List.getElem?_eq_getElem (by omega)
          by_cases hd : ∀ j ∈ depsOf ops[u], L.getD j false = true
          · have := ready_of (getD_ft (by rw [hI.size]; omega) hun) ho hd
            rw [he] at this; cases this
          · obtain ⟨j, hj⟩ := Classical.not_forall.1 hd
            obtain ⟨hj1, hj2⟩ := Classical.not_imp.1 hj
            have := hC.low u _ ho j hj1
            exact ih j (by omega) (by omega) (by simpa using hj2)
      exact key (u + 1) u (by omega) hu hun
    · have him := hhead i hi
      obtain ⟨h1, o, ho, hd⟩ := mem_ready' hi
      have hun' := getD_tf h1
      have hcnt : c = ((List.range cs.length).filter fun k => !(L.setIfInBounds i true).getD k false).length := by
        have hil : i < L.size := by rw [hI.size]; exact (List.getElem?_eq_some_iff.1 ho).1
        have e1 : ((List.range cs.length).filter fun k => !(L.setIfInBounds i true).getD k false) = ((List.range cs.length).filter fun k => !L.getD k false).filter (fun k => k != i) := by
          rw [List.filter_filter]
          apply List.filter_congr
          intro k _
          rw [getD_set hil]
          by_cases e : k = i
          · subst e; simp
          · simp [e]
        have hmem : i ∈ (List.range cs.length).filter fun k => !L.getD k false := List.mem_filter.2 ⟨List.mem_range.2 him, by simpa using hun'⟩
        have hnd : ((List.range cs.length).filter fun k => !L.getD k false).Nodup := List.nodup_range.filter _
        rw [e1, ← hnd.erase_eq_filter, List.length_erase_of_mem hmem]
        omega
      unfold wpOpIn
      simp only [List.getElem?_toArray, ho]
      cases hh : hdB cs i with
      | true =>
        obtain ⟨g1, g2, g3, g4⟩ := (hR.at_ i o him ho).yes hh
        have hL := hI.namesH hC hR h0 him hh ho hun' hd
        have hown : Own C.E (hSel σ0 ρ (clsAt cs i)) w := by
          cases hcl : clsAt cs i with
          | zero =>
            cases hhb : h with
            | false =>
              have := hI.st
              rw [hhb] at this
              exact hI.own.take hn0 (fun p hp => this p hp)
            | true =>
              obtain ⟨j, j1, j2⟩ := hI.hard hhb
              have hjl : j < cs.length := by have := hI.tle; omega
              have hjh : hdB cs j = false := by unfold hdB; rw [j2]; rfl
              have := (hC.early j i hjl j2 him hcl).listed hI.closed ((hI.mids j hjl hjh).2 j1)
              rw [hun'] at this; cases this
          | succ n =>
            have := hI.st
            refine hI.own.take hnρ (fun p hp => ?_)
            cases hhb : h with
            | true => rw [hhb] at this; exact this p hp
            | false => rw [hhb] at this; exact this p (hρ p hp)
        have hnext : ∀ w', Below w.heap.size w w' → wpAnyIn (fnc C.r) 0 C.P .any ops.toArray (lift C Q) f (L.setIfInBounds i true) (a.put o.dst (gv (gs i) (vs i))) w' := fun w' hb =>
          any_midG hC hR h0 hn0 hnρ hρ hK f c _ _ w' t h F σ hcnt (by omega) (hI.nextH hC him hh ho hun' hd g2 hb)
        have hw : Region.wanted o (yielded ops.toArray a.tmps) = gs i := by
          rcases g1 with g1 | g1
          · exact guardOf_ok hL g1
          · exact guardIn_ok hL g1
        rw [hw]
        cases hgi : gs i with
        | true =>
          rw [if_pos rfl]
          rw [hgi] at g3
          refine (g3.eff hL hown).wpIn ?_
          rintro x w' ⟨rfl, hb⟩
          have := hnext w' hb
          rw [hgi] at this
          exact this
        | false =>
          rw [if_neg (by simp)]
          refine ⟨fun _ _ => trivial, ?_⟩
          have := hnext w (Below.refl _ _)
          rw [hgi] at this
          exact this
      | false =>
        obtain ⟨hti, hhd, hgo⟩ := hI.atM hC him hh ho hun' hd
        have hL := hI.namesM hC hR h0 him hh ho hun' hd
        have hlt : i < ops.length := by omega
        rw [getI_drop_cls him, List.drop_eq_getElem_cons hlt] at hgo
        unfold KDM at hgo
        have hh' : Nat.ble (clsAt cs i) 1 = false := hh
        rw [hh'] at hgo
        have ho' : ops[i] = o := by
          have : ops[i]? = some ops[i] := List.getElem?_eq_getElem hlt
          rw [this] at ho; exact Option.some.inj ho
        obtain ⟨g, R, k1, k2, k3, k4, k5⟩ := hgo
        rw [ho'] at k1 k2 k3 k5
        have hnext : ∀ v σ' w', R v σ' → Stp σ σ' w w' → wpAnyIn (fnc C.r) 0 C.P .any ops.toArray (lift C Q) f (L.setIfInBounds i true) (a.put o.dst (gv g v)) w' := fun v σ' w' hr hs => by
          obtain ⟨q1, q2⟩ := k5 v σ' hr
          exact any_midG hC hR h0 hn0 hnρ hρ hK f c _ _ w' (i + 1) _ _ σ' hcnt (by omega) (hI.nextM him hh ho hd k2 hti hhd hs q1 q2)
        rw [guardOf_ok hL k1]
        cases hg : g with
        | true =>
          rw [if_pos rfl]
          refine (k3 hg a w hL hI.own).wpIn ?_
          rintro v w' ⟨σ', hr, hs⟩
          have := hnext v σ' w' hr hs
          rw [hg] at this
          exact this
        | false =>
          rw [if_neg (by simp)]
          refine ⟨fun _ _ => trivial, ?_⟩
          have := hnext undef σ w (k4 hg) (Stp.refl hI.own.has)
          rw [hg] at this
          exact this

theorem any_mid {gs : Nat → Bool} {vs : Nat → Value} {frs : Nat → Fr} {a0 : Act} (hC : ChkM ops cs) (hT : ChT ops cs) (hR : RunH C ops σ0 ρ cs gs vs frs) (h0 : LOk (look (frs 0)) a0) (hn0 : (keys σ0).Nodup) (hnρ : (keys ρ).Nodup) (hρ : ∀ p ∈ ρ, p ∈ σ0) : ∀ (f c : Nat) (L : Array Bool) (a : Act) (w : World) (t : Nat) (h : Bool) (F : Fr) (σ : Heap),
    c = ((List.range cs.length).filter fun i => !L.getD i false).length → f = c + (ops.length - cs.length) → InvM C ops σ0 ρ cs gs vs (frs cs.length) a0 (fun fr σ => KO C ops Q (ops.drop cs.length) fr σ) L a w t h F σ → wpAnyIn (fnc C.r) 0 C.P .any ops.toArray (lift C Q) f L a w :=
  any_midG hC hR h0 hn0 hnρ hρ fun L a w F σ hs hL hgo hS => tail_any hC.low hT _ cs.length L a w (by have := hC.le; omega) (Nat.le_refl _) hs hL (hgo a w hS)

def dropL : List Nat → List Oper → Option (List Oper)
  | [], l => some l
  | _ :: cs, _ :: l => dropL cs l
  | _ :: _, [] => none
theorem dropL_ok : ∀ {cs : List Nat} {l tl : List Oper}, dropL cs l = some tl → l.drop cs.length = tl
  | [], l, tl, h => by simp only [dropL, Option.some.injEq] at h; simpa using h
  | _ :: cs, _ :: l, tl, h => by unfold dropL at h; simpa using dropL_ok h
  | _ :: _, [], _, h => by cases h
/-- A statement whose order is open, with effects in it: 'cs' gives the classes of those ahead of what stands behind all; 'js': the blocks that quiet operations of class 1 may read. -/
theorem KW.drawM {id : Nat} {l : List Oper} {fr : Fr} {σ ρ : Heap} (cs js : List Nat) (hc : chkM l cs = true) (hs : selA js σ = some ρ) (hn : nodupB js = true) {tl : List Oper} (ht : dropL cs l = some tl)
    (h : KDH C l σ ρ (fun fr => KDM C l σ ρ (fun fr σ => KO C l Q tl fr σ) false cs l fr σ) cs l fr) : KW C Q (.region id l.toArray true) fr σ := by
  intro a w hS
  have hC := chkM_ok hc
  have hT := chkM_okT hc
  have hle := hC.le
  rw [← dropL_ok ht] at h
  obtain ⟨gs, vs, frs, e1, e2, e3⟩ := KDH.run cs l 0 fr (by simp) hle (by simp) h
  rw [Nat.zero_add] at e3
  have hR : RunH C l σ ρ cs gs vs frs := ⟨fun k o hk ho => e2 k o (Nat.zero_le _) (by omega) ho⟩
  refine wpIn_region_any C.T.mixed ?_
  have hf : ∀ i, (Array.replicate l.toArray.size false).getD i false = false := fun i => by
    rw [Array.getD_eq_getD_getElem?]
    rcases Nat.lt_or_ge i l.length with h | h
    · simp [h]
    · simp [h]
  have hsub := Sl.sub ⟨hs, hn⟩ hS.own.has
  have hid : ∀ i, ¬ (Array.replicate l.toArray.size false).getD i false = true := fun i => by rw [hf]; simp
  refine any_mid hC hT hR (by rw [e1]; exact hS.fr) hS.own.has.nodup hsub.2 hsub.1 _ _ _ a _ 0 false _ σ rfl ?_ ⟨by simp, fun i o ho hl => absurd hl (hid i), fun i _ => hf i, hS.n, Nat.zero_le _, fun i _ _ => ?_, (fun h => by cases h), fun s k o _ hl => absurd hl (hid k), fun s k o g v _ hl => absurd hl (hid k), fun s _ => rfl, fun s _ => rfl, ?_, hS.defs, hS.hid, ?_, e3⟩
  · have e : ((List.range cs.length).filter fun i => !(Array.replicate l.toArray.size false).getD i false) = List.range cs.length := by
      rw [List.filter_eq_self]; intro i _; rw [hf]; rfl
    rw [e]
    simp
    omega
  · rw [hf]; simp
  · exact ⟨hS.own.os, hS.own.tape, hS.own.output, hS.own.size, hS.own.old, ⟨hS.own.has.has, hS.own.has.nodup⟩, hS.own.new⟩
  · exact fun p hp => hp

/-! ### Steps -/
section
variable {K : Fr → Prop} {cs : List Nat} {o : Oper} {rest : List Oper} {fr : Fr} {d : Nat} {g : Bool} {v : Value}
theorem KDH.val0 (hg : guardOf ops (LR (namesOf ops o) (look fr)) o = some g) (hd : o.dst = some d) (hn : Nat.blt d C.N = true) (hq : Qt C (LR (namesOf ops o) (look fr)) σ0 g o v) (h : KDH C ops σ0 ρ K cs rest ((d, g, v) :: fr)) : KDH C ops σ0 ρ K (0 :: cs) (o :: rest) fr := by
  unfold KDH
  exact ⟨g, v, .inl hg, by rw [hd]; exact hn, hq, by rw [hd]; exact h⟩
theorem KDH.val1 (hg : guardOf ops (LR (namesOf ops o) (look fr)) o = some g) (hd : o.dst = some d) (hn : Nat.blt d C.N = true) (hq : Qt C (LR (namesOf ops o) (look fr)) ρ g o v) (h : KDH C ops σ0 ρ K cs rest ((d, g, v) :: fr)) : KDH C ops σ0 ρ K (1 :: cs) (o :: rest) fr := by
  unfold KDH
  exact ⟨g, v, .inl hg, by rw [hd]; exact hn, hq, by rw [hd]; exact h⟩
theorem KDH.valIn0 (hg : guardIn ops (LR (namesOf ops o) (look fr)) o = some g) (hd : o.dst = some d) (hn : Nat.blt d C.N = true) (hq : Qt C (LR (namesOf ops o) (look fr)) σ0 g o v) (h : KDH C ops σ0 ρ K cs rest ((d, g, v) :: fr)) : KDH C ops σ0 ρ K (0 :: cs) (o :: rest) fr := by
  unfold KDH
  exact ⟨g, v, .inr hg, by rw [hd]; exact hn, hq, by rw [hd]; exact h⟩
theorem KDH.valIn1 (hg : guardIn ops (LR (namesOf ops o) (look fr)) o = some g) (hd : o.dst = some d) (hn : Nat.blt d C.N = true) (hq : Qt C (LR (namesOf ops o) (look fr)) ρ g o v) (h : KDH C ops σ0 ρ K cs rest ((d, g, v) :: fr)) : KDH C ops σ0 ρ K (1 :: cs) (o :: rest) fr := by
  unfold KDH
  exact ⟨g, v, .inr hg, by rw [hd]; exact hn, hq, by rw [hd]; exact h⟩
theorem KDH.skip0 (hg : guardOf ops (LR (namesOf ops o) (look fr)) o = some false) (hd : o.dst = some d) (hn : Nat.blt d C.N = true) (h : KDH C ops σ0 ρ K cs rest ((d, false, undef) :: fr)) : KDH C ops σ0 ρ K (0 :: cs) (o :: rest) fr := KDH.val0 hg hd hn (fun _ _ _ _ e => by cases e) h
theorem KDH.skip1 (hg : guardOf ops (LR (namesOf ops o) (look fr)) o = some false) (hd : o.dst = some d) (hn : Nat.blt d C.N = true) (h : KDH C ops σ0 ρ K cs rest ((d, false, undef) :: fr)) : KDH C ops σ0 ρ K (1 :: cs) (o :: rest) fr := KDH.val1 hg hd hn (fun _ _ _ _ e => by cases e) h
theorem KDH.skip0' (hg : guardOf ops (LR (namesOf ops o) (look fr)) o = some g) (hf : g = false) (hd : o.dst = some d) (hn : Nat.blt d C.N = true) (h : KDH C ops σ0 ρ K cs rest ((d, false, undef) :: fr)) : KDH C ops σ0 ρ K (0 :: cs) (o :: rest) fr := by
  subst hf; exact KDH.skip0 hg hd hn h
theorem KDH.skip1' (hg : guardOf ops (LR (namesOf ops o) (look fr)) o = some g) (hf : g = false) (hd : o.dst = some d) (hn : Nat.blt d C.N = true) (h : KDH C ops σ0 ρ K cs rest ((d, false, undef) :: fr)) : KDH C ops σ0 ρ K (1 :: cs) (o :: rest) fr := by
  subst hf; exact KDH.skip1 hg hd hn h
theorem KDH.mid2 (h : KDH C ops σ0 ρ K cs rest fr) : KDH C ops σ0 ρ K (2 :: cs) (o :: rest) fr := by unfold KDH; exact h
theorem KDH.mid3 (h : KDH C ops σ0 ρ K cs rest fr) : KDH C ops σ0 ρ K (3 :: cs) (o :: rest) fr := by unfold KDH; exact h
theorem KDH.done {l : List Oper} (h : K fr) : KDH C ops σ0 ρ K [] l fr := by unfold KDH; exact h
end
section
variable {K : Fr → Heap → Prop} {cs : List Nat} {o : Oper} {rest : List Oper} {fr : Fr} {σ : Heap} {d : Nat} {g hb : Bool} {v : Value} {R : Value → Heap → Prop}
theorem KDM.head0 (h : KDM C ops σ0 ρ K hb cs rest fr σ) : KDM C ops σ0 ρ K hb (0 :: cs) (o :: rest) fr σ := by unfold KDM; exact h
theorem KDM.head1 (h : KDM C ops σ0 ρ K hb cs rest fr σ) : KDM C ops σ0 ρ K hb (1 :: cs) (o :: rest) fr σ := by unfold KDM; exact h
theorem KDM.fin {l : List Oper} (h : K fr σ) : KDM C ops σ0 ρ K hb [] l fr σ := by unfold KDM; exact h
theorem KDM.eo2f (hg : guardOf ops (LR (namesOf ops o) (look fr)) o = some true) (hd : o.dst = some d) (hn : Nat.blt d C.N = true) (he : EO C (LR (namesOf ops o) (look fr)) σ o R)
    (h : ∀ v σ', R v σ' → (∀ p ∈ σ0, p ∈ σ') ∧ KDM C ops σ0 ρ K false cs rest ((d, true, v) :: fr) σ') : KDM C ops σ0 ρ K false (2 :: cs) (o :: rest) fr σ := by
  unfold KDM
  exact ⟨true, R, hg, by rw [hd]; exact hn, fun _ => he, (fun e => by cases e), fun v σ' hr => by rw [hd]; exact h v σ' hr⟩
theorem KDM.eo2t (hg : guardOf ops (LR (namesOf ops o) (look fr)) o = some true) (hd : o.dst = some d) (hn : Nat.blt d C.N = true) (he : EO C (LR (namesOf ops o) (look fr)) σ o R)
    (h : ∀ v σ', R v σ' → (∀ p ∈ ρ, p ∈ σ') ∧ KDM C ops σ0 ρ K true cs rest ((d, true, v) :: fr) σ') : KDM C ops σ0 ρ K true (2 :: cs) (o :: rest) fr σ := by
  unfold KDM
  exact ⟨true, R, hg, by rw [hd]; exact hn, fun _ => he, (fun e => by cases e), fun v σ' hr => by rw [hd]; exact h v σ' hr⟩
theorem KDM.eo3 (hg : guardOf ops (LR (namesOf ops o) (look fr)) o = some true) (hd : o.dst = some d) (hn : Nat.blt d C.N = true) (he : EO C (LR (namesOf ops o) (look fr)) σ o R)
    (h : ∀ v σ', R v σ' → (∀ p ∈ ρ, p ∈ σ') ∧ KDM C ops σ0 ρ K true cs rest ((d, true, v) :: fr) σ') : KDM C ops σ0 ρ K hb (3 :: cs) (o :: rest) fr σ := by
  unfold KDM
  refine ⟨true, R, hg, by rw [hd]; exact hn, fun _ => he, (fun e => by cases e), fun v σ' hr => ?_⟩
  rw [hd]
  have := h v σ' hr
  cases hb <;> exact this
theorem KDM.eo30 (hg : guardOf ops (LR (namesOf ops o) (look fr)) o = some true) (hd : o.dst = none) (he : EO C (LR (namesOf ops o) (look fr)) σ o R)
    (h : ∀ v σ', R v σ' → (∀ p ∈ ρ, p ∈ σ') ∧ KDM C ops σ0 ρ K true cs rest fr σ') : KDM C ops σ0 ρ K hb (3 :: cs) (o :: rest) fr σ := by
  unfold KDM
  refine ⟨true, R, hg, by rw [hd]; rfl, fun _ => he, (fun e => by cases e), fun v σ' hr => ?_⟩
  rw [hd]
  have := h v σ' hr
  cases hb <;> exact this
theorem KDM.q2f {v : Value} (hg : guardOf ops (LR (namesOf ops o) (look fr)) o = some true) (hd : o.dst = some d) (hn : Nat.blt d C.N = true) (hq : Qt C (LR (namesOf ops o) (look fr)) σ true o v) (hs : ∀ p ∈ σ0, p ∈ σ)
    (h : KDM C ops σ0 ρ K false cs rest ((d, true, v) :: fr) σ) : KDM C ops σ0 ρ K false (2 :: cs) (o :: rest) fr σ :=
  KDM.eo2f hg hd hn hq.eo (fun _ _ ⟨h1, h2⟩ => by subst h1 h2; exact ⟨hs, h⟩)
theorem KDM.q2t {v : Value} (hg : guardOf ops (LR (namesOf ops o) (look fr)) o = some true) (hd : o.dst = some d) (hn : Nat.blt d C.N = true) (hq : Qt C (LR (namesOf ops o) (look fr)) σ true o v) (hs : ∀ p ∈ ρ, p ∈ σ)
    (h : KDM C ops σ0 ρ K true cs rest ((d, true, v) :: fr) σ) : KDM C ops σ0 ρ K true (2 :: cs) (o :: rest) fr σ :=
  KDM.eo2t hg hd hn hq.eo (fun _ _ ⟨h1, h2⟩ => by subst h1 h2; exact ⟨hs, h⟩)
end
end
attribute [irreducible] KDH KDM
end Go.K

/- The program logic, twelfth part: copies; slices cut; rows of bytes. -/
import Derived.Test.YtcnebanpnnblbaaDoorK11
import Derived.Laws.CopyRow
import Derived.Laws.BitsLemmas
namespace Go.K
open Go Go.RowKit

section
variable {C : Cx} {L : Look} {ops : List Oper} {Q : KQ} {o : Oper} {rest : List Oper} {fr : Fr} {σ : Heap} {d : Nat} {g : Bool}
/-- 'copy' of a slice that can be read into a tracked row of one-cell elements. -/
theorem KO.copyL {x y : Operand} {t t' e : TypeId} {z : Value} {by' b off dLen dCap i m c : Nat} {cs xs : List Value} {te : TypeId} {p : Option Addr} {σ' : Heap} (hg : guardOf ops (look fr) o = some true) (hd : o.dst = some d) (hn : Nat.blt d C.N = true) (ho : o.op = .call ⟨.builtin .copy, #[x, y], #[t, t']⟩)
    (hx : opnd (look fr) x = some (true, .slice (some ⟨b, off, none⟩) dLen dCap)) (hy : opnd (look fr) y = some (true, .slice p m c)) (hu : C.T.u t = some (.slice e)) (hz : C.T.i e = some (z, 1, by')) (hv : SL C.E.β σ 1 m xs p) (hpc : p = none → c = 0 ∧ m = 0) (hi : getI i σ = some (b, cl cs te)) (h1 : xs.all Value.oneCell' = true)
    (hfit : off + min m dLen ≤ cs.length) (hs : setI i (b, cl (cs.take off ++ xs.take (min m dLen) ++ cs.drop (off + min m dLen)) te) σ = some σ') (h : KO C ops Q rest ((d, true, .int .i64 ((min m dLen : Nat) : Int)) :: fr) σ') : KO C ops Q (o :: rest) fr σ := by
  cases p with
  | none =>
    obtain ⟨rfl, rfl⟩ := hpc rfl
    exact KO.copy hg hd hn ho hx hy hu hz ⟨hv.1, none, 0, rfl, .inl ⟨rfl, rfl, rfl⟩⟩ hi h1 hfit hs h
  | some a =>
    obtain ⟨hxl, hcase⟩ := hv
    rw [Nat.mul_one] at hxl
    obtain ⟨ti, hi1, _, hi3, _⟩ := TT.i_ok hz
    refine KO.eff (Post := fun u s => u = .int .i64 ((min m dLen : Nat) : Int) ∧ s = σ') hg hd hn (fun ac w hL hO => .inl ?_) (fun _ _ ⟨e1, e2⟩ => by subst e1 e2; exact h)
    have hb := hO.has.has _ (setI_spec hi hs).2.1
    have hlen : (xs.take (min m dLen)).length = min m dLen := by rw [List.length_take]; omega
    have hr := run_copy_row (P := C.P) w t t' o.type e b off dLen dCap a m c cs.toArray te (xs.take (min m dLen)) (TT.u_ok hu) (by rw [hi1]; simp [hi3]) hb (by rw [hlen])
      (fun j u hj => by
        have hlt := (List.getElem?_eq_some_iff.1 hj).1
        rw [hlen] at hlt
        obtain ⟨sb, so, h2, h3⟩ := hcase (by omega)
        simp only [Option.some.injEq] at h2
        subst h2
        rw [Addr.add_lit]
        rw [List.getElem?_take_of_lt hlt] at hj
        exact (h3 j u hj).ok hO) (by rw [hlen]; simpa using hfit) (fun u hu => List.all_eq_true.1 h1 u (List.mem_of_mem_take hu))
    rw [hlen] at hr
    refine ⟨_, w.setRow b ((cs.toArray.toList.take off ++ xs.take (min m dLen) ++ cs.toArray.toList.drop (off + min m dLen)).toArray), ?_, σ', ⟨rfl, rfl⟩, Stp.set hO.has hi hs rfl rfl rfl (by simp [World.setRow]) (fun k hk => ?_) ?_⟩
    · simp [execOp, ho, resolve, invoke, builtin, opnd_ev hL hx rfl, opnd_ev hL hy rfl]
      rw [hr]; simp [goInt]
    · simp only [World.setRow, Array.getElem?_modify]; rw [if_neg (by omega)]
    · simp [World.setRow, Array.getElem?_modify, hb, cl]

/-- A call that is handed all that is tracked. -/
theorem eo_callA {x : Operand} {f : FuncId} {first cap : List Value} {args : Array Operand} {ts : Array TypeId} {gs : List Bool} {vs : List Value} {R : Value → Heap → Prop}
    (ho : o.op = .call ⟨.value x, args, ts⟩) (hx : opnd L x = some (true, .func (.func f) first.toArray cap.toArray)) (ha : opnds L args.toList = some (gs, vs)) (hi : gs.all id = true) (hT : Tr C.P f (first ++ vs ++ cap) C.E.β σ R) : EO C L σ o R := fun a w hL hO => .inr (.inr (by
  refine ⟨f, _, run_call hT.1 ho (opnd_ev hL hx rfl) (opnds_ok hL ha hi), ?_⟩
  have e : (first.toArray ++ vs.toArray) ++ cap.toArray = (first ++ vs ++ cap).toArray := by simp
  rw [e]
  exact (hT.2 w (fun b o hb => hO.ro hb) hO.has).mono fun e w' ⟨v, σ', h1, h2, h3⟩ => ⟨v, h1, σ', h2, h3⟩))
theorem KO.callA {x : Operand} {f : FuncId} {first cap : List Value} {args : Array Operand} {ts : Array TypeId} {gs : List Bool} {vs : List Value} {R : Value → Heap → Prop}
    (hg : guardOf ops (look fr) o = some true) (hd : o.dst = some d) (hn : Nat.blt d C.N = true) (ho : o.op = .call ⟨.value x, args, ts⟩) (hx : opnd (look fr) x = some (true, .func (.func f) first.toArray cap.toArray)) (ha : opnds (look fr) args.toList = some (gs, vs)) (hi : gs.all id = true)
    (hT : Tr C.P f (first ++ vs ++ cap) C.E.β σ R) (h : ∀ v σ', R v σ' → KO C ops Q rest ((d, true, v) :: fr) σ') : KO C ops Q (o :: rest) fr σ := KO.ofEO hg hd hn (eo_callA ho hx ha hi hT) h
theorem KO.callA0 {x : Operand} {f : FuncId} {first cap : List Value} {args : Array Operand} {ts : Array TypeId} {gs : List Bool} {vs : List Value} {R : Value → Heap → Prop}
    (hg : guardOf ops (look fr) o = some true) (hd : o.dst = none) (ho : o.op = .call ⟨.value x, args, ts⟩) (hx : opnd (look fr) x = some (true, .func (.func f) first.toArray cap.toArray)) (ha : opnds (look fr) args.toList = some (gs, vs)) (hi : gs.all id = true)
    (hT : Tr C.P f (first ++ vs ++ cap) C.E.β σ R) (h : ∀ v σ', R v σ' → KO C ops Q rest fr σ') : KO C ops Q (o :: rest) fr σ := KO.ofEO0 hg hd (eo_callA ho hx ha hi hT) h

/-- s[l:h:m], of any of its bounds. -/
def adv (n : Nat) (p : Option Addr) (m l : Nat) : Option Addr := if m = l then p else p.map (·.add (l * n))
theorem SL.adv {β : Nat → Option Obj} {n m l h c : Nat} {xs : List Value} {p : Option Addr} (hv : SL β σ n m xs p) (hlh : l ≤ h) (hh : h ≤ m) (hc : h ≤ c) : SL β σ n (h - l) ((xs.drop (l * n)).take ((h - l) * n)) (adv n p c l) := by
  refine ⟨?_, fun h0 => ?_⟩
  · rw [List.length_take, List.length_drop, hv.1]
    have : h * n ≤ m * n := Nat.mul_le_mul_right _ hh
    have e : (h - l) * n = h * n - l * n := Nat.sub_mul _ _ _
    have : l * n ≤ h * n := Nat.mul_le_mul_right _ hlh
    omega
  · obtain ⟨b, off, rfl, h2⟩ := hv.2 (by omega)
    refine ⟨b, off + l * n, ?_, fun j u hj => ?_⟩
    · unfold K.adv
      rw [if_neg (by omega)]
      simp [Addr.add_lit]
    · have hj' : j < (h - l) * n := by
        have := (List.getElem?_eq_some_iff.1 hj).1
        rw [List.length_take] at this; omega
      rw [List.getElem?_take_of_lt hj', List.getElem?_drop] at hj
      have := h2 _ u hj
      rwa [Nat.add_assoc]

theorem qt_sliceL {t e : TypeId} {x lo : Operand} {gx gl : Bool} {p : Option Addr} {len cap n by' : Nat} {z : Value} {k : IntKind} {a : Int} (ho : o.op = .slice t x (some lo) none none) (hx : opnd L x = some (gx, .slice p len cap)) (hl : opnd L lo = some (gl, .int k a)) (hi : g = true → (gx && gl) = true) (hu : C.T.u t = some (.slice e)) (hz : C.T.i e = some (z, n, by'))
    (hb : g = true → 0 ≤ a ∧ a ≤ (len : Int)) : Qt C L σ g o (.slice (adv n p cap a.toNat) (len - a.toNat) (cap - a.toNat)) := fun ac w hL hO hg => by
  have h := hi hg
  rw [Bool.and_eq_true] at h
  have := hb hg
  exact qt_slice (lv := some (.int k a)) (hv := none) (mv := none) (h := len) (m := cap) (l := a.toNat) ho hx hu hz (fun _ => h.1) (fun ac hL _ => ⟨by simp [opnd_ev hL hl h.2], rfl, rfl⟩) (fun _ => .inl ⟨rfl, rfl⟩) (fun _ => rfl) (fun _ => .inl ⟨rfl, rfl⟩)
    (fun _ => .inr ⟨k, a, rfl, by omega, by omega, rfl⟩) ac w hL hO hg
theorem qt_sliceH {t e : TypeId} {x hi' : Operand} {gx gl : Bool} {p : Option Addr} {len cap n by' : Nat} {z : Value} {k : IntKind} {a : Int} (ho : o.op = .slice t x none (some hi') none) (hx : opnd L x = some (gx, .slice p len cap)) (hl : opnd L hi' = some (gl, .int k a)) (hi : g = true → (gx && gl) = true) (hu : C.T.u t = some (.slice e)) (hz : C.T.i e = some (z, n, by'))
    (hb : g = true → 0 ≤ a ∧ a ≤ (cap : Int)) : Qt C L σ g o (.slice (adv n p cap 0) (a.toNat - 0) (cap - 0)) := fun ac w hL hO hg => by
  have h := hi hg
  rw [Bool.and_eq_true] at h
  have := hb hg
  exact qt_slice (lv := none) (hv := some (.int k a)) (mv := none) (h := a.toNat) (m := cap) (l := 0) ho hx hu hz (fun _ => h.1) (fun ac hL _ => ⟨rfl, by simp [opnd_ev hL hl h.2], rfl⟩) (fun _ => .inl ⟨rfl, rfl⟩) (fun _ => rfl) (fun _ => .inr ⟨k, a, rfl, by omega, by omega, rfl⟩)
    (fun _ => .inl ⟨rfl, rfl⟩) ac w hL hO hg
theorem qt_sliceLH {t e : TypeId} {x lo hi' : Operand} {gx gl gh : Bool} {p : Option Addr} {len cap n by' : Nat} {z : Value} {k k' : IntKind} {a c : Int} (ho : o.op = .slice t x (some lo) (some hi') none) (hx : opnd L x = some (gx, .slice p len cap)) (hl : opnd L lo = some (gl, .int k a)) (hh : opnd L hi' = some (gh, .int k' c)) (hi : g = true → (gx && (gl && gh)) = true) (hu : C.T.u t = some (.slice e)) (hz : C.T.i e = some (z, n, by'))
    (hb : g = true → 0 ≤ a ∧ a ≤ c ∧ c ≤ (cap : Int)) : Qt C L σ g o (.slice (adv n p cap a.toNat) (c.toNat - a.toNat) (cap - a.toNat)) := fun ac w hL hO hg => by
  have h := hi hg
  rw [Bool.and_eq_true, Bool.and_eq_true] at h
  have := hb hg
  exact qt_slice (lv := some (.int k a)) (hv := some (.int k' c)) (mv := none) (h := c.toNat) (m := cap) (l := a.toNat) ho hx hu hz (fun _ => h.1) (fun ac hL _ => ⟨by simp [opnd_ev hL hl h.2.1], by simp [opnd_ev hL hh h.2.2], rfl⟩) (fun _ => .inl ⟨rfl, rfl⟩) (fun _ => rfl) (fun _ => .inr ⟨k', c, rfl, by omega, by omega, rfl⟩)
    (fun _ => .inr ⟨k, a, rfl, by omega, by omega, rfl⟩) ac w hL hO hg
theorem qt_sliceLHM {t e : TypeId} {x lo hi' mx : Operand} {gx gl gh gm : Bool} {p : Option Addr} {len cap n by' : Nat} {z : Value} {k k' k'' : IntKind} {a c f : Int} (ho : o.op = .slice t x (some lo) (some hi') (some mx)) (hx : opnd L x = some (gx, .slice p len cap)) (hl : opnd L lo = some (gl, .int k a)) (hh : opnd L hi' = some (gh, .int k' c)) (hm : opnd L mx = some (gm, .int k'' f)) (hi : g = true → (gx && (gl && (gh && gm))) = true) (hu : C.T.u t = some (.slice e)) (hz : C.T.i e = some (z, n, by'))
    (hb : g = true → 0 ≤ a ∧ a ≤ c ∧ c ≤ f ∧ f ≤ (cap : Int)) : Qt C L σ g o (.slice (adv n p f.toNat a.toNat) (c.toNat - a.toNat) (f.toNat - a.toNat)) := fun ac w hL hO hg => by
  have h := hi hg
  rw [Bool.and_eq_true, Bool.and_eq_true, Bool.and_eq_true] at h
  have := hb hg
  exact qt_slice (lv := some (.int k a)) (hv := some (.int k' c)) (mv := some (.int k'' f)) (h := c.toNat) (m := f.toNat) (l := a.toNat) ho hx hu hz (fun _ => h.1) (fun ac hL _ => ⟨by simp [opnd_ev hL hl h.2.1], by simp [opnd_ev hL hh h.2.2.1], by simp [opnd_ev hL hm h.2.2.2]⟩) (fun _ => .inr ⟨k'', f, rfl, by omega, by omega, rfl⟩) (fun e => by cases e)
    (fun _ => .inr ⟨k', c, rfl, by omega, by omega, rfl⟩) (fun _ => .inr ⟨k, a, rfl, by omega, by omega, rfl⟩) ac w hL hO hg
theorem qt_sliceHM {t e : TypeId} {x hi' mx : Operand} {gx gh gm : Bool} {p : Option Addr} {len cap n by' : Nat} {z : Value} {k' k'' : IntKind} {c f : Int} (ho : o.op = .slice t x none (some hi') (some mx)) (hx : opnd L x = some (gx, .slice p len cap)) (hh : opnd L hi' = some (gh, .int k' c)) (hm : opnd L mx = some (gm, .int k'' f)) (hi : g = true → (gx && (gh && gm)) = true) (hu : C.T.u t = some (.slice e)) (hz : C.T.i e = some (z, n, by'))
    (hb : g = true → 0 ≤ c ∧ c ≤ f ∧ f ≤ (cap : Int)) : Qt C L σ g o (.slice (adv n p f.toNat 0) (c.toNat - 0) (f.toNat - 0)) := fun ac w hL hO hg => by
  have h := hi hg
  rw [Bool.and_eq_true, Bool.and_eq_true] at h
  have := hb hg
  exact qt_slice (lv := none) (hv := some (.int k' c)) (mv := some (.int k'' f)) (h := c.toNat) (m := f.toNat) (l := 0) ho hx hu hz (fun _ => h.1) (fun ac hL _ => ⟨rfl, by simp [opnd_ev hL hh h.2.1], by simp [opnd_ev hL hm h.2.2]⟩) (fun _ => .inr ⟨k'', f, rfl, by omega, by omega, rfl⟩) (fun e => by cases e)
    (fun _ => .inr ⟨k', c, rfl, by omega, by omega, rfl⟩) (fun _ => .inl ⟨rfl, rfl⟩) ac w hL hO hg
end

/-! ### Rows of bytes -/
def by8 (l : List Nat) : List Value := l.map fun (n : Nat) => Value.int .u8 (n : Int)
def Byt (l : List Nat) : Prop := ∀ n ∈ l, n < 256
theorem by8_len (l : List Nat) : (by8 l).length = l.length := by simp [by8]
theorem by8_one (l : List Nat) : (by8 l).all Value.oneCell' = true := by
  induction l with
  | nil => rfl
  | cons n l ih => unfold by8 at ih ⊢; rw [List.map_cons, List.all_cons, ih]; rfl
theorem by8_append (l r : List Nat) : by8 (l ++ r) = by8 l ++ by8 r := by simp [by8]
theorem by8_drop (l : List Nat) (k : Nat) : by8 (l.drop k) = (by8 l).drop k := by simp [by8]
theorem by8_take (l : List Nat) (k : Nat) : by8 (l.take k) = (by8 l).take k := by simp [by8]
theorem by8_get {l : List Nat} {i n : Nat} (h : l[i]? = some n) : (by8 l)[i]? = some (.int .u8 (n : Int)) := by simp [by8, h]
theorem Byt.drop {l : List Nat} (h : Byt l) (k : Nat) : Byt (l.drop k) := fun n hn => h n (List.mem_of_mem_drop hn)
theorem Byt.take {l : List Nat} (h : Byt l) (k : Nat) : Byt (l.take k) := fun n hn => h n (List.mem_of_mem_take hn)
theorem Byt.append {l r : List Nat} (h : Byt l) (h' : Byt r) : Byt (l ++ r) := fun n hn => (List.mem_append.1 hn).elim (h n) (h' n)
theorem by8_inj {l r : List Nat} (h : by8 l = by8 r) : l = r := by
  unfold by8 at h
  refine (List.map_inj_right (fun x y e => ?_)).1 h
  simp only [Value.int.injEq, true_and] at e
  omega
/-- Bytes that were handed in. -/
theorem bytes_of {ns : List Int} (h : ∀ x ∈ ns, (Lit.int .u8 x).wf = true) : ∃ l : List Nat, ns.map (Value.int .u8) = by8 l ∧ Byt l ∧ l.length = ns.length := by
  refine ⟨ns.map Int.toNat, ?_, ?_, by simp⟩
  · unfold by8
    rw [List.map_map]
    apply List.map_congr_left
    intro x hx
    have := h x hx
    simp only [Lit.wf, Bool.and_eq_true, decide_eq_true_eq] at this
    have e1 : IntKind.u8.min = 0 := by decide
    simp only [Function.comp, Value.int.injEq, true_and]
    omega
  · intro n hn
    obtain ⟨x, hx, rfl⟩ := List.mem_map.1 hn
    have := h x hx
    simp only [Lit.wf, Bool.and_eq_true, decide_eq_true_eq] at this
    have e1 : IntKind.u8.min = 0 := by decide
    have e2 : IntKind.u8.max = 255 := by decide
    omega

theorem cel8 {β : Nat → Option Obj} {σ : Heap} {b off i n : Nat} {l : List Nat} (h : ∀ (j : Nat) (u : Value), (by8 l)[j]? = some u → Cel β σ b (off + j) u) (hi : l[i]? = some n) : Cel β σ b (off + (i : Int).toNat * 1) (.int .u8 (n : Int)) := by
  have := h _ _ (by8_get hi)
  rwa [show (i : Int).toNat * 1 = i by omega]
/-- The number of bytes, the highest first. -/
def num (l : List Nat) : Nat := l.foldl (fun a b => 256 * a + b) 0
theorem num_snoc (l : List Nat) (b : Nat) : num (l ++ [b]) = 256 * num l + b := by simp [num]
theorem num_lt : ∀ (n : Nat) (l : List Nat), l.length = n → Byt l → num l < 256 ^ n
  | 0, l, hl, _ => by rw [List.length_eq_zero_iff.1 hl]; simp [num]
  | n + 1, l, hl, hb => by
    have hne : l ≠ [] := fun e => by rw [e] at hl; simp at hl
    rw [← List.dropLast_concat_getLast hne]
    rw [num_snoc]
    have h1 := num_lt n l.dropLast (by simp [hl]) (fun x hx => hb x (List.dropLast_subset _ hx))
    have h2 := hb _ (List.getLast_mem hne)
    rw [Nat.pow_succ]
    omega
theorem or_u64 {a b : Nat} (ha : a < 72057594037927936) (hb : b < 256) : bits .or .u64 ((a : Int) * 2 ^ 8) (b : Int) = ((256 * a + b : Nat) : Int) := by
  rw [bits_join .u64 64 (by decide) (fun n h0 h1 => ?_) 8 ((a : Int) * 2 ^ 8) (b : Int) (by omega) (by simp) (by omega) (by omega) (by omega) (by omega)]
  · omega
  · have : (2 : Int) ^ 64 = 18446744073709551616 := by decide
    simp only [IntKind.wrap, IntKind.bits, IntKind.signed, Bool.false_and]
    simp
    exact Int.emod_eq_of_lt h0 h1
theorem wrap_u64 {n : Nat} (h : n < 18446744073709551616) : IntKind.u64.wrap (n : Int) = (n : Int) := by
  simp only [IntKind.wrap, IntKind.bits, IntKind.signed, Bool.false_and]
  simp
  exact Int.emod_eq_of_lt (by omega) (by omega)
end Go.K

/- What is put is taken again, and what is taken is put again: numbers, requests. -/
import Derived.Test.YtnaclkdjchnbpaaDoorNE
import Derived.Test.YtnaclkdjchnbpaaDoorNK
namespace Go.Proofs.YtnaclkdjchnbpaaDoor
open Go Go.K

theorem num_bes {X size : Nat} (hX : X < 2 ^ (8 * size)) : ∀ k, k ≤ size → num (bes X size k) = X / 2 ^ (8 * (size - k))
  | 0, _ => by
    rw [Nat.sub_zero, Nat.div_eq_of_lt hX]
    simp [bes, num]
  | k + 1, hk => by
    rw [bes_succ, num_snoc, num_bes hX k (by omega)]
    have e1 : 8 * (size - k) = 8 * (size - 1 - k) + 8 := by omega
    have e2 : 8 * (size - (k + 1)) = 8 * (size - 1 - k) := by omega
    rw [e1, e2, Nat.pow_add, ← Nat.div_div_eq_div_mul]
    have : (2 : Nat) ^ 8 = 256 := by decide
    rw [this]
    generalize X / 2 ^ (8 * (size - 1 - k)) = Y
    omega
theorem num_bes' {X size : Nat} (hX : X < 2 ^ (8 * size)) : num (bes X size size) = X := by
  rw [num_bes hX size (Nat.le_refl _)]; simp
theorem num_inj : ∀ (n : Nat) (l l' : List Nat), l.length = n → l'.length = n → Byt l → Byt l' → num l = num l' → l = l'
  | 0, l, l', h, h', _, _, _ => by rw [List.length_eq_zero_iff.1 h, List.length_eq_zero_iff.1 h']
  | n + 1, l, l', h, h', hB, hB', e => by
    rcases List.eq_nil_or_concat l with rfl | ⟨a, x, rfl⟩
    · simp at h
    · rcases List.eq_nil_or_concat l' with rfl | ⟨b, y, rfl⟩
      · simp at h'
      · simp only [List.concat_eq_append] at *
        rw [num_snoc, num_snoc] at e
        have hx := hB x (by simp)
        have hy := hB' y (by simp)
        rw [List.length_append] at h h'
        have e1 : num a = num b := by omega
        have e2 : x = y := by omega
        rw [num_inj n a b (by simpa using h) (by simpa using h') (fun z hz => hB z (by simp [hz])) (fun z hz => hB' z (by simp [hz])) e1, e2]
theorem bes_num {l : List Nat} {s : Nat} (h : l.length = s) (hB : Byt l) : bes (num l) s s = l := by
  have hlt : num l < 2 ^ (8 * s) := by
    have := num_lt s l h hB
    rwa [show (256 : Nat) = 2 ^ 8 by decide, ← Nat.pow_mul] at this
  exact num_inj s _ _ (bes_len _ _ _) h (bes_byt _ _ _) hB (num_bes' hlt)
abbrev En := ByteArray × Nat × Nat
def fit (f : En) : Prop := f.2.2 / 2 ^ (8 * f.2.1) = 0
def byE (l : List En) : List Nat := l.flatMap fun f => bes f.2.2 f.2.1 f.2.1
theorem byE_cons (f : En) (l : List En) : byE (f :: l) = bes f.2.2 f.2.1 f.2.1 ++ byE l := rfl
theorem fit_lt {f : En} (h : fit f) : f.2.2 < 2 ^ (8 * f.2.1) := by
  unfold fit at h
  have hp : 0 < 2 ^ (8 * f.2.1) := Nat.pow_pos (by decide)
  exact (Nat.div_eq_zero_iff.1 h).resolve_left (by omega)
theorem putF_none : ∀ (l : List En) (xs o : List Nat), putF l (xs, none) = (o, none) → (∀ f ∈ l, fit f) ∧ o = xs ++ byE l
  | [], xs, o, h => by
    have : xs = o := by simpa [putF] using h
    subst this
    exact ⟨(fun f hf => by cases hf), by simp [byE]⟩
  | f :: l, xs, o, h => by
    have h' : putF l (putF1 (xs, none) f) = (o, none) := h
    by_cases hf : fit f
    · have e : putF1 (xs, none) f = (xs ++ bes f.2.2 f.2.1 f.2.1, none) := by unfold putF1; dsimp only; exact if_pos hf
      rw [e] at h'
      obtain ⟨h1, h2⟩ := putF_none l _ _ h'
      refine ⟨fun g hg => ?_, by rw [h2, byE_cons, List.append_assoc]⟩
      rcases List.mem_cons.1 hg with rfl | hg
      · exact hf
      · exact h1 g hg
    · have e : putF1 (xs, none) f = (xs, some (f.1, 10)) := by unfold putF1; dsimp only; exact if_neg hf
      rw [e, putF_some] at h'
      simp at h'
theorem putF_ok : ∀ (l : List En) (xs : List Nat), (∀ f ∈ l, fit f) → putF l (xs, none) = (xs ++ byE l, none)
  | [], xs, _ => by simp [putF, byE]
  | f :: l, xs, h => by
    have e : putF1 (xs, none) f = (xs ++ bes f.2.2 f.2.1 f.2.1, none) := by unfold putF1; dsimp only; exact if_pos (h f List.mem_cons_self)
    show putF l (putF1 (xs, none) f) = _
    rw [e, putF_ok l _ (fun g hg => h g (List.mem_cons_of_mem _ hg)), byE_cons, List.append_assoc]
theorem takF_bes : ∀ (l : List En) (rest : List Nat), (∀ f ∈ l, fit f) → takF (l.map fun f => (f.1, f.2.1)) (byE l ++ rest) = (none, rest, l.map fun f => f.2.2)
  | [], rest, _ => rfl
  | f :: l, rest, h => by
    have e1 : tk1 (f.1, f.2.1) (byE (f :: l) ++ rest) = (none, byE l ++ rest, f.2.2) := by
      unfold tk1
      rw [byE_cons, List.append_assoc]
      rw [if_pos (by rw [List.length_append, bes_len]; exact Nat.le_add_right _ _), List.drop_left' (bes_len _ _ _), List.take_left' (bes_len _ _ _), num_bes' (fit_lt (h f List.mem_cons_self))]
    rw [List.map_cons, takF, e1]
    dsimp only
    rw [takF_bes l rest (fun g hg => h g (List.mem_cons_of_mem _ hg))]
    rfl
def zipE : List (ByteArray × Nat) → List Nat → List En
  | f :: fs, n :: ns => (f.1, f.2, n) :: zipE fs ns
  | _, _ => []
theorem takF_inv : ∀ (fs : List (ByteArray × Nat)) (l l' ns : List Nat), Byt l → takF fs l = (none, l', ns) → l = byE (zipE fs ns) ++ l' ∧ ∀ f ∈ zipE fs ns, fit f
  | [], l, l', ns, _, h => by
    simp only [takF, Prod.mk.injEq, true_and] at h
    obtain ⟨rfl, rfl⟩ := h
    exact ⟨rfl, fun f hf => by cases hf⟩
  | f :: fs, l, l', ns, hB, h => by
    rw [takF] at h
    rcases ht : tk1 f l with ⟨x, l1, n⟩
    rw [ht] at h
    rcases x with _ | y
    · obtain ⟨h1, h2, h3⟩ := tk1_none ht
      dsimp only at h
      rcases hr : takF fs l1 with ⟨x2, l2, ns2⟩
      rw [hr] at h
      simp only [Prod.mk.injEq] at h
      obtain ⟨rfl, rfl, rfl⟩ := h
      obtain ⟨h4, h5⟩ := takF_inv fs l1 l2 ns2 (by rw [h2]; exact hB.drop _) hr
      have hlen : (l.take f.2).length = f.2 := by rw [List.length_take]; exact Nat.min_eq_left h1
      refine ⟨?_, ?_⟩
      · rw [zipE, byE_cons]
        dsimp only
        rw [h3, bes_num hlen (hB.take _), List.append_assoc, ← h4, h2, List.take_append_drop]
      · intro g hg
        rcases List.mem_cons.1 hg with rfl | hg
        · unfold fit
          dsimp only
          apply Nat.div_eq_of_lt
          have := num_lt f.2 (l.take f.2) hlen (hB.take _)
          rwa [show (256 : Nat) = 2 ^ 8 by decide, ← Nat.pow_mul, ← h3] at this
        · exact h5 g hg
    · simp at h
theorem u64_i64 {x : Nat} (h : x < 18446744073709551616) : u64 (i64 x) = x := by
  unfold u64 i64
  rw [IntKind.wrap_i64]
  omega
theorem i64_I (x : Nat) : I64 (i64 x) := by
  unfold I64 i64
  rw [IntKind.wrap_i64]
  omega
/-- The rows of an operation, behind its op. -/
def rowsO (o : Int) : List RowT := if opSize o = 0 then [] else rowTok :: rowsB o
theorem rDec_cons (n : Nat) (l1 : List Nat) (hn : n < 256) : rDec (n :: l1) = if 6 < (n : Int) then (some (sOp, 18), Rq.zero) else refG asked.tail 1 l1 { Rq.zero with op := (n : Int) } := by
  have hi : i64 n = (n : Int) := by unfold i64; rw [IntKind.wrap_i64]; omega
  have hrd : rdN 1 1 (n :: l1) = [n] := by
    show [num [n]] = [n]
    simp [num]
  unfold rDec
  show refG (⟨sOp, 1, 1, [48, 49, 50, 51, 52, 53, 54]⟩ :: asked.tail) 0 (n :: l1) Rq.zero = _
  have e5 : setR Rq.zero ⟨sOp, 1, 1, [48, 49, 50, 51, 52, 53, 54]⟩ [n] = { Rq.zero with op := (n : Int) } := by
    unfold setR
    rw [if_pos rfl]
    show ({ Rq.zero with op := i64 n } : Rq) = _
    rw [hi]
  rw [refG, if_neg (by omega), if_neg (by show ¬ (n :: l1).length < 1 * 1; simp)]
  show (if sOp = sOp ∧ 6 < (setR Rq.zero ⟨sOp, 1, 1, _⟩ (rdN 1 1 (n :: l1))).op then _ else refG asked.tail (0 + 1) l1 (setR Rq.zero ⟨sOp, 1, 1, _⟩ (rdN 1 1 (n :: l1)))) = _
  rw [hrd, e5]
  by_cases h6 : 6 < (n : Int)
  · rw [if_pos h6, if_pos ⟨rfl, h6⟩]
  · rw [if_neg h6, if_neg (fun h => h6 h.2)]
theorem rDec_ok (n : Nat) (l1 : List Nat) (h6 : n ≤ 6) : rDec (n :: l1) = (match takF (rows (rowsO n)) l1 with
    | (some y, _, _) => (some y, Rq.zero)
    | (none, l', ns) => if 0 < l'.length then (some (sEnd, 12), Rq.zero) else (none, setAll setR (rowsO n) ns { Rq.zero with op := (n : Int) })) := by
  rw [rDec_cons n l1 (by omega), if_neg (by omega), refG_refD _ 1 l1 _ (by omega) (by decide), refD_filter]
  have hrow : asked.tail.filter (hasO (n : Int)) = rowsO n := by
    have : n = 0 ∨ n = 1 ∨ n = 2 ∨ n = 3 ∨ n = 4 ∨ n = 5 ∨ n = 6 := by omega
    rcases this with h | h | h | h | h | h | h <;> subst h <;> rfl
  show finD (refD setR (fun _ => true) (asked.tail.filter (hasO (n : Int))) l1 _) = _
  rw [hrow]
  rcases refD_tak setR (rowsO n) l1 { Rq.zero with op := (n : Int) } with ⟨y, l', r', l'', ns, e1, e2⟩ | ⟨l', ns, e1, e2⟩
  · rw [e1, e2]; rfl
  · rw [e2, e1]; rfl
theorem bes_one {n : Nat} (h : n < 256) : bes n 1 1 = [n] := by
  show [n / 2 ^ (8 * (1 - 1 - 0)) % 256] = [n]
  simp
  omega
theorem rows_ent (r : Rq) (ho : ¬ (r.op < 0 ∨ 7 ≤ r.op)) : (entR r).tail.map (fun f => (f.1, f.2.1)) = rows (rowsO r.op) := by
  unfold entR
  rw [List.tail_cons]
  rcases op_cases ho with h | h | h | h | h | h | h <;> rw [h] <;> rfl
theorem rows_back (r : Rq) (hr : r.Ok) (ho : ¬ (r.op < 0 ∨ 7 ≤ r.op)) (hl : leftR r = false) : setAll setR (rowsO r.op) ((entR r).tail.map fun f => f.2.2) { Rq.zero with op := r.op } = r := by
  obtain ⟨op, tok, unit, dir, fx, fy, tx, ty⟩ := r
  have i1 := i64_u64 hr.unit
  have i2 := i64_u64 hr.dir
  have i3 := i64_u64 hr.fx
  have i4 := i64_u64 hr.fy
  have i5 := i64_u64 hr.tx
  have i6 := i64_u64 hr.ty
  unfold entR
  rw [List.tail_cons]
  unfold leftR at hl
  dsimp only at *
  rcases op_cases ho with h | h | h | h | h | h | h <;> subst h
  · simp at hl
    obtain ⟨rfl, rfl, rfl, ⟨rfl, rfl⟩, rfl, rfl⟩ := hl
    rfl
  · simp at hl
    obtain ⟨rfl, rfl, ⟨rfl, rfl⟩, rfl, rfl⟩ := hl
    rfl
  · simp at hl
    obtain ⟨⟨rfl, rfl⟩, rfl, rfl⟩ := hl
    show (⟨2, tok, IntKind.i64.wrap (u64 unit : Int), IntKind.i64.wrap (u64 dir : Int), 0, 0, 0, 0⟩ : Rq) = _
    rw [i1, i2]
  · simp at hl
    obtain ⟨rfl, rfl, ⟨rfl, rfl⟩, rfl, rfl⟩ := hl
    rfl
  · simp at hl
    obtain ⟨rfl, rfl⟩ := hl
    show (⟨4, tok, 0, 0, IntKind.i64.wrap (u64 fx : Int), IntKind.i64.wrap (u64 fy : Int), IntKind.i64.wrap (u64 tx : Int), IntKind.i64.wrap (u64 ty : Int)⟩ : Rq) = _
    rw [i3, i4, i5, i6]
  · simp at hl
    obtain ⟨rfl, rfl⟩ := hl
    show (⟨5, tok, 0, 0, IntKind.i64.wrap (u64 fx : Int), IntKind.i64.wrap (u64 fy : Int), IntKind.i64.wrap (u64 tx : Int), IntKind.i64.wrap (u64 ty : Int)⟩ : Rq) = _
    rw [i3, i4, i5, i6]
  · simp at hl
    obtain ⟨rfl, rfl, ⟨rfl, rfl⟩, rfl, rfl⟩ := hl
    rfl
theorem byE_byt (l : List En) : Byt (byE l) := by
  intro x hx
  unfold byE at hx
  obtain ⟨f, _, h⟩ := List.mem_flatMap.1 hx
  exact bes_byt _ _ _ x h
/-- What a right request is put as. -/
theorem enc_some (r : Rq) (hr : r.Ok) (h : encF r = none) : ¬ (r.op < 0 ∨ 7 ≤ r.op) ∧ leftR r = false ∧ (∀ f ∈ entR r, fit f) ∧ encB r = byE (entR r) := by
  by_cases ho : r.op < 0 ∨ 7 ≤ r.op
  · unfold encF at h
    rw [if_pos ho] at h
    cases h
  · have e : enc r = (none, encB r) := by unfold enc; rw [h]
    rw [enc_eq r hr ho] at e
    rcases hp : putF (entR r) ([], none) with ⟨o, x⟩
    rw [hp] at e
    rcases x with _ | y
    · rcases hl : leftR r with _ | _
      · rw [hl] at e
        have e2 : o = encB r := by simpa [fin, cutO] using e
        obtain ⟨h1, h2⟩ := putF_none (entR r) [] o hp
        exact ⟨ho, rfl, h1, by rw [← e2, h2]; rfl⟩
      · rw [hl] at e
        simp [fin, cutO] at e
    · simp [fin, cutO] at e
theorem entR_cons (r : Rq) : entR r = (sOp, 1, u64 r.op) :: (entR r).tail := by unfold entR; rfl
theorem enc_dec (r : Rq) (hr : r.Ok) (h : encF r = none) : Byt (encB r) ∧ decF (encB r) = none ∧ (decS (encB r)).2.2 = r := by
  obtain ⟨ho, hl, hf, e⟩ := enc_some r hr h
  have hB : Byt (encB r) := by rw [e]; exact byE_byt _
  have hu : u64 r.op = r.op.toNat := by unfold u64; omega
  have e2 : encB r = r.op.toNat :: byE (entR r).tail := by
    rw [e]
    conv => lhs; rw [entR_cons]
    rw [byE_cons, hu]
    dsimp only
    rw [bes_one (by omega)]
    rfl
  have e3 : rDec (encB r) = (none, r) := by
    rw [e2, rDec_ok _ _ (by omega)]
    have hc : ((r.op.toNat : Nat) : Int) = r.op := by omega
    rw [hc, ← rows_ent r ho]
    have ht := takF_bes (entR r).tail [] (fun f hf2 => hf f (by rw [entR_cons]; exact List.mem_cons_of_mem _ hf2))
    rw [List.append_nil] at ht
    rw [ht]
    dsimp only
    rw [if_neg (by simp), rows_back r hr ho hl]
  rw [← dec_same _ hB] at e3
  unfold dec at e3
  rcases hd : decF (encB r) with _ | y
  · rw [hd] at e3
    simp only [Prod.mk.injEq, true_and] at e3
    exact ⟨hB, rfl, e3⟩
  · rw [hd] at e3
    simp at e3
theorem enc_of {d : Rq} {o : List Nat} (h : enc d = (none, o)) : encF d = none ∧ encB d = o := by
  unfold enc at h
  rcases he : encF d with _ | y
  · rw [he] at h
    simp only [Prod.mk.injEq, true_and] at h
    exact ⟨rfl, h⟩
  · rw [he] at h
    simp at h
theorem put_back (d : Rq) (hd : d.Ok) (ho : ¬ (d.op < 0 ∨ 7 ≤ d.op)) (hl : leftR d = false) (es : List En) (he : entR d = es) (hf : ∀ f ∈ es, fit f) : encF d = none ∧ encB d = byE es := by
  apply enc_of
  rw [enc_eq d hd ho, he, putF_ok es [] hf, hl]
  rfl
theorem len1 {α : Type} {l : List α} (h : l.length = 1) : ∃ a, l = [a] := by
  match l, h with
  | [a], _ => exact ⟨a, rfl⟩
theorem len3 {α : Type} {l : List α} (h : l.length = 3) : ∃ a b c, l = [a, b, c] := by
  match l, h with
  | [a, b, c], _ => exact ⟨a, b, c, rfl⟩
theorem len5 {α : Type} {l : List α} (h : l.length = 5) : ∃ a b c d e, l = [a, b, c, d, e] := by
  match l, h with
  | [a, b, c, d, e], _ => exact ⟨a, b, c, d, e, rfl⟩
theorem no_n {n : Nat} (h : n ≤ 6) : ¬ ((n : Int) < 0 ∨ 7 ≤ (n : Int)) := by omega
theorem I64_n {n : Nat} (h : n ≤ 6) : I64 (n : Int) := by unfold I64; omega
theorem fit_u {f : En} (h : fit f) (h8 : f.2.1 ≤ 8) : f.2.2 < 18446744073709551616 := by
  have := fit_lt h
  have h2 : 2 ^ (8 * f.2.1) ≤ 2 ^ (8 * 8) := Nat.pow_le_pow_right (by decide) (by omega)
  have h3 : (2 : Nat) ^ (8 * 8) = 18446744073709551616 := by decide
  omega
theorem dec_enc (l : List Nat) (hB : Byt l) (h : decF l = none) : (decS l).2.2.Ok ∧ encF (decS l).2.2 = none ∧ encB (decS l).2.2 = l := by
  have e : rDec l = (none, (decS l).2.2) := by
    rw [← dec_same l hB]
    unfold dec
    rw [h]
  generalize (decS l).2.2 = d at e ⊢
  match l, hB, e with
  | [], _, e => simp [rDec, asked, refG] at e
  | n :: l1, hB, e =>
    have hn : n < 256 := hB n List.mem_cons_self
    by_cases h6 : n ≤ 6
    · rw [rDec_ok n l1 h6] at e
      rcases ht : takF (rows (rowsO n)) l1 with ⟨x, l', ns⟩
      rw [ht] at e
      rcases x with _ | y
      · dsimp only at e
        by_cases hl' : 0 < l'.length
        · rw [if_pos hl'] at e
          simp at e
        · rw [if_neg hl'] at e
          simp only [Prod.mk.injEq, true_and] at e
          obtain ⟨h1, h2⟩ := takF_inv _ _ _ _ (fun x hx => hB x (List.mem_cons_of_mem _ hx)) ht
          have hl0 : l' = [] := List.length_eq_zero_iff.1 (by omega)
          rw [hl0, List.append_nil] at h1
          have hlen := takF_len _ _ _ _ ht
          have hb1 : bes n 1 1 = [n] := bes_one hn
          have hun : u64 (n : Int) = n := by unfold u64; omega
          have hfo : fit (sOp, 1, n) := by
            unfold fit
            exact Nat.div_eq_of_lt hn
          have fin2 : ∀ (es : List En), d.Ok → ¬ (d.op < 0 ∨ 7 ≤ d.op) → leftR d = false → entR d = (sOp, 1, n) :: es → es = zipE (rows (rowsO n)) ns → d.Ok ∧ encF d = none ∧ encB d = n :: l1 := by
            intro es hd ho hl he hz
            obtain ⟨h3, h4⟩ := put_back d hd ho hl _ he (by
              intro f hf
              rcases List.mem_cons.1 hf with rfl | hf
              · exact hfo
              · rw [hz] at hf; exact h2 f hf)
            refine ⟨hd, h3, ?_⟩
            rw [h4, byE_cons]
            dsimp only
            rw [hb1, hz, ← h1]
            rfl
          have hcs : n = 0 ∨ n = 1 ∨ n = 2 ∨ n = 3 ∨ n = 4 ∨ n = 5 ∨ n = 6 := by omega
          rcases hcs with h0 | h0 | h0 | h0 | h0 | h0 | h0 <;> subst h0
          · have : ns = [] := List.length_eq_zero_iff.1 hlen
            subst this
            subst e
            exact fin2 [] ⟨I64_0, by decide, I64_0, I64_0, I64_0, I64_0, I64_0, I64_0⟩ (no_n (n := 0) (by omega)) rfl rfl rfl
          · obtain ⟨a, rfl⟩ := len1 hlen
            subst e
            have ha := fit_u (h2 (sToken, 8, a) (List.mem_cons_self)) (by dsimp only; omega)
            exact fin2 [(sToken, 8, a)] ⟨I64_1, ha, I64_0, I64_0, I64_0, I64_0, I64_0, I64_0⟩ (no_n (n := 1) (by omega)) rfl rfl rfl
          · obtain ⟨a, b, c, rfl⟩ := len3 hlen
            subst e
            have ha := fit_u (h2 (sToken, 8, a) (List.mem_cons_self)) (by dsimp only; omega)
            have hb := fit_u (h2 (sUnit, 1, b) (List.mem_cons_of_mem _ List.mem_cons_self)) (by dsimp only; omega)
            have hc := fit_u (h2 (sDir, 1, c) (List.mem_cons_of_mem _ (List.mem_cons_of_mem _ List.mem_cons_self))) (by dsimp only; omega)
            refine fin2 [(sToken, 8, a), (sUnit, 1, b), (sDir, 1, c)] ⟨I64_2, ha, i64_I b, i64_I c, I64_0, I64_0, I64_0, I64_0⟩ (no_n (n := 2) (by omega)) rfl ?_ rfl
            show [(sOp, 1, u64 2), (sToken, 8, a), (sUnit, 1, u64 (i64 b)), (sDir, 1, u64 (i64 c))] = _
            rw [u64_i64 hb, u64_i64 hc]
            rfl
          · obtain ⟨a, rfl⟩ := len1 hlen
            subst e
            have ha := fit_u (h2 (sToken, 8, a) (List.mem_cons_self)) (by dsimp only; omega)
            exact fin2 [(sToken, 8, a)] ⟨I64_n (n := 3) (by omega), ha, I64_0, I64_0, I64_0, I64_0, I64_0, I64_0⟩ (no_n (n := 3) (by omega)) rfl rfl rfl
          · obtain ⟨a, b, c, d, f, rfl⟩ := len5 hlen
            subst e
            have ha := fit_u (h2 (sToken, 8, a) (List.mem_cons_self)) (by dsimp only; omega)
            have hb := fit_u (h2 (sFrom, 2, b) (List.mem_cons_of_mem _ List.mem_cons_self)) (by dsimp only; omega)
            have hc := fit_u (h2 (sFrom, 2, c) (List.mem_cons_of_mem _ (List.mem_cons_of_mem _ List.mem_cons_self))) (by dsimp only; omega)
            have hd := fit_u (h2 (sTo, 2, d) (List.mem_cons_of_mem _ (List.mem_cons_of_mem _ (List.mem_cons_of_mem _ List.mem_cons_self)))) (by dsimp only; omega)
            have hf := fit_u (h2 (sTo, 2, f) (List.mem_cons_of_mem _ (List.mem_cons_of_mem _ (List.mem_cons_of_mem _ (List.mem_cons_of_mem _ List.mem_cons_self))))) (by dsimp only; omega)
            refine fin2 [(sToken, 8, a), (sFrom, 2, b), (sFrom, 2, c), (sTo, 2, d), (sTo, 2, f)] ⟨I64_n (n := 4) (by omega), ha, I64_0, I64_0, i64_I b, i64_I c, i64_I d, i64_I f⟩ (no_n (n := 4) (by omega)) rfl ?_ rfl
            show [(sOp, 1, u64 4), (sToken, 8, a), (sFrom, 2, u64 (i64 b)), (sFrom, 2, u64 (i64 c)), (sTo, 2, u64 (i64 d)), (sTo, 2, u64 (i64 f))] = _
            rw [u64_i64 hb, u64_i64 hc, u64_i64 hd, u64_i64 hf]
            rfl
          · obtain ⟨a, b, c, d, f, rfl⟩ := len5 hlen
            subst e
            have ha := fit_u (h2 (sToken, 8, a) (List.mem_cons_self)) (by dsimp only; omega)
            have hb := fit_u (h2 (sFrom, 2, b) (List.mem_cons_of_mem _ List.mem_cons_self)) (by dsimp only; omega)
            have hc := fit_u (h2 (sFrom, 2, c) (List.mem_cons_of_mem _ (List.mem_cons_of_mem _ List.mem_cons_self))) (by dsimp only; omega)
            have hd := fit_u (h2 (sTo, 2, d) (List.mem_cons_of_mem _ (List.mem_cons_of_mem _ (List.mem_cons_of_mem _ List.mem_cons_self)))) (by dsimp only; omega)
            have hf := fit_u (h2 (sTo, 2, f) (List.mem_cons_of_mem _ (List.mem_cons_of_mem _ (List.mem_cons_of_mem _ (List.mem_cons_of_mem _ List.mem_cons_self))))) (by dsimp only; omega)
            refine fin2 [(sToken, 8, a), (sFrom, 2, b), (sFrom, 2, c), (sTo, 2, d), (sTo, 2, f)] ⟨I64_n (n := 5) (by omega), ha, I64_0, I64_0, i64_I b, i64_I c, i64_I d, i64_I f⟩ (no_n (n := 5) (by omega)) rfl ?_ rfl
            show [(sOp, 1, u64 5), (sToken, 8, a), (sFrom, 2, u64 (i64 b)), (sFrom, 2, u64 (i64 c)), (sTo, 2, u64 (i64 d)), (sTo, 2, u64 (i64 f))] = _
            rw [u64_i64 hb, u64_i64 hc, u64_i64 hd, u64_i64 hf]
            rfl
          · obtain ⟨a, rfl⟩ := len1 hlen
            subst e
            have ha := fit_u (h2 (sToken, 8, a) (List.mem_cons_self)) (by dsimp only; omega)
            exact fin2 [(sToken, 8, a)] ⟨I64_n (n := 6) (by omega), ha, I64_0, I64_0, I64_0, I64_0, I64_0, I64_0⟩ (no_n (n := 6) (by omega)) rfl rfl rfl
      · simp at e
    · rw [rDec_cons n l1 hn, if_pos (by omega)] at e
      simp at e
end Go.Proofs.YtnaclkdjchnbpaaDoor

/- The program logic, sixth part: equality; elements of arrays and slices. -/
import Derived.Test.YtcnebanpnnblbaaDoorK5
import Derived.Laws.StructEq
import Derived.Laws.Tables
namespace Go.K
open Go Go.RowKit

def partV {P : Program} (T : TT P) (t : Nat) (xs : List Value) (off : Nat) : Option Value :=
  match T.u t, T.i t with
  | some d, some (_, n, _) => match aggD d with
    | true => match cutN off n xs with
      | some vs => some (.agg vs.toArray)
      | none => none
    | false => nth xs off
  | _, _ => none
theorem partV_ok {P : Program} {T : TT P} {t off : Nat} {xs : List Value} {v : Value} (h : partV T t xs off = some v) (w : World) : (part t xs.toArray off).run P w = .ok v w := by
  unfold partV at h
  split at h
  · rename_i d z n m hd hz
    split at h
    · rename_i ha
      split at h
      · rename_i vs hv; simp only [Option.some.injEq] at h; exact run_part hd hz (.inl ⟨ha, hv, h.symm⟩) w
      · cases h
    · rename_i ha
      rw [nth_eq] at h
      exact run_part (vs := []) hd hz (.inr ⟨ha, h⟩) w
  · cases h

def eqFs {P : Program} (T : TT P) (rec : Nat → Value → Value → Option Bool) (xs ys : List Value) : List Field → Option Bool
  | [] => some true
  | [f] => match partV T f.type xs f.offset, partV T f.type ys f.offset with
    | some a, some b => rec f.type a b
    | _, _ => none
  | f :: g :: r => match partV T f.type xs f.offset, partV T f.type ys f.offset with
    | some a, some b => match rec f.type a b, eqFs T rec xs ys (g :: r) with
      | some e, some e' => some (e && e')
      | _, _ => none
    | _, _ => none
def eqV {P : Program} (T : TT P) : Nat → Nat → Value → Value → Option Bool
  | 0, _, _, _ => none
  | d + 1, t, x, y => match T.u t with
    | some .bool => match x, y with
      | .bool a, .bool b => some (a == b)
      | _, _ => none
    | some (.int _) => match x, y with
      | .int k a, .int k' b => bif kEq k k' then some (decide (a = b)) else none
      | _, _ => none
    | some .string => match x, y with
      | .string a, .string b => some (a == b)
      | _, _ => none
    | some (.struct _) => match x, y, T.e t with
      | .agg xs, .agg ys, some fs => eqFs T (eqV T d) xs.toList ys.toList fs.toList
      | _, _, _ => none
    | some (.slice _) => match x, y with
      | .slice none _ _, .slice b _ _ => some b.isNone
      | .slice (some _) _ _, .slice none _ _ => some false
      | _, _ => none
    | some (.pointer _) => match x, y with
      | .pointer none, .pointer b => some b.isNone
      | .pointer (some _), .pointer none => some false
      | _, _ => none
    | some (.func _ _ _) => match x, y with
      | .nilFunc, .nilFunc => some true
      | .nilFunc, .func _ _ _ => some false
      | .func _ _ _, .nilFunc => some false
      | _, _ => none
    | some (.map _ _) => match x, y with
      | .map none, .map b => some b.isNone
      | .map (some _), .map none => some false
      | _, _ => none
    | some (.interface _) => match x, y with
      | .nilIface, .nilIface => some true
      | .nilIface, .iface _ _ => some false
      | .iface _ _, .nilIface => some false
      | _, _ => none
    | _ => none

theorem eqFields_ok {P : Program} {T : TT P} {rec : Nat → Value → Value → Option Bool} {D : Nat} (hr : ∀ t x y b w, rec t x y = some b → (Op.equalIn D t x y).run P w = .ok b w) {xs ys : List Value} :
    ∀ (fs : List Field) (b : Bool), fs.all (fun f => f.name != "_") = true → eqFs T rec xs ys fs = some b → ∀ w, (Op.eqFields D xs.toArray ys.toArray fs).run P w = .ok b w
  | [], b, _, h, w => by simp only [eqFs, Option.some.injEq] at h; subst h; simp [Op.eqFields]
  | [f], b, hn, h, w => by
    simp only [List.all_cons, List.all_nil, Bool.and_true, bne_iff_ne] at hn
    unfold eqFs at h
    split at h
    · rename_i a c h1 h2
      cases b <;> simp [Op.eqFields, hn, partV_ok h1, partV_ok h2, hr _ _ _ _ _ h]
    · cases h
  | f :: g :: r, b, hn, h, w => by
    rw [List.all_cons, Bool.and_eq_true] at hn
    obtain ⟨hn1, hn2⟩ := hn
    simp only [bne_iff_ne] at hn1
    unfold eqFs at h
    split at h
    · rename_i a c h1 h2
      split at h
      · rename_i e e' h3 h4
        simp only [Option.some.injEq] at h
        subst h
        have ih := eqFields_ok hr (g :: r) e' hn2 h4 w
        rw [Op.eqFields, if_pos hn1]
        simp only [Sem.run_bind, partV_ok h1, partV_ok h2, Result.andThen_ok, hr _ _ _ _ _ h3]
        cases e
        · simp
        · simpa using ih
      · cases h
    · cases h

theorem TT.e_ok {P : Program} {T : TT P} {t : Nat} {fs : Array Field} (h : T.e t = some fs) :
    P.underlying t = some (.struct fs) ∧ P.eqGuardType P.depth t = false ∧ P.stoodInHeld t = false ∧ (fs.toList.all fun f => f.name != "_") = true := by
  obtain ⟨e, _, rfl, rfl⟩ := eqIn_ok _ _ _ h
  exact ⟨e.u, e.g, e.s, e.nm⟩

theorem eqV_ok {P : Program} {T : TT P} : ∀ (d D t : Nat) (x y : Value) (b : Bool), eqV T d t x y = some b → d ≤ D → ∀ w, (Op.equalIn D t x y).run P w = .ok b w
  | 0, _, _, _, _, _, h, _, _ => by cases h
  | d + 1, 0, _, _, _, _, _, hD, _ => by omega
  | d + 1, D + 1, t, x, y, b, h, hD, w => by
    unfold eqV at h
    split at h
    · rename_i hu
      split at h
      · simp only [Option.some.injEq] at h; subst h; exact run_equalIn_bool w D t _ _ (TT.u_ok hu)
      · cases h
    · rename_i k0 hu
      split at h
      · rename_i k a k' c
        cases hk : kEq k k' with
        | false => rw [hk] at h; cases h
        | true =>
          have := kEq_ok hk
          subst this
          rw [hk] at h
          simp only [cond_true, Option.some.injEq] at h
          subst h
          rw [run_equalIn_int w D t k k0 _ _ (TT.u_ok hu)]
          rfl
      · cases h
    · rename_i hu
      split at h
      · rename_i a c
        simp only [Option.some.injEq] at h; subst h
        rw [run_equalIn_string w D t _ _ (TT.u_ok hu), beq_toListBytes]
      · cases h
    · rename_i fs0 hu
      split at h
      · rename_i xs ys fs he
        obtain ⟨h1, h2, h3, h4⟩ := TT.e_ok he
        have e0 : P.fieldsOf t = fs := by simp [Program.fieldsOf, h1]
        have := run_equalIn_struct w D t xs ys (by rw [e0]; exact h1) h3
        rw [this, e0]
        exact eqFields_ok (fun t x y b w hh => eqV_ok d D t x y b hh (by omega) w) _ _ h4 h w
      · cases h
    · rename_i e hu
      split at h
      · simp only [Option.some.injEq] at h; subst h; simp [Op.equalIn, run_underlying (TT.u_ok hu)]
      · simp only [Option.some.injEq] at h; subst h; simp [Op.equalIn, run_underlying (TT.u_ok hu)]
      · cases h
    · rename_i e hu
      split at h
      · simp only [Option.some.injEq] at h; subst h; simp [Op.equalIn, run_underlying (TT.u_ok hu)]
      · simp only [Option.some.injEq] at h; subst h; simp [Op.equalIn, run_underlying (TT.u_ok hu)]
      · cases h
    · rename_i a1 a2 a3 hu
      split at h
      · simp only [Option.some.injEq] at h; subst h; simp [Op.equalIn, run_underlying (TT.u_ok hu)]
      · simp only [Option.some.injEq] at h; subst h; simp [Op.equalIn, run_underlying (TT.u_ok hu)]
      · simp only [Option.some.injEq] at h; subst h; simp [Op.equalIn, run_underlying (TT.u_ok hu)]
      · cases h
    · rename_i a1 a2 hu
      split at h
      · simp only [Option.some.injEq] at h; subst h; simp [Op.equalIn, run_underlying (TT.u_ok hu)]
      · simp only [Option.some.injEq] at h; subst h; simp [Op.equalIn, run_underlying (TT.u_ok hu)]
      · cases h
    · rename_i a1 hu
      split at h
      · simp only [Option.some.injEq] at h; subst h; simp [Op.equalIn, run_underlying (TT.u_ok hu)]
      · simp only [Option.some.injEq] at h; subst h; simp [Op.equalIn, run_underlying (TT.u_ok hu)]
      · simp only [Option.some.injEq] at h; subst h; simp [Op.equalIn, run_underlying (TT.u_ok hu)]
      · cases h
    · cases h

/-- Which values are compared by 'equal' without a further word; '==' of two nil interfaces is asked of the operands. -/
def eqOk {P : Program} (T : TT P) (t : Nat) : Value → Value → Bool
  | .agg _, .agg _ => (T.e t).isSome
  | .bool _, .bool _ => true
  | .slice .., .slice .. => true
  | .pointer _, .pointer _ => true
  | .nilFunc, .nilFunc => true
  | .nilFunc, .func .. => true
  | .func .., .nilFunc => true
  | .map _, .map _ => true
  | .nilIface, .iface .. => true
  | .iface .., .nilIface => true
  | _, _ => false
def isC : Operand → Bool
  | .const _ => true
  | _ => false

theorem run_eqs {P : Program} {T : TT P} {t : Nat} {x y : Value} {ox oy : Operand} {b : Bool} {d : Nat} (h : eqV T d t x y = some b) (hd : d ≤ 10000) (hk : eqOk T t x y = true ∨ (x = .nilIface ∧ y = .nilIface ∧ (isC ox || isC oy) = true)) (w : World) :
    (do eqGuard .eql t ox oy x y; binOp .eql t x y).run P w = .ok (.bool b) w ∧ (do eqGuard .neq t ox oy x y; binOp .neq t x y).run P w = .ok (.bool (!b)) w := by
  have hq := eqV_ok d 10000 t x y b h hd w
  rcases hk with hk | ⟨rfl, rfl, hc⟩
  · unfold eqOk at hk
    split at hk
    · rename_i xs ys
      cases he : T.e t with
      | none => rw [he] at hk; cases hk
      | some fs =>
        obtain ⟨_, h2, _, _⟩ := TT.e_ok he
        constructor <;> simp [run_eqGuard_agg w _ t ox oy xs ys h2, run_eql_struct, run_neq_struct, hq]
    · constructor <;> simp [eqGuard, binOp, Op.equal, Op.maxDepth, hq]
    · constructor <;> simp [eqGuard, binOp, Op.equal, Op.maxDepth, hq]
    · constructor <;> simp [eqGuard, binOp, Op.equal, Op.maxDepth, hq]
    · constructor <;> simp [eqGuard, binOp, Op.equal, Op.maxDepth, hq]
    · constructor <;> simp [eqGuard, binOp, Op.equal, Op.maxDepth, hq]
    · constructor <;> simp [eqGuard, binOp, Op.equal, Op.maxDepth, hq]
    · constructor <;> simp [eqGuard, binOp, Op.equal, Op.maxDepth, hq]
    · constructor <;> simp [eqGuard, binOp, Op.equal, Op.maxDepth, hq]
    · constructor <;> simp [eqGuard, binOp, Op.equal, Op.maxDepth, hq]
    · cases hk
  · have e : (match ox with | .const _ => true | _ => false) = isC ox := by cases ox <;> rfl
    cases ox <;> cases oy <;> simp [isC] at hc <;> constructor <;> simp [eqGuard, binOp, Op.equal, Op.maxDepth, hq]

section
variable {C : Cx} {L : Look} {σ : Heap} {g : Bool} {o : Oper}

theorem qt_eqs {t t' : TypeId} {x y : Operand} {gx gy : Bool} {a c : Value} {b : Bool} (ho : o.op = .binOp .eql t x y t') (hx : opnd L x = some (gx, a)) (hy : opnd L y = some (gy, c)) (hi : g = true → (gx && gy) = true)
    (hq : eqV C.T 30 t a c = some b) (hk : eqOk C.T t a c = true ∨ (a = .nilIface ∧ c = .nilIface ∧ (isC x || isC y) = true)) : Qt C L σ g o (.bool b) :=
  qt_val fun ac w hL _ hg => by
    have h := hi hg
    rw [Bool.and_eq_true] at h
    have := (run_eqs (P := C.P) (ox := x) (oy := y) hq (by omega) hk w).1
    simp only [execOp, ho, opnd_ev hL hx h.1, opnd_ev hL hy h.2]
    simp only [Sem.run_bind] at this ⊢
    rw [this]
    simp
theorem qt_nes {t t' : TypeId} {x y : Operand} {gx gy : Bool} {a c : Value} {b : Bool} (ho : o.op = .binOp .neq t x y t') (hx : opnd L x = some (gx, a)) (hy : opnd L y = some (gy, c)) (hi : g = true → (gx && gy) = true)
    (hq : eqV C.T 30 t a c = some b) (hk : eqOk C.T t a c = true ∨ (a = .nilIface ∧ c = .nilIface ∧ (isC x || isC y) = true)) : Qt C L σ g o (.bool (!b)) :=
  qt_val fun ac w hL _ hg => by
    have h := hi hg
    rw [Bool.and_eq_true] at h
    have := (run_eqs (P := C.P) (ox := x) (oy := y) hq (by omega) hk w).2
    simp only [execOp, ho, opnd_ev hL hx h.1, opnd_ev hL hy h.2]
    simp only [Sem.run_bind] at this ⊢
    rw [this]
    simp

/-! ### Elements -/
theorem qt_indexAddr_arr {t : TypeId} {x y : Operand} {gx gy : Bool} {b off len : Nat} {e : TypeId} {k : IntKind} {i : Int} {z : Value} {n m : Nat} (ho : o.op = .indexAddr t x y) (hx : opnd L x = some (gx, .pointer (some ⟨b, off, none⟩))) (hy : opnd L y = some (gy, .int k i)) (hi : g = true → (gx && gy) = true)
    (hu : C.T.u t = some (.array len e)) (hz : C.T.i e = some (z, n, m)) (hb : g = true → 0 ≤ i ∧ i < (len : Int)) : Qt C L σ g o (.pointer (some ⟨b, off + i.toNat * n, none⟩)) :=
  qt_val fun ac w hL _ hg => by
    have h := hi hg
    rw [Bool.and_eq_true] at h
    have hb' := hb hg
    simp [execOp, ho, opnd_ev hL hx h.1, opnd_ev hL hy h.2, Instr.indexAt, asIntOf, run_underlying (TT.u_ok hu), Instr.sureAddr, hb', run_sizeOf hz, Addr.add_lit]
theorem qt_indexAddr_slice {t : TypeId} {x y : Operand} {gx gy : Bool} {b off len cap : Nat} {e : TypeId} {k : IntKind} {i : Int} {z : Value} {n m : Nat} (ho : o.op = .indexAddr t x y) (hx : opnd L x = some (gx, .slice (some ⟨b, off, none⟩) len cap)) (hy : opnd L y = some (gy, .int k i)) (hi : g = true → (gx && gy) = true)
    (hu : C.T.u t = some (.slice e)) (hz : C.T.i e = some (z, n, m)) (hb : g = true → 0 ≤ i ∧ i < (len : Int)) : Qt C L σ g o (.pointer (some ⟨b, off + i.toNat * n, none⟩)) :=
  qt_val fun ac w hL _ hg => by
    have h := hi hg
    rw [Bool.and_eq_true] at h
    have hb' := hb hg
    simp [execOp, ho, opnd_ev hL hx h.1, opnd_ev hL hy h.2, Instr.indexAt, asIntOf, run_underlying (TT.u_ok hu), hb', run_sizeOf hz, Addr.add_lit]
theorem qt_remN {t t' : TypeId} {x y : Operand} {gx gy : Bool} {k : IntKind} {a b : Int} (ho : o.op = .binOp .rem t x y t')
    (hx : opnd L x = some (gx, .int k a)) (hy : opnd L y = some (gy, .int k b)) (hi : g = true → (gx && gy) = true) (hn : g = true → 0 ≤ a ∧ 0 < b) : Qt C L σ g o (.int k (a % b)) :=
  fun ac w hL hO hg => by
    have := qt_rem (C := C) (σ := σ) ho hx hy hi (fun hg => by have := hn hg; omega) ac w hL hO hg
    rw [Int.tmod_eq_emod_of_nonneg (hn hg).1] at this
    exact this
theorem qt_quoN {t t' : TypeId} {x y : Operand} {gx gy : Bool} {a b : Int} (ho : o.op = .binOp .quo t x y t')
    (hx : opnd L x = some (gx, .int .i64 a)) (hy : opnd L y = some (gy, .int .i64 b)) (hi : g = true → (gx && gy) = true) (hn : g = true → 0 ≤ a ∧ a ≤ 9223372036854775807 ∧ 0 < b) : Qt C L σ g o (.int .i64 (a / b)) :=
  fun ac w hL hO hg => by
    have := qt_quo (C := C) (σ := σ) ho hx hy hi (fun hg => by have := hn hg; omega) ac w hL hO hg
    obtain ⟨h1, h2, h3⟩ := hn hg
    have e1 := Int.ediv_nonneg h1 (Int.le_of_lt h3)
    have e2 := Int.ediv_le_self b h1
    rw [Int.tdiv_eq_ediv_of_nonneg h1, wrap_i64 (by omega)] at this
    exact this
theorem mulb {a b A B : Int} (ha : 0 ≤ a ∧ a ≤ A) (hb : 0 ≤ b ∧ b ≤ B) : 0 ≤ a * b ∧ a * b ≤ A * B :=
  ⟨Int.mul_nonneg ha.1 hb.1, Int.mul_le_mul ha.2 hb.2 hb.1 (Int.le_trans ha.1 ha.2)⟩
end

/-! ### Structs and arrays, built -/
def lenB : Nat → List Value → Bool
  | 0, [] => true
  | n + 1, _ :: r => lenB n r
  | _, _ => false
theorem lenB_ok : ∀ {n : Nat} {l : List Value}, lenB n l = true → l.length = n
  | 0, [], _ => rfl
  | n + 1, _ :: r, h => by rw [List.length_cons, lenB_ok (n := n) h]
  | 0, _ :: _, h => by cases h
  | n + 1, [], h => by cases h
def leL : Nat → List Value → Bool
  | 0, _ => true
  | n + 1, _ :: r => leL n r
  | _ + 1, [] => false
theorem leL_ok : ∀ {n : Nat} {l : List Value}, leL n l = true → n ≤ l.length
  | 0, _, _ => Nat.zero_le _
  | n + 1, _ :: r, h => by rw [List.length_cons]; have := leL_ok (n := n) h; omega
  | n + 1, [], h => by cases h
def fillL (place : Nat → Option (Nat × Nat)) : List Value → List (Nat × Value) → Option (List Value)
  | cs, [] => some cs
  | cs, (i, v) :: r => match place i with
    | some (off, n) => match vcells v with
      | some vs => match lenB n vs, leL off cs with
        | true, true => match writeN off vs cs with
          | some cs' => fillL place cs' r
          | none => none
        | _, _ => none
      | none => none
    | none => none
theorem foldl_write : ∀ (vs : List Value) (off k : Nat) (cs : List Value), off + k + vs.length ≤ cs.length →
    ((vs.zipIdx k).foldl (fun (cs : Array Value) (p : Value × Nat) => cs.setIfInBounds (off + p.2) p.1) cs.toArray) = (cs.take (off + k) ++ vs ++ cs.drop (off + k + vs.length)).toArray
  | [], off, k, cs, h => by simp
  | v :: r, off, k, cs, h => by
    simp only [List.length_cons] at h
    rw [List.zipIdx_cons, List.foldl_cons]
    have e0 : cs.toArray.setIfInBounds (off + k) v = (cs.set (off + k) v).toArray := by simp
    simp only [e0]
    rw [foldl_write r off (k + 1) (cs.set (off + k) v) (by simp; omega)]
    have e1 : off + (k + 1) = off + k + 1 := by omega
    rw [e1, wr_step cs r v (off + k) (by omega), List.length_cons]
theorem fill_ok (place : Nat → Option (Nat × Nat)) : ∀ (ps : List (Nat × Value)) (cs cs' : List Value), fillL place cs ps = some cs' → Instr.fill place cs.toArray ps = some cs'.toArray
  | [], cs, cs', h => by simp only [fillL, Option.some.injEq] at h; subst h; rfl
  | (i, v) :: r, cs, cs', h => by
    unfold fillL at h
    split at h
    · rename_i off n hp
      split at h
      · rename_i vs hv
        split at h
        · rename_i h1 h2
          split at h
          · rename_i cs1 hw
            obtain ⟨w1, w2⟩ := writeN_ok (leL_ok h2) hw
            have hl := lenB_ok h1
            have ih := fill_ok place r cs1 cs' h
            unfold Instr.fill
            have hc : ¬ ((v.cells.size ≠ n || decide (off + v.cells.size > cs.toArray.size)) = true) := by
              rw [vcells_ok hv]; simp; omega
            simp only [hp, hc]
            rw [if_neg (by simp), vcells_ok hv]
            have := foldl_write vs off 0 cs (by omega)
            simp only [Nat.add_zero] at this
            rw [← w2] at this
            have e2 : (vs.toArray.zipIdx.foldl (fun (cs : Array Value) (x : Value × Nat) => match x with | (c, j) => cs.setIfInBounds (off + j) c) cs.toArray) = cs1.toArray := by
              rw [← Array.foldl_toList, Array.toList_zipIdx]; exact this
            rw [e2]
            exact ih
          · cases h
        · cases h
      · cases h
    · cases h

def placesT {P : Program} (T : TT P) : List Field → Option (List (Nat × Nat))
  | [] => some []
  | f :: r => match T.i f.type with
    | some (_, n, _) => match placesT T r with
      | some ps => some ((f.offset, n) :: ps)
      | none => none
    | none => none
theorem placesT_ok {P : Program} {T : TT P} : ∀ {fs : List Field} {ps : List (Nat × Nat)}, placesT T fs = some ps → fs.mapM (fun f => (P.info? f.type).map fun i => (f.offset, i.size)) = some ps
  | [], ps, h => by simp only [placesT, Option.some.injEq] at h; subst h; rfl
  | f :: r, ps, h => by
    unfold placesT at h
    split at h
    · rename_i z n m hz
      split at h
      · rename_i ps' hp
        simp only [Option.some.injEq] at h
        subst h
        obtain ⟨i, h1, _, h3, _⟩ := TT.i_ok hz
        simp [List.mapM_cons, h1, placesT_ok hp, h3]
      · cases h
    · cases h
def builtT {P : Program} (T : TT P) (t : Nat) (ps : List (Nat × Value)) : Option (List Value) :=
  match T.u t, T.i t with
  | some (.struct fs), some (z, _, _) => match vcells z, placesT T fs.toList with
    | some zs, some pl => fillL (nth pl) zs ps
    | _, _ => none
  | some (.array _ e), some (z, _, _) => match vcells z, T.i e with
    | some zs, some (_, n, _) => fillL (fun i => some (i * n, n)) zs ps
    | _, _ => none
  | _, _ => none
theorem builtT_ok {P : Program} {T : TT P} {t : Nat} {ps : List (Nat × Value)} {cs : List Value} (h : builtT T t ps = some cs) : P.built t ps = some cs.toArray := by
  unfold builtT at h
  split at h
  · rename_i fs z n m hu hz
    split at h
    · rename_i zs pl hv hp
      obtain ⟨i, h1, h2, _, _⟩ := TT.i_ok hz
      have h3 := placesT_ok hp
      have h4 := fill_ok _ _ _ _ h
      have e : (fun i => nth pl i) = fun i => pl.toArray[i]? := by funext i; rw [nth_eq]; simp
      simp only [Program.built, h1, TT.u_ok hu, h2, h3, vcells_ok hv]
      rw [← h4, ← e]
    · cases h
  · rename_i len e z n m hu hz
    split at h
    · rename_i zs z' n' m' hv hz'
      obtain ⟨i, h1, h2, _, _⟩ := TT.i_ok hz
      obtain ⟨i', h1', _, h3', _⟩ := TT.i_ok hz'
      have h4 := fill_ok _ _ _ _ h
      simp only [Program.built, h1, TT.u_ok hu, h2, h1', vcells_ok hv, h3']
      exact h4
    · cases h
  · cases h

def evParts (L : Look) : List (Nat × Operand) → Option (List Bool × List (Nat × Value))
  | [] => some ([], [])
  | (i, x) :: r => match opnd L x, evParts L r with
    | some (g, v), some (gs, vs) => some (g :: gs, (i, v) :: vs)
    | _, _ => none
theorem evParts_ok {L : Look} {a : Act} (h : LOk L a) : ∀ {ps : List (Nat × Operand)} {gs : List Bool} {vs : List (Nat × Value)}, evParts L ps = some (gs, vs) → gs.all id = true → (ps.map fun p => (p.1, a.eval p.2)) = vs
  | [], gs, vs, hx, _ => by simp only [evParts, Option.some.injEq, Prod.mk.injEq] at hx; simp [← hx.2]
  | (i, x) :: r, gs, vs, hx, hg => by
    unfold evParts at hx
    split at hx
    · rename_i g v gs' vs' h1 h2
      simp only [Option.some.injEq, Prod.mk.injEq] at hx
      obtain ⟨rfl, rfl⟩ := hx
      rw [List.all_cons, Bool.and_eq_true] at hg
      rw [List.map_cons, evParts_ok h h2 hg.2, opnd_ev h h1 hg.1]
    · cases hx
section
variable {C : Cx} {L : Look} {σ : Heap} {g : Bool} {o : Oper}
theorem qt_build {t : TypeId} {parts : Array (Nat × Operand)} {gs : List Bool} {vs : List (Nat × Value)} {cs : List Value} (ho : o.op = .build t parts) (hx : evParts L parts.toList = some (gs, vs)) (hi : g = true → gs.all id = true)
    (hb : builtT C.T t vs = some cs) : Qt C L σ g o (.agg cs.toArray) :=
  qt_val fun ac w hL _ hg => by
    have e1 : (parts.map fun (p : Nat × Operand) => (p.1, ac.eval p.2)).toList = vs := by rw [Array.toList_map]; exact evParts_ok hL hx (hi hg)
    have := run_build w t (parts.map fun (p : Nat × Operand) => (p.1, ac.eval p.2)) cs.toArray (by rw [e1]; exact builtT_ok hb)
    simp only [execOp, ho]
    simp only [Sem.run_bind, this, Result.andThen_ok, Sem.run_pure]

theorem ResVs.nil' {fr : Fr} : ResVs C fr σ [] [] := trivial
theorem ResVs.cons' {fr : Fr} {r : ResultVar} {rs : List ResultVar} {v : Value} {vs : List Value} (h : ResV C fr σ r v) (t : ResVs C fr σ rs vs) : ResVs C fr σ (r :: rs) (v :: vs) := ⟨h, t⟩
theorem ResV.tmp' {fr : Fr} {t : Nat} {v : Value} (h : look fr t = some (true, v)) : ResV C fr σ (.tmp t) v := h
end
end Go.K

/- The program logic, fourth part: the plain operations, reckoned. -/
import Derived.Test.YtcnebanpnnblbaaDoorK3
namespace Go.K
open Go Go.RowKit

def kEq : IntKind → IntKind → Bool
  | .i8, .i8 | .i16, .i16 | .i32, .i32 | .i64, .i64 | .u8, .u8 | .u16, .u16 | .u32, .u32 | .u64, .u64 => true
  | _, _ => false
theorem kEq_ok {k k' : IntKind} (h : kEq k k' = true) : k = k' := by cases k <;> cases k' <;> first | rfl | cases h

def evBin (op : BinOp) : Option (Bool × Value) → Option (Bool × Value) → Option (List Bool × Value)
  | some (g, .int k a), some (g', .int k' b) => bif kEq k k' then (match bval op k a b with
    | some v => some ([g, g'], v)
    | none => none) else none
  | _, _ => none
def evMove : Option (Bool × Value) → Option (List Bool × Value)
  | some (g, v) => some ([g], v)
  | none => none
def evUn (op : UnOp) : Option (Bool × Value) → Option (List Bool × Value)
  | some (g, .bool b) => match op with
    | .not => some ([g], .bool (not b))
    | _ => none
  | some (g, .int k a) => match op with
    | .neg => some ([g], .int k (k.wrap (-a)))
    | _ => none
  | _ => none
def evExtract (i : Nat) : Option (Bool × Value) → Option (List Bool × Value)
  | some (g, .tuple vs) => match nth vs.toList i with
    | some v => some ([g], v)
    | none => none
  | _ => none
def evFieldAddr {P : Program} (T : TT P) (s i : Nat) : Option (Bool × Value) → Option (List Bool × Value)
  | some (g, .pointer (some ⟨b, off, none⟩)) => match T.u s with
    | some (.struct fs) => match nth fs.toList i with
      | some ⟨_, ty, ofs, _, _, _, _⟩ => match T.i ty with
        | some (_, _ + 1, _) => some ([g], .pointer (some ⟨b, off + ofs, none⟩))
        | _ => none
      | none => none
    | _ => none
  | _ => none
def evField {P : Program} (T : TT P) (s i : Nat) : Option (Bool × Value) → Option (List Bool × Value)
  | some (g, .agg cs) => match T.u s with
    | some (.struct fs) => match nth fs.toList i with
      | some fd => match T.u fd.type, T.i fd.type with
        | some d, some (_, n, _) => match aggD d with
          | true => match cutN fd.offset n cs.toList with
            | some vs => some ([g], .agg vs.toArray)
            | none => none
          | false => match nth cs.toList fd.offset with
            | some v => some ([g], v)
            | none => none
        | _, _ => none
      | none => none
    | _ => none
  | _ => none
def evConv {P : Program} (T : TT P) (s d : Nat) : Option (Bool × Value) → Option (List Bool × Value)
  | some (g, .int _ a) => match T.u s, T.u d with
    | some _, some (.int k) => some ([g], .int k (k.wrap a))
    | _, _ => none
  | _ => none
def evIface {P : Program} (T : TT P) (t : Nat) : Option (Bool × Value) → Option (List Bool × Value)
  | some (g, v) => match T.u t with
    | some (.interface _) => none
    | some _ => some ([g], .iface t v)
    | none => none
  | none => none
def evFunc (fn : Fn) : Option (List Bool × List Value) → Option (List Bool × List Value) → Option (List Bool × Value)
  | some (gs, us), some (hs, vs) => some (gs ++ hs, .func fn us.toArray vs.toArray)
  | _, _ => none
def evLen {P : Program} (T : TT P) (t : Nat) : Option (Bool × Value) → Option (List Bool × Value)
  | some (g, .slice _ n _) => match T.u t with
    | some (.slice _) => some ([g], .int .i64 n)
    | _ => none
  | some (g, .string s) => match T.u t with
    | some .string => some ([g], .int .i64 s.size)
    | _ => none
  | _ => none
def evMax : Option (Bool × Value) → Option (Bool × Value) → Option (List Bool × Value)
  | some (g, .int k a), some (g', .int _ b) => some ([g, g'], .int k (max a b))
  | _, _ => none
def evMin : Option (Bool × Value) → Option (Bool × Value) → Option (List Bool × Value)
  | some (g, .int k a), some (g', .int _ b) => some ([g, g'], .int k (min a b))
  | _, _ => none
def evNil : Option (Bool × Value) → Option (List Bool × Value)
  | some (g, .pointer (some p)) => some ([g], .pointer (some p))
  | _ => none
def evEqB {P : Program} (T : TT P) (t : Nat) : Option (Bool × Value) → Option (Bool × Value) → Option (List Bool × Value)
  | some (g, .bool a), some (g', .bool b) => match T.u t with
    | some .bool => some ([g, g'], .bool (a == b))
    | _ => none
  | _, _ => none
def evNeB {P : Program} (T : TT P) (t : Nat) : Option (Bool × Value) → Option (Bool × Value) → Option (List Bool × Value)
  | some (g, .bool a), some (g', .bool b) => match T.u t with
    | some .bool => some ([g, g'], .bool (a != b))
    | _ => none
  | _, _ => none

def evop {P : Program} (T : TT P) (L : Look) (o : Oper) : Option (List Bool × Value) :=
  match o.op with
  | .move x => evMove (opnd L x)
  | .assign x => evMove (opnd L x)
  | .binOp op t x y _ =>
    match evBin op (opnd L x) (opnd L y) with
    | some r => some r
    | none => match op with
      | .eql => evEqB T t (opnd L x) (opnd L y)
      | .neq => evNeB T t (opnd L x) (opnd L y)
      | _ => none
  | .unOp op _ x => evUn op (opnd L x)
  | .extract x i => evExtract i (opnd L x)
  | .fieldAddr s x i => evFieldAddr T s i (opnd L x)
  | .field s x i => evField T s i (opnd L x)
  | .convert s d x => evConv T s d (opnd L x)
  | .makeInterface t x => evIface T t (opnd L x)
  | .makeFunc fn xs ys => evFunc fn (opnds L xs.toList) (opnds L ys.toList)
  | .nilCheck x => evNil (opnd L x)
  | .call c => match c.callee, c.args.toList, c.argTypes.toList with
    | .builtin .len, [x], [t] => evLen T t (opnd L x)
    | .builtin .max, [x, y], _ => evMax (opnd L x) (opnd L y)
    | .builtin .min, [x, y], _ => evMin (opnd L x) (opnd L y)
    | _, _, _ => none
  | _ => none

theorem all1 {g g' : Bool} (h : g = true → ([g'] : List Bool).all id = true) : g = true → g' = true := fun e => by simpa using h e
theorem all2 {g g1 g2 : Bool} (h : g = true → ([g1, g2] : List Bool).all id = true) : g = true → (g1 && g2) = true := fun e => by simpa using h e

section
variable {C : Cx} {L : Look} {σ : Heap} {g : Bool} {o : Oper}

theorem qt_ev {gs : List Bool} {v : Value} (h : evop C.T L o = some (gs, v)) (hi : g = true → gs.all id = true) : Qt C L σ g o v := by
  unfold evop at h
  split at h
  · rename_i x ho
    unfold evMove at h
    split at h
    · rename_i g' v' hx; simp only [Option.some.injEq, Prod.mk.injEq] at h; obtain ⟨rfl, rfl⟩ := h; exact qt_move ho hx (all1 hi)
    · cases h
  · rename_i x ho
    unfold evMove at h
    split at h
    · rename_i g' v' hx; simp only [Option.some.injEq, Prod.mk.injEq] at h; obtain ⟨rfl, rfl⟩ := h; exact qt_assign ho hx (all1 hi)
    · cases h
  · rename_i op t x y t' ho
    split at h
    · rename_i r hr
      rw [h] at hr
      unfold evBin at hr
      split at hr
      · rename_i g1 k a g2 k' b hx hy
        cases hk : kEq k k' with
        | false => rw [hk] at hr; cases hr
        | true =>
          rw [hk] at hr
          have := kEq_ok hk
          subst this
          simp only [cond_true] at hr
          cases hb : bval op k a b with
          | none => rw [hb] at hr; cases hr
          | some v' => rw [hb] at hr; simp only [Option.some.injEq, Prod.mk.injEq] at hr; obtain ⟨rfl, rfl⟩ := hr; exact qt_bin ho hx hy (all2 hi) hb
      · cases hr
    · rename_i hr
      clear hr
      split at h
      · unfold evEqB at h
        split at h
        · rename_i g1 a g2 b hx hy
          split at h
          · rename_i hu; simp only [Option.some.injEq, Prod.mk.injEq] at h; obtain ⟨rfl, rfl⟩ := h; exact qt_eq_bool ho hu hx hy (all2 hi)
          · cases h
        · cases h
      · unfold evNeB at h
        split at h
        · rename_i g1 a g2 b hx hy
          split at h
          · rename_i hu; simp only [Option.some.injEq, Prod.mk.injEq] at h; obtain ⟨rfl, rfl⟩ := h; exact qt_ne_bool ho hu hx hy (all2 hi)
          · cases h
        · cases h
      · cases h
  · rename_i op t x ho
    unfold evUn at h
    split at h
    · rename_i g' b hx
      split at h
      · simp only [Option.some.injEq, Prod.mk.injEq] at h; obtain ⟨rfl, rfl⟩ := h; exact qt_not ho hx (all1 hi)
      · cases h
    · rename_i g' k a hx
      split at h
      · simp only [Option.some.injEq, Prod.mk.injEq] at h; obtain ⟨rfl, rfl⟩ := h; exact qt_neg ho hx (all1 hi)
      · cases h
    · cases h
  · rename_i x i ho
    unfold evExtract at h
    split at h
    · rename_i g' vs hx
      split at h
      · rename_i v' hv; simp only [Option.some.injEq, Prod.mk.injEq] at h; obtain ⟨rfl, rfl⟩ := h; exact qt_extract (vs := vs.toList) ho (by simpa using hx) (all1 hi) (by rw [← nth_eq]; exact hv)
      · cases h
    · cases h
  · rename_i s x i ho
    unfold evFieldAddr at h
    split at h
    · rename_i g' b off hx
      split at h
      · rename_i fs hu
        split at h
        · rename_i nm ty ofs em tg pp bo hf
          split at h
          · rename_i z n m hz; simp only [Option.some.injEq, Prod.mk.injEq] at h; obtain ⟨rfl, rfl⟩ := h; exact qt_fieldAddr (fd := ⟨nm, ty, ofs, em, tg, pp, bo⟩) ho hx (all1 hi) hu (by rw [nth_eq] at hf; simpa using hf) hz
          · cases h
        · cases h
      · cases h
    · cases h
  · rename_i s x i ho
    unfold evField at h
    split at h
    · rename_i g' cs hx
      split at h
      · rename_i fs hu
        split at h
        · rename_i fd hf
          have hf' : fs[i]? = some fd := by rw [nth_eq] at hf; simpa using hf
          split at h
          · rename_i d z n m hd hz
            split at h
            · rename_i ha
              split at h
              · rename_i vs hv; simp only [Option.some.injEq, Prod.mk.injEq] at h; obtain ⟨rfl, rfl⟩ := h; exact qt_fieldN (cs := cs.toList) ho (by simpa using hx) (all1 hi) hu hf' hd hz ha hv
              · cases h
            · rename_i ha
              split at h
              · rename_i v' hv; simp only [Option.some.injEq, Prod.mk.injEq] at h; obtain ⟨rfl, rfl⟩ := h; exact qt_field (cs := cs.toList) ho (by simpa using hx) (all1 hi) hu hf' hd hz ha (by rw [← nth_eq]; exact hv)
              · cases h
          · cases h
        · cases h
      · cases h
    · cases h
  · rename_i s d x ho
    unfold evConv at h
    split at h
    · rename_i g' k a hx
      split at h
      · rename_i ds k' hs hd; simp only [Option.some.injEq, Prod.mk.injEq] at h; obtain ⟨rfl, rfl⟩ := h; exact qt_conv_int ho hx (all1 hi) hs hd
      · cases h
    · cases h
  · rename_i t x ho
    unfold evIface at h
    split at h
    · rename_i g' v' hx
      split at h
      · cases h
      · rename_i d hn hu; simp only [Option.some.injEq, Prod.mk.injEq] at h; obtain ⟨rfl, rfl⟩ := h; exact qt_makeInterface ho hx (all1 hi) hu (by cases d <;> first | rfl | exact absurd rfl (hn _))
      · cases h
    · cases h
  · rename_i fn xs ys ho
    unfold evFunc at h
    split at h
    · rename_i gs' us hs' vs hx hy
      simp only [Option.some.injEq, Prod.mk.injEq] at h
      obtain ⟨rfl, rfl⟩ := h
      refine qt_makeFunc ho hx hy (fun e => ?_) (fun e => ?_)
      · have := hi e; rw [List.all_append, Bool.and_eq_true] at this; exact this.1
      · have := hi e; rw [List.all_append, Bool.and_eq_true] at this; exact this.2
    · cases h
  · rename_i x ho
    unfold evNil at h
    split at h
    · rename_i g' p hx; simp only [Option.some.injEq, Prod.mk.injEq] at h; obtain ⟨rfl, rfl⟩ := h; exact qt_nilCheck_ptr ho hx (all1 hi)
    · cases h
  · rename_i c ho
    obtain ⟨callee, args, ts⟩ := c
    simp only at h
    split at h
    · rename_i x t ha ht
      have ha' : args = #[x] := by apply Array.ext'; exact ha
      have ht' : ts = #[t] := by apply Array.ext'; exact ht
      subst ha' ht'
      unfold evLen at h
      split at h
      · rename_i g' p n cp hx
        split at h
        · rename_i e hu; simp only [Option.some.injEq, Prod.mk.injEq] at h; obtain ⟨rfl, rfl⟩ := h; exact qt_len_slice ho hx (all1 hi) hu
        · cases h
      · rename_i g' s hx
        split at h
        · rename_i hu; simp only [Option.some.injEq, Prod.mk.injEq] at h; obtain ⟨rfl, rfl⟩ := h; exact qt_len_string ho hx (all1 hi) hu
        · cases h
      · cases h
    · rename_i x y ha
      have ha' : args = #[x, y] := by apply Array.ext'; exact ha
      subst ha'
      unfold evMax at h
      split at h
      · rename_i g1 k a g2 k' b hx hy; simp only [Option.some.injEq, Prod.mk.injEq] at h; obtain ⟨rfl, rfl⟩ := h; exact qt_max ho hx hy (all2 hi)
      · cases h
    · rename_i x y ha
      have ha' : args = #[x, y] := by apply Array.ext'; exact ha
      subst ha'
      unfold evMin at h
      split at h
      · rename_i g1 k a g2 k' b hx hy; simp only [Option.some.injEq, Prod.mk.injEq] at h; obtain ⟨rfl, rfl⟩ := h; exact qt_min ho hx hy (all2 hi)
      · cases h
    · cases h
  · cases h
end
end Go.K

/- Errors: texts joined, dynamic types asked, methods called through an interface, functions without a body; Texts compared; Texts read byte by byte. -/
import Derived.Test.YtcnebanpnnblbaaDoorK18
import Derived.Laws.Externs
namespace Go.K
open Go Go.RowKit

section
variable {C : Cx} {L : Look} {σ : Heap} {g : Bool} {o : Oper}

theorem qt_strcat {t t' : TypeId} {x y : Operand} {gx gy : Bool} {a b : ByteArray} (ho : o.op = .binOp .add t x y t') (hx : opnd L x = some (gx, .string a)) (hy : opnd L y = some (gy, .string b)) (hi : g = true → (gx && gy) = true)
    (hs : g = true → a.size + b.size ≤ 4611686018427387904) : Qt C L σ g o (.string (a ++ b)) :=
  qt_val fun ac w hL _ hg => by
    have h := hi hg
    rw [Bool.and_eq_true] at h
    have h2 := hs hg
    have hm : ¬ ((a.size + b.size : Nat) : Int) > IntKind.i64.max := by
      have : IntKind.i64.max = 9223372036854775807 := by decide
      omega
    have e : (Op.stringOp .add a b).run C.P w = .ok (.string (a ++ b)) w := by
      unfold Op.stringOp
      dsimp only
      rw [if_neg hm]; rfl
    have e1 : (eqGuard .add t x y (.string a) (.string b)).run C.P w = .ok () w := rfl
    have e2 : binOp .add t (.string a) (.string b) = Op.stringOp .add a b := rfl
    simp only [execOp, ho, opnd_ev hL hx h.1, opnd_ev hL hy h.2, Sem.run_bind, e1, Result.andThen_ok, e2, e, Sem.run_pure]

theorem qt_tassert {x : Operand} {xt t : TypeId} {ok gx : Bool} {v u : Value} (ho : o.op = .typeAssert x xt t ok) (hx : opnd L x = some (gx, v)) (hi : g = true → gx = true)
    (hf : g = true → ∀ w, (Instr.typeAssert v xt t ok).run C.P w = .ok u w) : Qt C L σ g o u :=
  qt_val fun ac w hL _ hg => by
    simp only [execOp, ho, opnd_ev hL hx (hi hg), Sem.run_bind, hf hg w, Result.andThen_ok, Sem.run_pure]

/-- A piece of a text. -/
theorem qt_sliceS {t : TypeId} {x lo hi' : Operand} {gx gl gh : Bool} {s : ByteArray} {k k' : IntKind} {a c : Int} (ho : o.op = .slice t x (some lo) (some hi') none) (hx : opnd L x = some (gx, .string s)) (hl : opnd L lo = some (gl, .int k a)) (hh : opnd L hi' = some (gh, .int k' c))
    (hi : g = true → (gx && (gl && gh)) = true) (hu : C.T.u t = some .string) (hb : g = true → 0 ≤ a ∧ a ≤ c ∧ c ≤ (s.size : Int)) : Qt C L σ g o (.string (s.extract a.toNat c.toNat)) :=
  qt_val fun ac w hL hO hg => by
    have h := hi hg
    rw [Bool.and_eq_true, Bool.and_eq_true] at h
    obtain ⟨h1, h2, h3⟩ := hb hg
    have e1 : ac.eval x = .string s := opnd_ev hL hx h.1
    have e2 : ac.eval lo = .int k a := opnd_ev hL hl h.2.1
    have e3 : ac.eval hi' = .int k' c := opnd_ev hL hh h.2.2
    have hc : 0 ≤ c ∧ c ≤ (s.size : Int) := ⟨by omega, h3⟩
    have ha : 0 ≤ a ∧ a ≤ (c.toNat : Int) := ⟨h1, by omega⟩
    simp only [execOp, ho, Option.map_some, Option.map_none, e1, e2, e3, Instr.sliceAt, Instr.slice, Instr.sliceBounds, Instr.sliceBound, Sem.run_bind, run_underlying (TT.u_ok hu), Result.andThen_ok, Option.isSome_none, asIntOf, Sem.run_pure]
    simp [hc, ha]
    intro hx; omega
/-- What asking a value for a type yields. -/
structure TAs (P : Program) (v : Value) (xt t : TypeId) (u : Value) : Prop where
  run : ∀ w, (Instr.typeAssert v xt t true).run P w = .ok u w
theorem qt_ta {x : Operand} {xt t : TypeId} {gx : Bool} {v u : Value} (ho : o.op = .typeAssert x xt t true) (hx : opnd L x = some (gx, v)) (hi : g = true → gx = true)
    (hf : TAs C.P v xt t u) : Qt C L σ g o u := qt_tassert ho hx hi (fun _ => hf.run)
/-- The method that a value of a dynamic type has. -/
structure Meth (P : Program) (t : TypeId) (v : Value) (name : String) (f : FuncId) (u : Value) : Prop where
  run : ∀ w, (method (P.types.size + Made.depth) t v name).run P w = .ok (f, u) w
theorem run_inv {P : Program} {w : World} {ac : Act} {x : Operand} {t : TypeId} {v u : Value} {name : String} {f : FuncId} {args : Array Operand} {ts : Array TypeId} {vs : List Value} {o : Oper} (hm : Meth P t v name f u)
    (ho : o.op = .call ⟨.invoke x name, args, ts⟩) (hx : ac.eval x = .iface t v) (ha : args.toList.map ac.eval = vs) : (execOp ac.eval o).run P w = (callFunc f (#[u] ++ vs.toArray)).run P w := by
  have e1 : args.map ac.eval = vs.toArray := by apply Array.ext'; rw [← ha]; simp
  have e2 : (#[Value.iface t v] ++ vs.toArray)[0]? = some (Value.iface t v) := by simp
  have e3 : (#[Value.iface t v] ++ vs.toArray).extract 1 (#[Value.iface t v] ++ vs.toArray).size = vs.toArray := by
    apply Array.ext'; simp
  have hm' := hm.run w
  have e4 : (program).run P w = .ok P w := rfl
  simp only [execOp, ho, resolve, e1, hx, Sem.run_bind, Sem.run_pure, Result.andThen_ok, invoke, e2, e3, callMethod, e4, hm']
theorem qt_invX {x : Operand} {t : TypeId} {v u r : Value} {name : String} {f : FuncId} {args : Array Operand} {ts : Array TypeId} {gx : Bool} {gs : List Bool} {vs : List Value} (ho : o.op = .call ⟨.invoke x name, args, ts⟩) (hx : opnd L x = some (gx, .iface t v))
    (ha : opnds L args.toList = some (gs, vs)) (hi : g = true → (gx && gs.all id) = true) (hm : Meth C.P t v name f u) (hf : ∀ w, (callFunc f (#[u] ++ vs.toArray)).run C.P w = .ok (.value r) w) : Qt C L σ g o r :=
  qt_val fun ac w hL _ hg => by
    have h := hi hg
    rw [Bool.and_eq_true] at h
    rw [run_inv hm ho (opnd_ev hL hx h.1) (opnds_ok hL ha h.2), hf w]
theorem qt_invQ {x : Operand} {t : TypeId} {v u r : Value} {name : String} {f : FuncId} {args : Array Operand} {ts : Array TypeId} {gx : Bool} {gs : List Bool} {vs : List Value} (ho : o.op = .call ⟨.invoke x name, args, ts⟩) (hx : opnd L x = some (gx, .iface t v))
    (ha : opnds L args.toList = some (gs, vs)) (hi : g = true → (gx && gs.all id) = true) (hm : Meth C.P t v name f u) (hc : g = true → Tr C.P f (u :: vs) C.E.β σ (fun z s => z = r ∧ s = σ)) : Qt C L σ g o r := fun a w hL hO hg => by
  have h := hi hg
  rw [Bool.and_eq_true] at h
  have hT := hc hg
  refine .inr ⟨f, (u :: vs).toArray, ?_, ?_⟩
  · rw [run_inv hm ho (opnd_ev hL hx h.1) (opnds_ok hL ha h.2), run_enter hT.1]
    simp
  exact (hT.2 w (fun b o hb => hO.ro hb) hO.has).mono fun e w' ⟨z, s, h1, ⟨h2, h3⟩, h4⟩ => by
    subst h2 h3
    exact ⟨h1, h4.quiet hO.has⟩
theorem qt_extR {f : FuncId} {r : Value} {args : Array Operand} {ts : Array TypeId} {gs : List Bool} {vs : List Value} (ho : o.op = .call ⟨.value (.func f), args, ts⟩)
    (ha : opnds L args.toList = some (gs, vs)) (hi : g = true → gs.all id = true) (hf : g = true → ∀ w, Own C.E σ w → (callFunc f vs.toArray).run C.P w = .ok (.value r) w) : Qt C L σ g o r :=
  qt_val fun ac w hL hO hg => by
    have e1 : args.map ac.eval = vs.toArray := by apply Array.ext'; rw [← opnds_ok hL ha (hi hg)]; simp
    simp only [execOp, ho, resolve, e1, Act.eval, Deferred.ofValue, Sem.run_bind, Sem.run_pure, Result.andThen_ok, invoke]
    simp [hf hg w hO]
/-- A function without a body that yields a value, whatever the world. -/
structure XV (P : Program) (f : FuncId) (args : List Value) (v : Value) : Prop where
  run : ∀ w, (callFunc f args.toArray).run P w = .ok (.value v) w
/-- One that lays a cell. -/
structure XA (P : Program) (f : FuncId) (args : List Value) (r : Nat → Value) (cs : List Value) (t : TypeId) : Prop where
  run : ∀ w, (callFunc f args.toArray).run P w = .ok (.value (r w.heap.size)) (w.alloc (cl cs t))
theorem qt_xv {f : FuncId} {r : Value} {args : Array Operand} {ts : Array TypeId} {gs : List Bool} {vs : List Value} (ho : o.op = .call ⟨.value (.func f), args, ts⟩)
    (ha : opnds L args.toList = some (gs, vs)) (hi : g = true → gs.all id = true) (hf : XV C.P f vs r) : Qt C L σ g o r := qt_extR ho ha hi (fun _ w _ => hf.run w)
theorem qt_xi {x : Operand} {t : TypeId} {v u r : Value} {name : String} {f : FuncId} {args : Array Operand} {ts : Array TypeId} {gx : Bool} {gs : List Bool} {vs : List Value} (ho : o.op = .call ⟨.invoke x name, args, ts⟩) (hx : opnd L x = some (gx, .iface t v))
    (ha : opnds L args.toList = some (gs, vs)) (hi : g = true → (gx && gs.all id) = true) (hm : Meth C.P t v name f u) (hf : XV C.P f (u :: vs) r) : Qt C L σ g o r :=
  qt_invX ho hx ha hi hm (fun w => by have := hf.run w; simpa using this)
/-- A function without a body that lays a cell. -/
theorem eo_extA {f : FuncId} {t : TypeId} {args : Array Operand} {ts : Array TypeId} {gs : List Bool} {vs cs : List Value} {r : Nat → Value} (ho : o.op = .call ⟨.value (.func f), args, ts⟩)
    (ha : opnds L args.toList = some (gs, vs)) (hi : gs.all id = true) (hf : ∀ w, (callFunc f vs.toArray).run C.P w = .ok (.value (r w.heap.size)) (w.alloc (cl cs t))) : EO C L σ o (fun v s => ∃ b, b ∉ keys σ ∧ v = r b ∧ s = (b, cl cs t) :: σ) := fun ac w hL hO => .inl (by
  refine ⟨r w.heap.size, w.alloc (cl cs t), ?_, _, ⟨w.heap.size, fun hm => Nat.lt_irrefl _ (hO.has.lt _ hm), rfl, rfl⟩, Stp.alloc hO.has _⟩
  have e1 : args.map ac.eval = vs.toArray := by apply Array.ext'; rw [← opnds_ok hL ha hi]; simp
  simp only [execOp, ho, resolve, e1, Act.eval, Deferred.ofValue, Sem.run_bind, Sem.run_pure, Result.andThen_ok, invoke]
  simp [hf w])
theorem eo_xa {f : FuncId} {t : TypeId} {args : Array Operand} {ts : Array TypeId} {gs : List Bool} {vs cs : List Value} {r : Nat → Value} (ho : o.op = .call ⟨.value (.func f), args, ts⟩)
    (ha : opnds L args.toList = some (gs, vs)) (hi : gs.all id = true) (hf : XA C.P f vs r cs t) : EO C L σ o (fun v s => ∃ b, b ∉ keys σ ∧ v = r b ∧ s = (b, cl cs t) :: σ) := eo_extA ho ha hi hf.run
/-- A function without a body that sets a cell. -/
theorem eo_extS {f : FuncId} {t : TypeId} {args : Array Operand} {ts : Array TypeId} {gs : List Bool} {vs cs : List Value} {r v : Value} {b off i : Nat} {σ' : Heap} (ho : o.op = .call ⟨.value (.func f), args, ts⟩)
    (ha : opnds L args.toList = some (gs, vs)) (hi : gs.all id = true) (h1 : v.oneCell' = true) (hg : getI i σ = some (b, cl cs t)) (hl : off < cs.length) (hs : setI i (b, cl (cs.set off v) t) σ = some σ')
    (hf : ∀ w, Own C.E σ w → (callFunc f vs.toArray).run C.P w = .ok (.value r) (w.setCell ⟨b, off, none⟩ v)) : EO C L σ o (fun u s => u = r ∧ s = σ') := fun ac w hL hO => .inl (by
  have hb := hO.has.has _ (setI_spec hg hs).2.1
  have e1 : args.map ac.eval = vs.toArray := by apply Array.ext'; rw [← opnds_ok hL ha hi]; simp
  refine ⟨r, w.setCell ⟨b, off, none⟩ v, ?_, σ', ⟨rfl, rfl⟩, Stp.set hO.has hg hs rfl rfl rfl (by simp [World.setCell]) (fun k hk => Below.heap_setCell _ _ _ _ hk) (by simp [World.setCell, Array.getElem?_modify, hb, cl])⟩
  simp only [execOp, ho, resolve, e1, Act.eval, Deferred.ofValue, Sem.run_bind, Sem.run_pure, Result.andThen_ok, invoke]
  simp [hf w hO])
/-- A method that turns what is tracked, called through an interface. -/
theorem eo_inv {x : Operand} {t : TypeId} {v u : Value} {name : String} {f : FuncId} {args : Array Operand} {ts : Array TypeId} {gs : List Bool} {vs : List Value} {R : Value → Heap → Prop} (ho : o.op = .call ⟨.invoke x name, args, ts⟩) (hx : opnd L x = some (true, .iface t v))
    (ha : opnds L args.toList = some (gs, vs)) (hi : gs.all id = true) (hm : Meth C.P t v name f u) (hT : Tr C.P f (u :: vs) C.E.β σ R) : EO C L σ o R := fun a w hL hO => .inr (.inr (by
  refine ⟨f, (u :: vs).toArray, ?_, (hT.2 w (fun b o hb => hO.ro hb) hO.has).mono fun e w' ⟨z, s, h1, h2, h4⟩ => ⟨z, h1, s, h2, h4⟩⟩
  rw [run_inv hm ho (opnd_ev hL hx rfl) (opnds_ok hL ha hi), run_enter hT.1]
  simp))
end
section
variable {C : Cx} {ops : List Oper} {Q : KQ} {o : Oper} {rest : List Oper} {fr : Fr} {σ : Heap} {d : Nat}
theorem KO.xa {f : FuncId} {t : TypeId} {args : Array Operand} {ts : Array TypeId} {gs : List Bool} {vs cs : List Value} {r : Nat → Value} (hg : guardOf ops (look fr) o = some true) (hd : o.dst = some d) (hn : Nat.blt d C.N = true) (ho : o.op = .call ⟨.value (.func f), args, ts⟩)
    (ha : opnds (look fr) args.toList = some (gs, vs)) (hi : gs.all id = true) (hf : XA C.P f vs r cs t) (h : ∀ b, b ∉ keys σ → KO C ops Q rest ((d, true, r b) :: fr) ((b, cl cs t) :: σ)) : KO C ops Q (o :: rest) fr σ :=
  KO.ofEO hg hd hn (eo_xa ho ha hi hf) (fun _ _ ⟨b, h1, h2, h3⟩ => by subst h2 h3; exact h b h1)
theorem KO.inv {x : Operand} {t : TypeId} {v u : Value} {name : String} {f : FuncId} {args : Array Operand} {ts : Array TypeId} {gs : List Bool} {vs : List Value} {R : Value → Heap → Prop} (hg : guardOf ops (look fr) o = some true) (hd : o.dst = some d) (hn : Nat.blt d C.N = true) (ho : o.op = .call ⟨.invoke x name, args, ts⟩) (hx : opnd (look fr) x = some (true, .iface t v))
    (ha : opnds (look fr) args.toList = some (gs, vs)) (hi : gs.all id = true) (hm : Meth C.P t v name f u) (hT : Tr C.P f (u :: vs) C.E.β σ R) (h : ∀ z s, R z s → KO C ops Q rest ((d, true, z) :: fr) s) : KO C ops Q (o :: rest) fr σ :=
  KO.ofEO hg hd hn (eo_inv ho hx ha hi hm hT) h
end
end Go.K
namespace Go.K
open Go Go.RowKit
section
variable {C : Cx} {L : Look} {σ : Heap} {g : Bool} {o : Oper}
theorem ba_beq (a b : ByteArray) : (a == b) = decide (a = b) := by
  cases a with | mk x => cases b with | mk y =>
  show (x == y) = _
  by_cases h : x = y
  · subst h; simp
  · rw [decide_eq_false (by simpa using h)]; simpa using h
theorem toList_eq (a b : ByteArray) : (a.toList == b.toList) = decide (a = b) := by
  rw [← beq_toListBytes, ba_beq]
theorem qt_streq {t t' : TypeId} {x y : Operand} {gx gy : Bool} {a b : ByteArray} (ho : o.op = .binOp .eql t x y t') (hx : opnd L x = some (gx, .string a)) (hy : opnd L y = some (gy, .string b)) (hi : g = true → (gx && gy) = true) : Qt C L σ g o (.bool (decide (a = b))) :=
  qt_val fun ac w hL _ hg => by
    have h := hi hg
    rw [Bool.and_eq_true] at h
    have e : (Op.stringOp .eql a b).run C.P w = .ok (.bool (decide (a = b))) w := by
      unfold Op.stringOp
      dsimp only
      rw [toList_eq]; rfl
    have e1 : (eqGuard .eql t x y (.string a) (.string b)).run C.P w = .ok () w := rfl
    have e2 : binOp .eql t (.string a) (.string b) = Op.stringOp .eql a b := rfl
    simp only [execOp, ho, opnd_ev hL hx h.1, opnd_ev hL hy h.2, Sem.run_bind, e1, Result.andThen_ok, e2, e, Sem.run_pure]
theorem qt_strne {t t' : TypeId} {x y : Operand} {gx gy : Bool} {a b : ByteArray} (ho : o.op = .binOp .neq t x y t') (hx : opnd L x = some (gx, .string a)) (hy : opnd L y = some (gy, .string b)) (hi : g = true → (gx && gy) = true) : Qt C L σ g o (.bool (!decide (a = b))) :=
  qt_val fun ac w hL _ hg => by
    have h := hi hg
    rw [Bool.and_eq_true] at h
    have e : (Op.stringOp .neq a b).run C.P w = .ok (.bool (!decide (a = b))) w := by
      unfold Op.stringOp
      dsimp only
      rw [toList_eq]; rfl
    have e1 : (eqGuard .neq t x y (.string a) (.string b)).run C.P w = .ok () w := rfl
    have e2 : binOp .neq t (.string a) (.string b) = Op.stringOp .neq a b := rfl
    simp only [execOp, ho, opnd_ev hL hx h.1, opnd_ev hL hy h.2, Sem.run_bind, e1, Result.andThen_ok, e2, e, Sem.run_pure]
end
end Go.K
namespace Go.K
open Go Go.RowKit
/-- A text's bytes. -/
def byt (s : ByteArray) : List Nat := s.data.toList.map UInt8.toNat
theorem byt_len (s : ByteArray) : (byt s).length = s.size := by
  simp [byt]
theorem byt_lt {s : ByteArray} {b : Nat} (h : b ∈ byt s) : b < 256 := by
  simp only [byt, List.mem_map] at h
  obtain ⟨x, _, rfl⟩ := h
  exact x.toNat_lt
section
variable {C : Cx} {L : Look} {σ : Heap} {g : Bool} {o : Oper}
theorem qt_indexS {t : TypeId} {x i : Operand} {gx gi : Bool} {s : ByteArray} {k : IntKind} {n : Int} {b : Nat} (ho : o.op = .index t x i) (hx : opnd L x = some (gx, .string s)) (hn : opnd L i = some (gi, .int k n)) (hi : g = true → (gx && gi) = true)
    (hu : C.T.u t = some .string) (hb : g = true → 0 ≤ n ∧ (byt s)[n.toNat]? = some b) : Qt C L σ g o (.int .u8 (b : Int)) :=
  qt_val fun ac w hL _ hg => by
    have h := hi hg
    rw [Bool.and_eq_true] at h
    obtain ⟨h1, h2⟩ := hb hg
    have e3 : ∃ y : UInt8, s[n.toNat]? = some y ∧ y.toNat = b := by
      simp only [byt, List.getElem?_map, Option.map_eq_some_iff] at h2
      obtain ⟨y, hy, rfl⟩ := h2
      refine ⟨y, ?_, rfl⟩
      have hlt : n.toNat < s.size := by
        have := (List.getElem?_eq_some_iff.1 hy).1
        simpa using this
      rw [getElem?_pos s n.toNat hlt]
      rw [List.getElem?_eq_getElem (by simpa using hlt)] at hy
      simp only [Option.some.injEq] at hy ⊢
      rw [← hy]
      rfl
    obtain ⟨y, hy, hyb⟩ := e3
    simp [execOp, ho, opnd_ev hL hx h.1, opnd_ev hL hn h.2, Instr.index, asIntOf, run_underlying (TT.u_ok hu), h1, hy, hyb]
end
/-- A call that only reads, be it what is tracked. -/
theorem Tr.frzQ {P : Program} {f : FuncId} {args : List Value} {β : Nat → Option Obj} {σ : Heap} {v : Value} (hok : FnOk P f)
    (h : ∀ β', (∀ b o, β b = some o → β' b = some o) → (∀ p ∈ σ, β' p.1 = some p.2) → Tr P f args β' [] (fun u s => u = v ∧ s = [])) : Tr P f args β σ (fun u s => u = v ∧ s = σ) :=
  ⟨hok, fun w hw hh => by
    have hnd := hh.nodup
    have hb0 : ∀ b o, β b = some o → b ∉ keys σ := fun b o hb => (hw b o hb).2
    have hT := h (frz β σ) (fun b o hb => by rw [frz_not _ (hb0 b o hb)]; exact hb) (fun p hp => frz_mem _ hnd hp)
    refine (hT.2 w (fun b o hb => ?_) (Has.nil w)).mono ?_
    · rcases frz_of _ hb with h1 | ⟨_, h1⟩
      · exact ⟨hh.has _ h1, by simp⟩
      · exact ⟨(hw b o h1).1, by simp⟩
    · rintro e w' ⟨v', σ', h1, ⟨rfl, rfl⟩, h3⟩
      exact ⟨_, σ, h1, ⟨rfl, rfl⟩, h3.frame (σ := []) hh⟩⟩
end Go.K

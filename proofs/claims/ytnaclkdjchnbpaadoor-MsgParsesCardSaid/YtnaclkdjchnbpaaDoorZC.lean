/- Part 3 of the texts: Errors: texts joined, dynamic types asked, methods called th; Laws whose row lists variables of packages: what they hold w; Wire: bytes of one's own; how many bytes; readers; Wire: a number, put; all bytes; Errors: what they are, and how they lie in memory; what is a; Errors: the things that were done (Trail), and the numbers ( -/
import Derived.Laws.Externs
import Derived.LaidByTextLater
import Derived.LaidMore
import Derived.OpenShut
import Derived.FnData
import Derived.Stop.Joined
import Derived.Stop.Asserts
import Derived.Test.YtnaclkdjchnbpaaDoorZB
section
namespace Go.K
open Go Go.RowKit

section
variable {C : Cx} {L : Look} {σ : Heap} {g : Bool} {o : Oper}

theorem qt_strcat {t t' : TypeId} {x y : Operand} {gx gy : Bool} {a b : ByteArray} (ho : o.op = .binOp .add t x y t') (hx : opnd L x = some (gx, .string a)) (hy : opnd L y = some (gy, .string b)) (hi : g = true → (gx && gy) = true)
    (hs : g = true → a.size + b.size ≤ 4611686018427387904) : Qt C L σ g o (.string (a ++ b)) :=
  qt_val fun ac w hL _ hg => by
    have h := hi hg
    rw [Bool.and_eq_true] at h
    have h2 := hs hg
    have hm : ¬ ((a.size + b.size : Nat) : Int) > IntKind.i64.max := by
      have : IntKind.i64.max = 9223372036854775807 := by decide
      omega
    have e : (Op.stringOp .add a b).run C.P w = .ok (.string (a ++ b)) w := by
      unfold Op.stringOp
      dsimp only
      rw [if_neg hm]; try rfl
    have e1 : (eqGuard .add t x y (.string a) (.string b)).run C.P w = .ok () w := rfl
    have e2 : binOp .add t (.string a) (.string b) = Op.stringOp .add a b := rfl
    simp only [execOp, ho, opnd_ev hL hx h.1, opnd_ev hL hy h.2, Sem.run_bind, e1, Result.andThen_ok, e2, e, Sem.run_pure]

theorem qt_tassert {x : Operand} {xt t : TypeId} {ok gx : Bool} {v u : Value} (ho : o.op = .typeAssert x xt t ok) (hx : opnd L x = some (gx, v)) (hi : g = true → gx = true)
    (hf : g = true → ∀ w, (Instr.typeAssert v xt t ok).run C.P w = .ok u w) : Qt C L σ g o u :=
  qt_val fun ac w hL _ hg => by
    simp only [execOp, ho, opnd_ev hL hx (hi hg), Sem.run_bind, hf hg w, Result.andThen_ok, Sem.run_pure]

/-- A piece of a text. -/
theorem qt_sliceS {t : TypeId} {x lo hi' : Operand} {gx gl gh : Bool} {s : ByteArray} {k k' : IntKind} {a c : Int} (ho : o.op = .slice t x (some lo) (some hi') none) (hx : opnd L x = some (gx, .string s)) (hl : opnd L lo = some (gl, .int k a)) (hh : opnd L hi' = some (gh, .int k' c))
    (hi : g = true → (gx && (gl && gh)) = true) (hu : C.T.u t = some .string) (hb : g = true → 0 ≤ a ∧ a ≤ c ∧ c ≤ (s.size : Int)) : Qt C L σ g o (.string (s.extract a.toNat c.toNat)) :=
  qt_val fun ac w hL hO hg => by
    have h := hi hg
    rw [Bool.and_eq_true, Bool.and_eq_true] at h
    obtain ⟨h1, h2, h3⟩ := hb hg
    have e1 : ac.eval x = .string s := opnd_ev hL hx h.1
    have e2 : ac.eval lo = .int k a := opnd_ev hL hl h.2.1
    have e3 : ac.eval hi' = .int k' c := opnd_ev hL hh h.2.2
    have hc : 0 ≤ c ∧ c ≤ (s.size : Int) := ⟨by omega, h3⟩
    have ha : 0 ≤ a ∧ a ≤ (c.toNat : Int) := ⟨h1, by omega⟩
    simp only [execOp, ho, Option.map_some, Option.map_none, e1, e2, e3, Instr.sliceAt, Instr.slice, Instr.sliceBounds, Instr.sliceBound, Sem.run_bind, run_underlying (TT.u_ok hu), Result.andThen_ok, Option.isSome_none, asIntOf, Sem.run_pure]
    simp [hc, ha]
    intro hx; omega
/-- What asking a value for a type yields. -/
structure TAs (P : Program) (v : Value) (xt t : TypeId) (u : Value) : Prop where
  run : ∀ w, (Instr.typeAssert v xt t true).run P w = .ok u w
theorem qt_ta {x : Operand} {xt t : TypeId} {gx : Bool} {v u : Value} (ho : o.op = .typeAssert x xt t true) (hx : opnd L x = some (gx, v)) (hi : g = true → gx = true)
    (hf : TAs C.P v xt t u) : Qt C L σ g o u := qt_tassert ho hx hi (fun _ => hf.run)
/-- The method that a value of a dynamic type has. -/
structure Meth (P : Program) (t : TypeId) (v : Value) (name : String) (f : FuncId) (u : Value) : Prop where
  run : ∀ w, (method (P.types.size + Made.depth) t v name).run P w = .ok (f, u) w
theorem run_inv {P : Program} {w : World} {ac : Act} {x : Operand} {t : TypeId} {v u : Value} {name : String} {f : FuncId} {args : Array Operand} {ts : Array TypeId} {vs : List Value} {o : Oper} (hm : Meth P t v name f u)
    (ho : o.op = .call ⟨.invoke x name, args, ts⟩) (hx : ac.eval x = .iface t v) (ha : args.toList.map ac.eval = vs) : (execOp ac.eval o).run P w = (callFunc f (#[u] ++ vs.toArray)).run P w := by
  have e1 : args.map ac.eval = vs.toArray := by apply Array.ext'; rw [← ha]; simp
  have e2 : (#[Value.iface t v] ++ vs.toArray)[0]? = some (Value.iface t v) := by simp
  have e3 : (#[Value.iface t v] ++ vs.toArray).extract 1 (#[Value.iface t v] ++ vs.toArray).size = vs.toArray := by
    apply Array.ext'; simp
  have hm' := hm.run w
  have e4 : (program).run P w = .ok P w := rfl
  simp only [execOp, ho, resolve, e1, hx, Sem.run_bind, Sem.run_pure, Result.andThen_ok, invoke, e2, e3, callMethod, e4, hm']
theorem qt_invX {x : Operand} {t : TypeId} {v u r : Value} {name : String} {f : FuncId} {args : Array Operand} {ts : Array TypeId} {gx : Bool} {gs : List Bool} {vs : List Value} (ho : o.op = .call ⟨.invoke x name, args, ts⟩) (hx : opnd L x = some (gx, .iface t v))
    (ha : opnds L args.toList = some (gs, vs)) (hi : g = true → (gx && gs.all id) = true) (hm : Meth C.P t v name f u) (hf : ∀ w, (callFunc f (#[u] ++ vs.toArray)).run C.P w = .ok (.value r) w) : Qt C L σ g o r :=
  qt_val fun ac w hL _ hg => by
    have h := hi hg
    rw [Bool.and_eq_true] at h
    rw [run_inv hm ho (opnd_ev hL hx h.1) (opnds_ok hL ha h.2), hf w]
theorem qt_invQ {x : Operand} {t : TypeId} {v u r : Value} {name : String} {f : FuncId} {args : Array Operand} {ts : Array TypeId} {gx : Bool} {gs : List Bool} {vs : List Value} (ho : o.op = .call ⟨.invoke x name, args, ts⟩) (hx : opnd L x = some (gx, .iface t v))
    (ha : opnds L args.toList = some (gs, vs)) (hi : g = true → (gx && gs.all id) = true) (hm : Meth C.P t v name f u) (hc : g = true → Tr C.P f (u :: vs) C.E.β σ (fun z s => z = r ∧ s = σ)) : Qt C L σ g o r := fun a w hL hO hg => by
  have h := hi hg
  rw [Bool.and_eq_true] at h
  have hT := hc hg
  refine .inr ⟨f, (u :: vs).toArray, ?_, ?_⟩
  · rw [run_inv hm ho (opnd_ev hL hx h.1) (opnds_ok hL ha h.2), run_enter hT.1]
    simp
  exact (hT.2 w (fun b o hb => hO.ro hb) hO.has).mono fun e w' ⟨z, s, h1, ⟨h2, h3⟩, h4⟩ => by
    subst h2 h3
    exact ⟨h1, h4.quiet hO.has⟩
theorem qt_extR {f : FuncId} {r : Value} {args : Array Operand} {ts : Array TypeId} {gs : List Bool} {vs : List Value} (ho : o.op = .call ⟨.value (.func f), args, ts⟩)
    (ha : opnds L args.toList = some (gs, vs)) (hi : g = true → gs.all id = true) (hf : g = true → ∀ w, Own C.E σ w → (callFunc f vs.toArray).run C.P w = .ok (.value r) w) : Qt C L σ g o r :=
  qt_val fun ac w hL hO hg => by
    have e1 : args.map ac.eval = vs.toArray := by apply Array.ext'; rw [← opnds_ok hL ha (hi hg)]; simp
    simp only [execOp, ho, resolve, e1, Act.eval, Deferred.ofValue, Sem.run_bind, Sem.run_pure, Result.andThen_ok, invoke]
    simp [hf hg w hO]
/-- A function without a body that yields a value, whatever the world. -/
structure XV (P : Program) (f : FuncId) (args : List Value) (v : Value) : Prop where
  run : ∀ w, (callFunc f args.toArray).run P w = .ok (.value v) w
/-- One that lays a cell. -/
structure XA (P : Program) (f : FuncId) (args : List Value) (r : Nat → Value) (cs : List Value) (t : TypeId) : Prop where
  run : ∀ w, (callFunc f args.toArray).run P w = .ok (.value (r w.heap.size)) (w.alloc (cl cs t))
theorem qt_xv {f : FuncId} {r : Value} {args : Array Operand} {ts : Array TypeId} {gs : List Bool} {vs : List Value} (ho : o.op = .call ⟨.value (.func f), args, ts⟩)
    (ha : opnds L args.toList = some (gs, vs)) (hi : g = true → gs.all id = true) (hf : XV C.P f vs r) : Qt C L σ g o r := qt_extR ho ha hi (fun _ w _ => hf.run w)
theorem qt_xi {x : Operand} {t : TypeId} {v u r : Value} {name : String} {f : FuncId} {args : Array Operand} {ts : Array TypeId} {gx : Bool} {gs : List Bool} {vs : List Value} (ho : o.op = .call ⟨.invoke x name, args, ts⟩) (hx : opnd L x = some (gx, .iface t v))
    (ha : opnds L args.toList = some (gs, vs)) (hi : g = true → (gx && gs.all id) = true) (hm : Meth C.P t v name f u) (hf : XV C.P f (u :: vs) r) : Qt C L σ g o r :=
  qt_invX ho hx ha hi hm (fun w => by have := hf.run w; simpa using this)
/-- A function without a body that lays a cell. -/
theorem eo_extA {f : FuncId} {t : TypeId} {args : Array Operand} {ts : Array TypeId} {gs : List Bool} {vs cs : List Value} {r : Nat → Value} (ho : o.op = .call ⟨.value (.func f), args, ts⟩)
    (ha : opnds L args.toList = some (gs, vs)) (hi : gs.all id = true) (hf : ∀ w, (callFunc f vs.toArray).run C.P w = .ok (.value (r w.heap.size)) (w.alloc (cl cs t))) : EO C L σ o (fun v s => ∃ b, b ∉ keys σ ∧ v = r b ∧ s = (b, cl cs t) :: σ) := fun ac w hL hO => .inl (by
  refine ⟨r w.heap.size, w.alloc (cl cs t), ?_, _, ⟨w.heap.size, fun hm => Nat.lt_irrefl _ (hO.has.lt _ hm), rfl, rfl⟩, Stp.alloc hO.has _⟩
  have e1 : args.map ac.eval = vs.toArray := by apply Array.ext'; rw [← opnds_ok hL ha hi]; simp
  simp only [execOp, ho, resolve, e1, Act.eval, Deferred.ofValue, Sem.run_bind, Sem.run_pure, Result.andThen_ok, invoke]
  simp [hf w])
theorem eo_xa {f : FuncId} {t : TypeId} {args : Array Operand} {ts : Array TypeId} {gs : List Bool} {vs cs : List Value} {r : Nat → Value} (ho : o.op = .call ⟨.value (.func f), args, ts⟩)
    (ha : opnds L args.toList = some (gs, vs)) (hi : gs.all id = true) (hf : XA C.P f vs r cs t) : EO C L σ o (fun v s => ∃ b, b ∉ keys σ ∧ v = r b ∧ s = (b, cl cs t) :: σ) := eo_extA ho ha hi hf.run
/-- A function without a body that sets a cell. -/
theorem eo_extS {f : FuncId} {t : TypeId} {args : Array Operand} {ts : Array TypeId} {gs : List Bool} {vs cs : List Value} {r v : Value} {b off i : Nat} {σ' : Heap} (ho : o.op = .call ⟨.value (.func f), args, ts⟩)
    (ha : opnds L args.toList = some (gs, vs)) (hi : gs.all id = true) (h1 : v.oneCell' = true) (hg : getI i σ = some (b, cl cs t)) (hl : off < cs.length) (hs : setI i (b, cl (cs.set off v) t) σ = some σ')
    (hf : ∀ w, Own C.E σ w → (callFunc f vs.toArray).run C.P w = .ok (.value r) (w.setCell ⟨b, off, none⟩ v)) : EO C L σ o (fun u s => u = r ∧ s = σ') := fun ac w hL hO => .inl (by
  have hb := hO.has.has _ (setI_spec hg hs).2.1
  have e1 : args.map ac.eval = vs.toArray := by apply Array.ext'; rw [← opnds_ok hL ha hi]; simp
  refine ⟨r, w.setCell ⟨b, off, none⟩ v, ?_, σ', ⟨rfl, rfl⟩, Stp.set hO.has hg hs rfl rfl rfl (by simp [World.setCell]) (fun k hk => Below.heap_setCell _ _ _ _ hk) (by simp [World.setCell, Array.getElem?_modify, hb, cl])⟩
  simp only [execOp, ho, resolve, e1, Act.eval, Deferred.ofValue, Sem.run_bind, Sem.run_pure, Result.andThen_ok, invoke]
  simp [hf w hO])
/-- A method that turns what is tracked, called through an interface. -/
theorem eo_inv {x : Operand} {t : TypeId} {v u : Value} {name : String} {f : FuncId} {args : Array Operand} {ts : Array TypeId} {gs : List Bool} {vs : List Value} {R : Value → Heap → Prop} (ho : o.op = .call ⟨.invoke x name, args, ts⟩) (hx : opnd L x = some (true, .iface t v))
    (ha : opnds L args.toList = some (gs, vs)) (hi : gs.all id = true) (hm : Meth C.P t v name f u) (hT : Tr C.P f (u :: vs) C.E.β σ R) : EO C L σ o R := fun a w hL hO => .inr (.inr (by
  refine ⟨f, (u :: vs).toArray, ?_, (hT.2 w (fun b o hb => hO.ro hb) hO.has).mono fun e w' ⟨z, s, h1, h2, h4⟩ => ⟨z, h1, s, h2, h4⟩⟩
  rw [run_inv hm ho (opnd_ev hL hx rfl) (opnds_ok hL ha hi), run_enter hT.1]
  simp))
end
section
variable {C : Cx} {ops : List Oper} {Q : KQ} {o : Oper} {rest : List Oper} {fr : Fr} {σ : Heap} {d : Nat}
theorem KO.xa {f : FuncId} {t : TypeId} {args : Array Operand} {ts : Array TypeId} {gs : List Bool} {vs cs : List Value} {r : Nat → Value} (hg : guardOf ops (look fr) o = some true) (hd : o.dst = some d) (hn : Nat.blt d C.N = true) (ho : o.op = .call ⟨.value (.func f), args, ts⟩)
    (ha : opnds (look fr) args.toList = some (gs, vs)) (hi : gs.all id = true) (hf : XA C.P f vs r cs t) (h : ∀ b, b ∉ keys σ → KO C ops Q rest ((d, true, r b) :: fr) ((b, cl cs t) :: σ)) : KO C ops Q (o :: rest) fr σ :=
  KO.ofEO hg hd hn (eo_xa ho ha hi hf) (fun _ _ ⟨b, h1, h2, h3⟩ => by subst h2 h3; exact h b h1)
theorem KO.inv {x : Operand} {t : TypeId} {v u : Value} {name : String} {f : FuncId} {args : Array Operand} {ts : Array TypeId} {gs : List Bool} {vs : List Value} {R : Value → Heap → Prop} (hg : guardOf ops (look fr) o = some true) (hd : o.dst = some d) (hn : Nat.blt d C.N = true) (ho : o.op = .call ⟨.invoke x name, args, ts⟩) (hx : opnd (look fr) x = some (true, .iface t v))
    (ha : opnds (look fr) args.toList = some (gs, vs)) (hi : gs.all id = true) (hm : Meth C.P t v name f u) (hT : Tr C.P f (u :: vs) C.E.β σ R) (h : ∀ z s, R z s → KO C ops Q rest ((d, true, z) :: fr) s) : KO C ops Q (o :: rest) fr σ :=
  KO.ofEO hg hd hn (eo_inv ho hx ha hi hm hT) h
end
end Go.K
namespace Go.K
open Go Go.RowKit
section
variable {C : Cx} {L : Look} {σ : Heap} {g : Bool} {o : Oper}
theorem ba_beq (a b : ByteArray) : (a == b) = decide (a = b) := by
  cases a with | mk x => cases b with | mk y =>
  show (x == y) = _
  by_cases h : x = y
  · subst h; simp
  · rw [decide_eq_false (by simpa using h)]; simpa using h
theorem toList_eq (a b : ByteArray) : (a.toList == b.toList) = decide (a = b) := by
  rw [← beq_toListBytes, ba_beq]
theorem qt_streq {t t' : TypeId} {x y : Operand} {gx gy : Bool} {a b : ByteArray} (ho : o.op = .binOp .eql t x y t') (hx : opnd L x = some (gx, .string a)) (hy : opnd L y = some (gy, .string b)) (hi : g = true → (gx && gy) = true) : Qt C L σ g o (.bool (decide (a = b))) :=
  qt_val fun ac w hL _ hg => by
    have h := hi hg
    rw [Bool.and_eq_true] at h
    have e : (Op.stringOp .eql a b).run C.P w = .ok (.bool (decide (a = b))) w := by
      unfold Op.stringOp
      dsimp only
      rw [toList_eq]; try rfl
    have e1 : (eqGuard .eql t x y (.string a) (.string b)).run C.P w = .ok () w := rfl
    have e2 : binOp .eql t (.string a) (.string b) = Op.stringOp .eql a b := rfl
    simp only [execOp, ho, opnd_ev hL hx h.1, opnd_ev hL hy h.2, Sem.run_bind, e1, Result.andThen_ok, e2, e, Sem.run_pure]
theorem qt_strne {t t' : TypeId} {x y : Operand} {gx gy : Bool} {a b : ByteArray} (ho : o.op = .binOp .neq t x y t') (hx : opnd L x = some (gx, .string a)) (hy : opnd L y = some (gy, .string b)) (hi : g = true → (gx && gy) = true) : Qt C L σ g o (.bool (!decide (a = b))) :=
  qt_val fun ac w hL _ hg => by
    have h := hi hg
    rw [Bool.and_eq_true] at h
    have e : (Op.stringOp .neq a b).run C.P w = .ok (.bool (!decide (a = b))) w := by
      unfold Op.stringOp
      dsimp only
      rw [toList_eq]; try rfl
    have e1 : (eqGuard .neq t x y (.string a) (.string b)).run C.P w = .ok () w := rfl
    have e2 : binOp .neq t (.string a) (.string b) = Op.stringOp .neq a b := rfl
    simp only [execOp, ho, opnd_ev hL hx h.1, opnd_ev hL hy h.2, Sem.run_bind, e1, Result.andThen_ok, e2, e, Sem.run_pure]
end
end Go.K
namespace Go.K
open Go Go.RowKit
/-- A text's bytes. -/
def byt (s : ByteArray) : List Nat := s.data.toList.map UInt8.toNat
theorem byt_len (s : ByteArray) : (byt s).length = s.size := by
  simp [byt]
theorem byt_lt {s : ByteArray} {b : Nat} (h : b ∈ byt s) : b < 256 := by
  simp only [byt, List.mem_map] at h
  obtain ⟨x, _, rfl⟩ := h
  exact x.toNat_lt
section
variable {C : Cx} {L : Look} {σ : Heap} {g : Bool} {o : Oper}
theorem qt_indexS {t : TypeId} {x i : Operand} {gx gi : Bool} {s : ByteArray} {k : IntKind} {n : Int} {b : Nat} (ho : o.op = .index t x i) (hx : opnd L x = some (gx, .string s)) (hn : opnd L i = some (gi, .int k n)) (hi : g = true → (gx && gi) = true)
    (hu : C.T.u t = some .string) (hb : g = true → 0 ≤ n ∧ (byt s)[n.toNat]? = some b) : Qt C L σ g o (.int .u8 (b : Int)) :=
  qt_val fun ac w hL _ hg => by
    have h := hi hg
    rw [Bool.and_eq_true] at h
    obtain ⟨h1, h2⟩ := hb hg
    have e3 : ∃ y : UInt8, s[n.toNat]? = some y ∧ y.toNat = b := by
      simp only [byt, List.getElem?_map, Option.map_eq_some_iff] at h2
      obtain ⟨y, hy, rfl⟩ := h2
      refine ⟨y, ?_, rfl⟩
      have hlt : n.toNat < s.size := by
        have := (List.getElem?_eq_some_iff.1 hy).1
        simpa using this
      rw [getElem?_pos s n.toNat hlt]
      rw [List.getElem?_eq_getElem (by simpa using hlt)] at hy
      simp only [Option.some.injEq] at hy ⊢
      rw [← hy]
      rfl
    obtain ⟨y, hy, hyb⟩ := e3
    simp [execOp, ho, opnd_ev hL hx h.1, opnd_ev hL hn h.2, Instr.index, asIntOf, run_underlying (TT.u_ok hu), h1, hy, hyb]
end
/-- A call that only reads, be it what is tracked. -/
theorem Tr.frzQ {P : Program} {f : FuncId} {args : List Value} {β : Nat → Option Obj} {σ : Heap} {v : Value} (hok : FnOk P f)
    (h : ∀ β', (∀ b o, β b = some o → β' b = some o) → (∀ p ∈ σ, β' p.1 = some p.2) → Tr P f args β' [] (fun u s => u = v ∧ s = [])) : Tr P f args β σ (fun u s => u = v ∧ s = σ) :=
  ⟨hok, fun w hw hh => by
    have hnd := hh.nodup
    have hb0 : ∀ b o, β b = some o → b ∉ keys σ := fun b o hb => (hw b o hb).2
    have hT := h (frz β σ) (fun b o hb => by rw [frz_not _ (hb0 b o hb)]; exact hb) (fun p hp => frz_mem _ hnd hp)
    refine (hT.2 w (fun b o hb => ?_) (Has.nil w)).mono ?_
    · rcases frz_of _ hb with h1 | ⟨_, h1⟩
      · exact ⟨hh.has _ h1, by simp⟩
      · exact ⟨(hw b o h1).1, by simp⟩
    · rintro e w' ⟨v', σ', h1, ⟨rfl, rfl⟩, h3⟩
      exact ⟨_, σ, h1, ⟨rfl, rfl⟩, h3.frame (σ := []) hh⟩⟩
end Go.K
end
section
namespace Go.K
open Go Go.Proofs Go.ChangeShapes Go.WideShapes Go.ChangeAt Go.RowKit

/-- A table of bytes in a variable. -/
def Tab8 (β : Nat → Option Obj) (g : Nat) (l : List Nat) : Prop := ∀ (j : Nat) (v : Nat), l[j]? = some v → Rc β g j (.int .u8 (v : Int))
theorem tab8_of {P : Program} {W : World} {name : String} {g t e n : Nat} {l : List Nat} (hg : P.globalNamed name = some g) (hty : (P.globals[g]?).map (·.type) = some t) (hu : P.underlying t = some (.array n e)) (hue : P.underlying e = some (.int .u8)) (hc : P.cellsOf e = 1)
    (hn : l.length = n) {data : DataW Unit} (hd : data = .agg (l.map fun x : Nat => .lit (.int .u8 (x : Int)))) (hp : ([(name, data)].all fun x => x.2.handleName?.isNone) = true) (h : laidMetH P [(name, data)] W) : Tab8 (fun b => W.heap[b]?) g l := by
  rw [MakeChecks.laidMetH_plain _ _ _ hp] at h
  obtain ⟨ps, ⟨g0, t0, cs0, f0, p0, q0, hg0, ht0, hv0, hd0, _⟩, _⟩ := h
  obtain rfl := Option.some.inj (hg.symm.trans hg0)
  obtain rfl := Option.some.inj (hty.symm.trans ht0)
  obtain ⟨xs, m1, _, hx1, hlen, hn3, hel⟩ := DataW.trod_array hu hd0
  rw [hd] at hx1
  simp only [Prod.mk.injEq, DataW.agg.injEq] at hx1
  intro j v hj
  have hjl := (List.getElem?_eq_some_iff.1 hj).1
  have h1 := hel j (by omega)
  rw [hc, Nat.mul_one] at h1
  obtain ⟨x, hx⟩ : ∃ x, xs[j]? = some x := ⟨_, List.getElem?_eq_getElem (by omega)⟩
  rw [hx] at h1
  obtain ⟨k, e1, e2, _⟩ := DataW.trod_int hue h1
  have h2 : (xs.map (·.1))[j]? = some (.lit (.int .u8 (v : Int))) := by
    rw [← hx1.1, List.getElem?_map, hj]; try rfl
  rw [List.getElem?_map, hx, e2] at h2
  simp only [Option.map_some, Option.some.injEq, DataW.lit.injEq, Lit.int.injEq, true_and] at h2
  subst h2
  have h3 := World.var?_cell hg hv0 j
  have h4 : cs0[j]? = some (.int .u8 (v : Int)) := by
    have : (cs0.toList.drop j)[0]? = some (.int .u8 (v : Int)) := by
      have h5 : ((cs0.toList.drop j).take 1)[0]? = some (.int .u8 (v : Int)) := by rw [e1]; rfl
      rwa [List.getElem?_take_of_lt (by decide)] at h5
    rw [List.getElem?_drop, Nat.add_zero] at this
    simpa using this
  rw [h4] at h3
  exact rc_of_cell h3
/-- A law beside listed variables. -/
theorem law_liftL {H : Type} {enc : TypeId × Value → H} {C : Checked} {os : Os} {f : FuncId} {fn : Func} {s : ChangeSpec} {tb : TypeId} {laid : List (String × DataW Unit)} {Tb : (Nat → Option Obj) → Prop} (own : ownKnob C.prog.godebug = none) (started : os.Started) (noInit : C.prog.inits.idxOf? f = none) (hfn : C.prog.funcs[f]? = some fn)
    (witness : ∃ (w : World) (tape : Tape) (i : Input), w.os = os ∧ (w.forCall tape i).Shaped C.prog ∧ i.vars = [] ∧ Input.okWide C.prog (w.forCall tape i) .any w.heap.size f i ∧
      ((s.pre enc C.prog fn [] false (w.forCall tape i).memory i.args ∧ laidMetH C.prog laid (w.forCall tape i).memory) ∧ sizedMet enc C.prog fn (OpenSpec.ofChange s) false (w.forCall tape i).memory i.args) ∧ ({} : Assume).holds C.prog (lone (Frame.enter C.prog f i.args .normal) [] (w.forCall tape i)))
    (hl : laidOutB C.prog = true) (hv : s.vars = []) (hts : (fn.params.toList.all fun t => C.prog.readableRec t && decide (t < C.prog.types.size)) = true) (hti : (fn.params.toList.all fun t => match C.prog.underlying t with | some (.interface _) => false | _ => true) = true)
    (hr : fn.resultTypes = #[tb]) (hbt : C.prog.underlying tb = some .bool) (hfn2 : ∀ (ds : List (DataW H)), ds.length = fn.params.toList.length → s.fn H ds = { results := [.lit (.bool true)], args := ds })
    (htab : ∀ W, laidMetH C.prog laid W → Tb (fun b => W.heap[b]?))
    (law : ∀ (β : Nat → Option Obj) (vs : List Value), RdVs C.prog β fn.params.toList vs → Tb β → PureB C.prog f vs.toArray β (.bool true)) :
    ReturnsInHanded {} C os f .any (fun w args => (s.pre enc C.prog fn [] false w args ∧ laidMetH C.prog laid w) ∧ sizedMet enc C.prog fn (OpenSpec.ofChange s) false w args) (s.post enc C.prog fn false true false false) := by
  refine returnsInHanded_of_change_and (X := fun w _ => laidMetH C.prog laid w) (fun _ _ _ hh h => h.of_heap hh) own started noInit hfn witness ?_
  intro W base args ds gs before hval hW _ hz hL _
  have hW' := hW
  obtain ⟨p, q, hA, hV, rfl, hfz, hnd⟩ := hW
  have hgs : gs = [] := by
    rw [hv] at hV
    cases gs with
    | nil => rfl
    | cons _ _ => exact hV.elim
  subst hgs
  have hlen : ds.length = fn.params.toList.length := by
    have : ∀ {ts : List TypeId} {vs : List Value} {ds : List (DataW H)} {ps : List MemPlace}, DataW.TrodAll enc C.prog W 0 (fun _ => true) true ts vs ds ps → ds.length = ts.length := by
      intro ts
      induction ts with
      | nil => intro vs ds ps h; cases vs <;> cases ds <;> first | rfl | exact h.elim
      | cons t ts ih =>
        intro vs ds ps h
        cases vs <;> cases ds <;> first | exact h.elim | (obtain ⟨_, _, _, h2, _⟩ := h; simp [ih h2])
    exact this hA
  have hz' : ∀ n ∈ DataW.weightsEach C.prog fn.params.toList ds, n ≤ reachBytes := by
    intro n hn
    have key : ∀ {ts ts' : List TypeId} {ds : List (DataW H)}, ds.length = ts.length → ∀ n ∈ DataW.weightsEach C.prog ts ds, n ∈ DataW.weightsEach C.prog (ts ++ ts') (ds ++ []) := by
      intro ts
      induction ts with
      | nil => intro ts' ds h n hn; cases ds <;> simp [DataW.weightsEach] at hn
      | cons t ts ih =>
        intro ts' ds h n hn
        cases ds with
        | nil => simp at h
        | cons d ds =>
          simp only [DataW.weightsEach, List.mem_append] at hn
          simp only [List.cons_append, DataW.weightsEach, List.mem_append]
          exact hn.imp id (fun hn => ih (by simpa using h) n hn)
    have := List.all_eq_true.1 hz n (key hlen n hn)
    simpa using this
  have hrd := rdVs_of (held := true) hti (fun j t v ht hv' => hval j t v (by simpa using ht) (by simpa using hv')) hA hz'
  have hp := law (fun b => W.heap[b]?) args.toList hrd (htab W hL)
  refine ((hp.run W (fun b o hb => ⟨hb, by simp⟩))).mono fun e W' ⟨he, hb⟩ => ?_
  subst he
  exact ⟨_, rfl, law_frame hl hW' hv hts hr hbt (by rw [List.append_nil]; exact hfn2 ds hlen) hb⟩
end Go.K
end
section
namespace Go.Proofs.YtnaclkdjchnbpaaDoor
open Go.K

theorem Tryd.own : ownKnob Tryd.prog.godebug = none := by kernel_rfl
theorem Tryd.laidOut : laidOutB Tryd.prog = true := by kernel_rfl

def wMay (n : Int) : Bool := decide (1 ≤ n) && decide (n ≤ 8)
theorem may_p (n : Int) : Go.K.Pure Tryd.prog 77 #[.int .i64 n] (.bool (wMay n)) := by
  refine Tr.pure (Tr.of_body Tryd.tt (args := [.int .i64 n]) (fr := [(0, true, .int .i64 n)]) Tryd.func77 rfl (by decide) rfl Tryd.ntmps77 rfl rfl ?_)
  intro E _
  repeat' (first | refine KW.seq ?_ | refine KW.region ?_ | refine KO.nil ?_ | refine At.then_normal ?_ | refine KW.ret ?_ | ((first | apply KO.val rfl rfl rfl ?kq ?_ ); (case kq => ((first | apply qt_ev rfl ?hi | ((first | apply qt_pick_and rfl rfl rfl ?hi ?pj ); (case pj => (intro h h2; first | with_reducible exact h2 ))) ); (case hi => (intro h; (repeat' (first | with_reducible exact alln | with_reducible refine allc ?_ ?_ )); all_goals (first | with_reducible rfl | with_reducible exact h )))))) | fail)
  ((first | apply At.done_ret ); (focus (repeat' (first | exact ResVs.nil' | apply ResVs.cons' | exact ResV.tmp' rfl ))); dsimp only [resVal])
  all_goals rfl

theorem own_p (β : Nat → Option Obj) (σ : Heap) (m c : Nat) (xs : List Value) (p : Option Addr) (hv : SL β σ 1 m xs p) (hpc : p = none → c = 0 ∧ m = 0) (h1 : xs.all Value.oneCell' = true) (hm : m ≤ 281474976710656) :
    Go.K.Tr Tryd.prog 57 [.slice p m c] β σ (fun v' σ' => ∃ b, v' = .slice (some ⟨b, 0, none⟩) m m ∧ σ' = (b, cl xs 5) :: σ) := by
  refine Tr.of_body Tryd.tt (args := [.slice p m c]) (fr := [(0, true, .slice p m c)]) Tryd.func57 rfl (by decide) rfl Tryd.ntmps57 rfl rfl ?_
  intro E hE
  subst hE
  repeat' (first | refine KW.seq ?_ | refine KW.region ?_ | refine KO.nil ?_ | ((first | apply KO.val rfl rfl rfl ?kq ?_); (case kq => ((first | apply qt_ev rfl ?hi ); (case hi => (intro h; (repeat' (first | with_reducible exact alln | with_reducible refine allc ?_ ?_ )); all_goals (first | with_reducible rfl )))))) | fail)
  refine KO.makeSlice rfl rfl rfl rfl rfl rfl rfl rfl rfl rfl rfl ⟨by omega, by omega⟩ ⟨by omega, by omega⟩ ?_
  intro b hb
  have hx : xs.length = m := by have := hv.1; omega
  have e0 : ((m : Int)).toNat = m := by omega
  rw [e0]
  rw [flat_rep]
  repeat' (first | refine KW.seq ?_ | refine KW.region ?_ | refine KO.nil ?_ | ((first | apply KO.val rfl rfl rfl ?kq ?_); (case kq => ((first | apply qt_ev rfl ?hi ); (case hi => (intro h; (repeat' (first | with_reducible exact alln | with_reducible refine allc ?_ ?_ )); all_goals (first | with_reducible rfl )))))) | fail)
  have hv' := hv.mono (σ' := (b, cl (List.replicate m (Value.int .u8 0)) 5) :: σ) (fun q hq => List.mem_cons_of_mem _ hq)
  refine KO.copyL (i := 0) rfl rfl rfl rfl rfl rfl rfl rfl hv' hpc rfl h1 ?_ rfl ?_
  · simp
  have e2 : (List.replicate m (Value.int .u8 0)).take 0 ++ xs.take (min m m) ++ (List.replicate m (Value.int .u8 0)).drop (0 + min m m) = xs := by
    rw [Nat.min_self, Nat.zero_add, List.take_zero, List.nil_append, List.take_of_length_le (by omega), List.drop_of_length_le (by simp), List.append_nil]
  rw [e2]
  repeat' (first | refine KW.seq ?_ | refine KW.region ?_ | refine KO.nil ?_ | refine At.then_normal ?_ | refine KW.ret ?_ | ((first | apply KO.val rfl rfl rfl ?kq ?_); (case kq => ((first | apply qt_ev rfl ?hi ); (case hi => (intro h; (repeat' (first | with_reducible exact alln | with_reducible refine allc ?_ ?_ )); all_goals (first | with_reducible rfl )))))) | fail)
  ((first | apply At.done_ret ); (focus (repeat' (first | exact ResVs.nil' | apply ResVs.cons' | exact ResV.tmp' rfl ))); dsimp only [resVal])
  exact ⟨b, rfl, rfl⟩

theorem Read_p (β : Nat → Option Obj) (σ : Heap) (m c : Nat) (xs : List Value) (p : Option Addr) (hv : SL β σ 1 m xs p) (hpc : p = none → c = 0 ∧ m = 0) (h1 : xs.all Value.oneCell' = true) (hm : m ≤ 281474976710656) :
    Go.K.Tr Tryd.prog 64 [.slice p m c] β σ (fun v' σ' => ∃ br b, v' = .pointer (some ⟨br, 0, none⟩) ∧ br ≠ b ∧ σ' = (br, cl [.slice (some ⟨b, 0, none⟩) m m] 126) :: (b, cl xs 5) :: σ) := by
  refine Tr.of_body Tryd.tt (args := [.slice p m c]) (fr := [(0, true, .slice p m c)]) Tryd.func64 rfl (by decide) rfl Tryd.ntmps64 rfl rfl ?_
  intro E hE
  subst hE
  repeat' (first | refine KW.seq ?_ | refine KW.region ?_ | refine KO.nil ?_ | ((first | apply KO.val rfl rfl rfl ?kq ?_); (case kq => ((first | apply qt_ev rfl ?hi ); (case hi => (intro h; (repeat' (first | with_reducible exact alln | with_reducible refine allc ?_ ?_ )); all_goals (first | with_reducible rfl )))))) | fail)
  refine KO.callA rfl rfl rfl rfl rfl rfl rfl (own_p _ _ _ _ _ _ hv hpc h1 hm) ?_
  rintro _ _ ⟨b, rfl, rfl⟩
  repeat' (first | refine KO.nil ?_ | refine At.then_normal ?_ | refine KW.ret ?_ | ((first | apply KO.val rfl rfl rfl ?kq ?_); (case kq => ((first | apply qt_ev rfl ?hi | apply qt_build rfl rfl ?hi rfl ); (case hi => (intro h; (repeat' (first | with_reducible exact alln | with_reducible refine allc ?_ ?_ )); all_goals (first | with_reducible rfl )))))) | (refine KO.box rfl rfl rfl rfl rfl rfl ?_; intro _ _) | fail)
  ((first | apply At.done_ret ); (focus (repeat' (first | exact ResVs.nil' | apply ResVs.cons' | exact ResV.tmp' rfl ))); dsimp only [resVal])
  rename_i br hbr
  exact ⟨br, b, rfl, fun e => by subst e; simp at hbr, rfl⟩

theorem Rest_p (β : Nat → Option Obj) (σ : Heap) (br m c : Nat) (xs : List Value) (p : Option Addr) (hv : SL β ((br, cl [.slice p m c] 126) :: σ) 1 m xs p) (hpc : p = none → c = 0 ∧ m = 0) (h1 : xs.all Value.oneCell' = true) (hm : m ≤ 281474976710656) :
    Go.K.Tr Tryd.prog 46 [.pointer (some ⟨br, 0, none⟩)] β ((br, cl [.slice p m c] 126) :: σ) (fun v' σ' => ∃ b, v' = .slice (some ⟨b, 0, none⟩) m m ∧ σ' = (b, cl xs 5) :: (br, cl [.slice p m c] 126) :: σ) := by
  refine Tr.of_body Tryd.tt (args := [.pointer (some ⟨br, 0, none⟩)]) (fr := [(0, true, .pointer (some ⟨br, 0, none⟩))]) Tryd.func46 rfl (by decide) rfl Tryd.ntmps46 rfl rfl ?_
  intro E hE
  subst hE
  repeat' (first | refine KW.seq ?_ | refine KW.region ?_ | refine KO.nil ?_ | refine At.then_normal ?_ | refine KW.skip ?_ | refine KW.cond_f rfl (by first | with_reducible rfl ) ?_ | ((first | apply KO.val rfl rfl rfl ?kq ?_); (case kq => ((first | apply qt_ev rfl ?hi | ((first | apply qt_load1 rfl rfl ?hi rfl rfl ?hm ?hc ); (case hm => repeat (first | exact List.Mem.head _ )); (case hc => rfl)) | apply qt_eqs rfl rfl rfl ?hi rfl (Or.inl rfl) ); (case hi => (intro h; (repeat' (first | with_reducible exact alln | with_reducible refine allc ?_ ?_ | with_reducible refine andi ?_ ?_)); all_goals (first | with_reducible rfl )))))) | fail)
  refine KO.callA rfl rfl rfl rfl rfl rfl rfl (own_p _ _ _ _ _ _ hv hpc h1 hm) ?_
  rintro _ _ ⟨b, rfl, rfl⟩
  repeat' (first | refine KO.nil ?_ | refine At.then_normal ?_ | refine KW.ret ?_ | ((first | apply KO.val rfl rfl rfl ?kq ?_); (case kq => ((first | apply qt_ev rfl ?hi ); (case hi => (intro h; (repeat' (first | with_reducible exact alln | with_reducible refine allc ?_ ?_ )); all_goals (first | with_reducible rfl )))))) | fail)
  ((first | apply At.done_ret ); (focus (repeat' (first | exact ResVs.nil' | apply ResVs.cons' | exact ResV.tmp' rfl ))); dsimp only [resVal])
  exact ⟨b, rfl, rfl⟩

theorem step_u64 {xs : List Nat} {i b : Nat} (hi : i < 8) (hx : xs[i]? = some b) (hB : Byt xs) :
    bits .or .u64 (IntKind.u64.wrap (((num (xs.take i) : Nat) : Int) * 2 ^ (min (8 : Int).toNat IntKind.u64.bits))) (IntKind.u64.wrap (b : Int)) = ((num (xs.take (i + 1)) : Nat) : Int) := by
  have hlt := (List.getElem?_eq_some_iff.1 hx).1
  have h1 := num_lt i (xs.take i) (by rw [List.length_take]; omega) (hB.take i)
  have h2 : 256 ^ i ≤ 256 ^ 7 := Nat.pow_le_pow_right (by omega) (by omega)
  have h3 : (256 : Nat) ^ 7 = 72057594037927936 := by decide
  have h4 : b < 256 := hB b (List.mem_of_getElem? hx)
  have e1 : min (8 : Int).toNat IntKind.u64.bits = 8 := by decide
  rw [e1]
  have e2 : ((num (xs.take i) : Nat) : Int) * 2 ^ 8 = ((num (xs.take i) * 256 : Nat) : Int) := by
    rw [Int.natCast_mul]; try rfl
  rw [wrap_u64 (n := b) (by omega)]
  have e3 : IntKind.u64.wrap (((num (xs.take i) : Nat) : Int) * 2 ^ 8) = ((num (xs.take i) : Nat) : Int) * 2 ^ 8 := by
    rw [e2, wrap_u64 (by omega)]
  rw [e3, or_u64 (by omega) h4, List.take_add_one, hx]
  simp only [Option.toList_some]
  rw [num_snoc]

theorem Take_p (β : Nat → Option Obj) (σ : Heap) (br m c : Nat) (xs : List Nat) (p : Option Addr) (size : Int) (hl : xs.length = m) (hB : Byt xs) (hmc : m ≤ c) (hv : SL β ((br, cl [.slice p m c] 126) :: σ) 1 m (by8 xs) p) (hm : m ≤ 281474976710656) :
    Go.K.Tr Tryd.prog 73 [.pointer (some ⟨br, 0, none⟩), .int .i64 size] β ((br, cl [.slice p m c] 126) :: σ) (fun v' σ' =>
      (wMay size = false ∧ v' = .tuple #[.int .u64 0, .int .i64 1] ∧ σ' = (br, cl [.slice p m c] 126) :: σ) ∨
      (wMay size = true ∧ (m : Int) < size ∧ v' = .tuple #[.int .u64 0, .int .i64 17] ∧ σ' = (br, cl [.slice p m c] 126) :: σ) ∨
      (wMay size = true ∧ size ≤ m ∧ v' = .tuple #[.int .u64 ((num (xs.take size.toNat) : Nat) : Int), .int .i64 0] ∧ σ' = (br, cl [.slice (adv 1 p c size.toNat) (m - size.toNat) (c - size.toNat)] 126) :: σ)) := by
  refine Tr.of_body Tryd.tt (args := [.pointer (some ⟨br, 0, none⟩), .int .i64 size]) (fr := [(0, true, .pointer (some ⟨br, 0, none⟩)), (1, true, .int .i64 size)]) Tryd.func73 rfl (by decide) rfl Tryd.ntmps73 rfl rfl ?_
  intro E hE
  subst hE
  repeat' (first | refine KW.seq ?_ | refine KW.region ?_ | refine KO.nil ?_ | refine At.then_normal ?_ | refine KW.skip ?_ | refine KW.ret ?_ | refine At.then_ret ?_ | refine KW.block ?_ | refine At.block_ret ?_ | refine KW.cond_f rfl (by first | with_reducible rfl ) ?_ | ((first | apply KO.val rfl rfl rfl ?kq ?_); (case kq => ((first | apply qt_ev rfl ?hi | ((first | apply qt_load1 rfl rfl ?hi rfl rfl ?hm ?hc ); (case hm => repeat (first | exact List.Mem.head _ )); (case hc => rfl)) | refine qt_call rfl rfl ?hi (fun hg => may_p _) | apply qt_eqs rfl rfl rfl ?hi rfl (Or.inl rfl) ); (case hi => (intro h; (repeat' (first | with_reducible exact alln | with_reducible refine allc ?_ ?_ | with_reducible refine andi ?_ ?_)); all_goals (first | with_reducible rfl )))))) | (refine KW.cond rfl ?_ ?_ <;> (intro hc; try simp only [kBool, wMay] at hc)) | fail)
  · ((first | apply At.done_ret ); (focus (repeat' (first | exact ResVs.nil' | apply ResVs.cons' | exact ResV.tmp' rfl ))); dsimp only [resVal])
    refine .inl ⟨?_, rfl, rfl⟩
    simp only [wMay, Bool.and_eq_false_iff, decide_eq_false_iff_not]; exact hc
  · ((first | apply At.done_ret ); (focus (repeat' (first | exact ResVs.nil' | apply ResVs.cons' | exact ResV.tmp' rfl ))); dsimp only [resVal])
    refine .inr (.inl ⟨?_, hc, rfl, rfl⟩)
    simp only [wMay, Bool.and_eq_true, decide_eq_true_eq]; assumption
  · obtain ⟨Z, rfl⟩ : ∃ Z : Nat, size = Z := ⟨size.toNat, by omega⟩
    have hZ : 1 ≤ Z ∧ Z ≤ 8 ∧ Z ≤ m := by omega
    refine KW.loop (fun i : Nat => i ≤ Z) (fun i => ([(24, true, .int .i64 (i : Int)), (23, true, .int .i64 (Z : Int)), (6, true, .int .u64 ((num (xs.take i) : Nat) : Int)), (0, true, .pointer (some ⟨br, 0, none⟩)), (1, true, .int .i64 (Z : Int))], (br, cl [.slice p m c] 126) :: σ)) (fun i => Z - i) 0
      (Nat.zero_le _) (Le.sub (FLe.cons rfl rfl (FLe.cons rfl rfl (FLe.cons rfl rfl (FLe.cons rfl rfl (FLe.cons rfl rfl (FLe.nil _)))))) (List.Sublist.refl _)) ?_
    intro i hi
    dsimp only
    have hv1 := hv
    repeat' (first | refine KW.seq ?_ | refine KW.region ?_ | refine KO.nil ?_ | refine At.then_normal ?_ | refine KW.skip ?_ | refine KW.ret ?_ | refine KW.block ?_ | refine KW.exit ?_ | ((first | apply KO.val rfl rfl rfl ?kq ?_); (case kq => ((first | ((first | apply qt_add rfl rfl rfl ?hi ?om | apply qt_indexAddr_slice rfl rfl rfl ?hi rfl rfl ?om | apply qt_sliceL rfl rfl rfl ?hi rfl rfl ?om ); (case om => (intro hg; first | omega ))) | apply qt_ev rfl ?hi | ((first | apply qt_load1 rfl rfl ?hi rfl rfl ?hm ?hc ); (case hm => repeat (first | exact List.Mem.head _ )); (case hc => rfl)) | ((first | apply qt_shl rfl rfl rfl ?hi ?om); (case om => (intro hg; first | omega )))); (case hi => (intro h; (repeat' (first | with_reducible exact alln | with_reducible refine allc ?_ ?_ | with_reducible refine andi ?_ ?_)); all_goals (first | with_reducible rfl )))))) | (apply KO.store (i := _) rfl rfl rfl rfl rfl rfl rfl rfl ?hl ?sg ?hw ?ho ?hs; (case sg => first | exact (rfl : getI 0 _ = _) ); (case hl => rfl); (case hw => rfl); (case ho => rfl); (case hs => rfl)) | (refine KW.cond rfl ?_ ?_ <;> (intro hc; try simp only [kBool] at hc)) | ((replace hv1 := hv1.2 (by omega)); (obtain ⟨b1, o1, rfl, h1⟩ := hv1); (have hib : (0 : Int) ≤ i ∧ (i : Int) < m := by omega); (obtain ⟨y, hy⟩ : ∃ y, xs[i]? = some y := ⟨_, List.getElem?_eq_getElem (by omega)⟩)) | ((first | apply KO.val (g := true) rfl rfl rfl); (first | (apply qt_load1_cel rfl rfl ?hi rfl rfl ?hc; (case hc => first | exact fun _ => (cel8 h1 hy)))); (case hi => (first | exact fun _ => rfl ))) | fail)
    · refine At.loop_on (i + 1) (by omega) (by omega) (Le.sub (FLe.cons rfl rfl (FLe.cons rfl rfl (FLe.cons rfl ?_ (FLe.cons rfl rfl (FLe.cons rfl rfl (FLe.nil _)))))) (List.Sublist.refl _))
      rw [step_u64 (by omega) hy hB]
    · ((first | apply At.done_ret ); (focus (repeat' (first | exact ResVs.nil' | apply ResVs.cons' | exact ResV.tmp' rfl ))); dsimp only [resVal])
      have : i = Z := by omega
      subst this
      refine .inr (.inr ⟨?_, by omega, rfl, ?_⟩)
      · simp only [wMay, Bool.and_eq_true, decide_eq_true_eq]; omega
      · rfl
end Go.Proofs.YtnaclkdjchnbpaaDoor
end
section
namespace Go.Proofs.YtnaclkdjchnbpaaDoor
open Go.K

/-- The first k of the size bytes of a number, the highest first. -/
def bes (X size k : Nat) : List Nat := (List.range k).map fun j => X / 2 ^ (8 * (size - 1 - j)) % 256
theorem bes_succ (X size k : Nat) : bes X size (k + 1) = bes X size k ++ [X / 2 ^ (8 * (size - 1 - k)) % 256] := by
  simp [bes, List.range_succ]
theorem bes_len (X size k : Nat) : (bes X size k).length = k := by simp [bes]
theorem bes_byt (X size k : Nat) : Byt (bes X size k) := fun n hn => by
  obtain ⟨j, _, rfl⟩ := List.mem_map.1 hn
  exact Nat.mod_lt _ (by decide)
theorem fdiv_nat (X n : Nat) : (X : Int).fdiv (2 ^ n) = ((X / 2 ^ n : Nat) : Int) := by
  rw [Int.fdiv_eq_ediv_of_nonneg _ (Int.le_of_lt (Int.pow_pos (by decide))), Int.natCast_ediv, Int.natCast_pow]
  rfl
theorem wrap_u8 (n : Nat) : IntKind.u8.wrap (n : Int) = ((n % 256 : Nat) : Int) := by
  rw [IntKind.wrap_u8]; omega

structure S19 where
  k : Nat
  v : Value
  φ : Heap

def putE (X : Nat) (size : Int) : Int := if wMay size then (if size < 8 ∧ X / 2 ^ (8 * size.toNat) ≠ 0 then 10 else 0) else 1
def putB (X : Nat) (size : Int) : List Nat := if putE X size = 0 then bes X size.toNat size.toNat else []
set_option maxHeartbeats 2000000 in
theorem Put_p (β : Nat → Option Obj) (bw m : Nat) (v : Value) (φ : Heap) (xs : List Nat) (hl : xs.length = m) (hv : Vec 5 1 m (by8 xs) v φ) (hm : m ≤ 1000000) (X : Nat) (size : Int) (hX : X < 18446744073709551616) :
    Go.K.Tr Tryd.prog 70 [.pointer (some ⟨bw, 0, none⟩), .int .u64 X, .int .i64 size] β ((bw, cl [v] 76) :: φ) (fun v' σ' =>
      v' = .int .i64 (putE X size) ∧ ∃ u φ', Vec 5 1 (m + (putB X size).length) (by8 (xs ++ putB X size)) u φ' ∧ σ' = (bw, cl [u] 76) :: φ') := by
  refine Tr.sub ?_
  obtain ⟨pv, cv, rfl⟩ := hv.len
  refine Tr.of_body Tryd.tt (args := [.pointer (some ⟨bw, 0, none⟩), .int .u64 X, .int .i64 size]) (fr := [(0, true, .pointer (some ⟨bw, 0, none⟩)), (1, true, .int .u64 X), (2, true, .int .i64 size)]) Tryd.func70 rfl (by decide) rfl Tryd.ntmps70 rfl rfl ?_
  intro E hE
  subst hE
  have hsh : ∀ s : Int, 0 ≤ s ∧ s ≤ 8 → (X : Int).fdiv (2 ^ min (8 * s).toNat IntKind.u64.bits) = ((X / 2 ^ (8 * s.toNat) : Nat) : Int) := by
    intro s hs
    have : min (8 * s).toNat IntKind.u64.bits = 8 * s.toNat := by show min (8 * s).toNat 64 = _; omega
    rw [this, fdiv_nat]
  repeat' (first | refine KW.seq ?_ | refine KW.region ?_ | refine KO.nil ?_ | refine At.then_normal ?_ | refine KW.skip ?_ | refine KW.ret ?_ | refine At.then_ret ?_ | refine KW.block ?_ | refine At.block_ret ?_ | refine KW.cond_f rfl (by first | with_reducible rfl ) ?_ | ((first | apply KO.val rfl rfl rfl ?kq ?_ ); (try (case ksub => (intro _ hp; first | exact hp | (cases hp; done) | (repeat (first | exact hp | apply List.mem_cons_of_mem | apply List.mem_append_right)) | (simp_all; done)))); (case kq => ((first | ((first | apply qt_mul rfl rfl rfl ?hi ?om ); (case om => (intro hg; first | omega ))) | apply qt_ev rfl ?hi | refine qt_call rfl rfl ?hi (fun hg => may_p _) | ((first | apply qt_pick_and rfl rfl rfl ?hi ?pj ); (case pj => (intro h h2; first | with_reducible exact h2 ))) | apply qt_eqs rfl rfl rfl ?hi rfl (Or.inl rfl) | ((first | apply qt_shr rfl rfl rfl ?hi ?om); (case om => (intro hg; first | omega )))); (case hi => (intro h; (repeat' (first | with_reducible exact alln | with_reducible refine allc ?_ ?_ | with_reducible refine andi ?_ ?_)); all_goals (first | with_reducible rfl | with_reducible exact h )))))) | (refine KW.cond rfl ?_ ?_ <;> (intro hc; try simp only [kBool, wMay] at hc)) | fail)
  · ((first | apply At.done_ret ); (focus (repeat' (first | exact ResVs.nil' | apply ResVs.cons' | exact ResV.tmp' rfl ))); dsimp only [resVal])
    have e : putE X size = 1 := by
      have : wMay size = false := by simp only [wMay, Bool.and_eq_false_iff, decide_eq_false_iff_not]; exact hc
      simp [putE, this]
    rw [e]
    refine ⟨_, List.Sublist.refl _, rfl, _, φ, ?_, rfl⟩
    simp [putB, e]; exact hv
  · ((first | apply At.done_ret ); (focus (repeat' (first | exact ResVs.nil' | apply ResVs.cons' | exact ResV.tmp' rfl ))); dsimp only [resVal])
    rw [hsh size (by omega)] at hc
    have hw : wMay size = true := by simp only [wMay, Bool.and_eq_true, decide_eq_true_eq]; assumption
    have e : putE X size = 10 := by
      have h2 : X / 2 ^ (8 * size.toNat) ≠ 0 := fun h => hc.2 (by rw [h]; rfl)
      simp only [putE, hw, if_true, hc.1, h2, ne_eq, not_false_eq_true, and_self]
    rw [e]
    refine ⟨_, List.Sublist.refl _, rfl, _, φ, ?_, rfl⟩
    simp [putB, e]; exact hv
  · obtain ⟨Z, rfl⟩ : ∃ Z : Nat, size = Z := ⟨size.toNat, by omega⟩
    have hZ : 1 ≤ Z ∧ Z ≤ 8 := by omega
    refine KW.loop (fun s : S19 => s.k ≤ Z ∧ Vec 5 1 (m + s.k) (by8 (xs ++ bes X Z s.k)) s.v s.φ) (fun s => ([(26, true, .int .i64 (s.k : Int)), (25, true, .int .i64 (Z : Int)), (1, true, .int .u64 (X : Int)), (2, true, .int .i64 (Z : Int)), (0, true, .pointer (some ⟨bw, 0, none⟩))], (bw, cl [s.v] 76) :: s.φ)) (fun s => Z - s.k) ⟨0, _, φ⟩
      ⟨Nat.zero_le _, by simpa [bes] using hv⟩ (Le.sub (FLe.cons rfl rfl (FLe.cons rfl rfl (FLe.cons rfl rfl (FLe.cons rfl rfl (FLe.cons rfl rfl (FLe.nil _)))))) (List.Sublist.refl _)) ?_
    rintro ⟨k, u, φ⟩ ⟨hk, hu⟩
    dsimp only at hk hu ⊢
    obtain ⟨pu, cu, rfl⟩ := hu.len
    repeat' (first | refine KW.seq ?_ | refine KW.region ?_ | refine KO.nil ?_ | refine At.then_normal ?_ | refine KW.skip ?_ | refine KW.ret ?_ | refine KW.block ?_ | refine KW.exit ?_ | refine KW.drawM (id := 10) [1, 0, 0, 0, 0, 0, 0, 0, 0, 0, 0, 0, 0, 2, 3] [] (by decide +kernel) rfl rfl rfl ?_ | refine KDH.mid2 ?_ | refine KDH.mid3 ?_ | refine KDH.done ?_ | refine KDM.head0 ?_ | refine KDM.head1 ?_ | ((first | refine KDM.eo2f rfl rfl rfl (eo_buildSlice rfl rfl rfl rfl rfl rfl rfl rfl rfl rfl rfl) ?_ ); rintro _ _ ⟨_, _, rfl, rfl⟩; refine ⟨?sub, ?_⟩; (case sub => (intro _ hp; first | (repeat (first | exact hp | apply List.mem_cons_of_mem )) ))) | ((first | apply KO.val rfl rfl rfl ?kq ?_ | apply KDH.val0 rfl rfl rfl ?kq ?_ | apply KDH.val1 rfl rfl rfl ?kq ?_ ); (try (case ksub => (intro _ hp; first | exact hp | (cases hp; done) | (repeat (first | exact hp | apply List.mem_cons_of_mem | apply List.mem_append_right)) | (simp_all; done)))); (case kq => ((first | ((first | apply qt_sub rfl rfl rfl ?hi ?om | apply qt_mul rfl rfl rfl ?hi ?om ); (case om => (intro hg; first | omega ))) | apply qt_ev rfl ?hi | ((first | apply qt_load1 rfl rfl ?hi rfl rfl ?hm ?hc ); (case hm => repeat (first | exact List.Mem.head _ )); (case hc => rfl)) | ((first | apply qt_shr rfl rfl rfl ?hi ?om); (case om => (intro hg; first | omega )))); (case hi => (intro h; (repeat' (first | with_reducible exact alln | with_reducible refine allc ?_ ?_ | with_reducible refine andi ?_ ?_)); all_goals (first | with_reducible rfl )))))) | (refine KW.cond rfl ?_ ?_ <;> (intro hc; try simp only [kBool] at hc)) | fail)
    · have e1 : IntKind.u8.wrap ((X : Int).fdiv (2 ^ min (8 * ((Z : Int) - 1 - (k : Int))).toNat IntKind.u64.bits)) = ((X / 2 ^ (8 * (Z - 1 - k)) % 256 : Nat) : Int) := by
        rw [hsh _ (by omega), show ((Z : Int) - 1 - (k : Int)).toNat = Z - 1 - k by omega, wrap_u8]
      refine KDM.eo3 rfl rfl rfl (eo_append [_, (bw, _)] φ rfl rfl rfl rfl rfl rfl rfl (by decide) rfl hu (k := 1) (news := by8 [X / 2 ^ (8 * (Z - 1 - k)) % 256]) rfl ?_ rfl ?_ ?_) ?_
      · intro j w hj
        refine .inl ⟨_, _, List.Mem.head _, ?_⟩
        rw [e1]
        simpa [by8] using hj
      · simp only [maxLen]; omega
      · omega
      · rintro v' _ ⟨φ', hv', rfl⟩
        refine ⟨(by intro p hp; cases hp), ?_⟩
        obtain ⟨p', c', rfl⟩ := hv'.len
        rw [← by8_append, List.append_assoc, ← bes_succ] at hv'
        repeat' (first | refine KW.region ?_ | refine KO.nil ?_ | refine KDM.fin ?_ | ((first | apply KO.val rfl rfl rfl ?kq ?_ ); (try (case ksub => (intro _ hp; first | exact hp | (cases hp; done) | (repeat (first | exact hp | apply List.mem_cons_of_mem | apply List.mem_append_right)) | (simp_all; done)))); (case kq => ((first | ((first | apply qt_add rfl rfl rfl ?hi ?om ); (case om => (intro hg; first | omega ))) | apply qt_ev rfl ?hi ); (case hi => (intro h; (repeat' (first | with_reducible exact alln | with_reducible refine allc ?_ ?_ | with_reducible refine andi ?_ ?_)); all_goals (first | with_reducible rfl )))))) | (apply KO.store (i := _) rfl rfl rfl rfl rfl rfl rfl rfl ?hl ?sg ?hw ?ho ?hs; (case sg => first | exact (rfl : getI 1 _ = _) ); (case hl => rfl); (case hw => rfl); (case ho => rfl); (case hs => rfl)) | fail)
        refine At.loop_on ⟨k + 1, _, φ'⟩ ⟨by dsimp only; omega, hv'⟩ (by dsimp only; omega) (Le.sub (FLe.cons rfl rfl (FLe.cons rfl rfl (FLe.cons rfl rfl (FLe.cons rfl rfl (FLe.cons rfl rfl (FLe.nil _)))))) (List.Sublist.cons _ (List.Sublist.refl _)))
    · ((first | apply At.done_ret ); (focus (repeat' (first | exact ResVs.nil' | apply ResVs.cons' | exact ResV.tmp' rfl ))); dsimp only [resVal])
      have hk2 : k = Z := by omega
      subst hk2
      have e : putE X (k : Int) = 0 := by
        have h1 : wMay (k : Int) = true := by simp only [wMay, Bool.and_eq_true, decide_eq_true_eq]; omega
        have hc3 : ¬ ((k : Int) < 8) ∨ ((X / 2 ^ (8 * (k : Int).toNat) : Nat) : Int) = 0 := by
          rw [← hsh _ (by omega)]; assumption
        have h2 : ¬ ((k : Int) < 8 ∧ X / 2 ^ (8 * (k : Int).toNat) ≠ 0) := by
          rintro ⟨h3, h4⟩
          rcases hc3 with h | h
          · exact h h3
          · exact h4 (by omega)
        rw [putE, h1, if_pos rfl, if_neg h2]
      rw [e]
      refine ⟨_, List.Sublist.refl _, rfl, _, φ, ?_, rfl⟩
      simp only [putB, e, if_true, Int.toNat_natCast, bes_len]
      exact hu
theorem Bytes_p (β : Nat → Option Obj) (bw m : Nat) (v : Value) (φ : Heap) (xs : List Nat) (hl : xs.length = m) (hv : Vec 5 1 m (by8 xs) v φ) (hm : m ≤ 1000000) :
    Go.K.Tr Tryd.prog 31 [.pointer (some ⟨bw, 0, none⟩)] β ((bw, cl [v] 76) :: φ) (fun v' σ' => ∃ b, v' = .slice (some ⟨b, 0, none⟩) m m ∧ σ' = (b, cl (by8 xs) 5) :: (bw, cl [v] 76) :: φ) := by
  obtain ⟨pv, cv, rfl⟩ := hv.len
  refine Tr.of_body Tryd.tt (args := [.pointer (some ⟨bw, 0, none⟩)]) (fr := [(0, true, .pointer (some ⟨bw, 0, none⟩))]) Tryd.func31 rfl (by decide) rfl Tryd.ntmps31 rfl rfl ?_
  intro E hE
  subst hE
  repeat' (first | refine KW.seq ?_ | refine KW.region ?_ | refine KO.nil ?_ | refine At.then_normal ?_ | refine KW.skip ?_ | refine KW.cond_f rfl (by first | with_reducible rfl ) ?_ | ((first | apply KO.val rfl rfl rfl ?kq ?_); (case kq => ((first | apply qt_ev rfl ?hi | ((first | apply qt_load1 rfl rfl ?hi rfl rfl ?hm ?hc ); (case hm => repeat (first | exact List.Mem.head _ )); (case hc => rfl)) | apply qt_eqs rfl rfl rfl ?hi rfl (Or.inl rfl) ); (case hi => (intro h; (repeat' (first | with_reducible exact alln | with_reducible refine allc ?_ ?_ | with_reducible refine andi ?_ ?_)); all_goals (first | with_reducible rfl )))))) | fail)
  refine KO.callA rfl rfl rfl rfl rfl rfl rfl (own_p _ _ _ _ (by8 xs) _ (SL.ofVec hv (fun q hq => List.mem_cons_of_mem _ hq)) ?_ (by8_one _) (by omega)) ?_
  · rintro rfl
    rcases hv.2 with ⟨h1, h2, _⟩ | ⟨g, cap, sp, h1, _⟩
    · simp only [Value.slice.injEq] at h1; exact ⟨h1.2.2, h2⟩
    · simp at h1
  rintro _ _ ⟨b, rfl, rfl⟩
  repeat' (first | refine KO.nil ?_ | refine At.then_normal ?_ | refine KW.ret ?_ | ((first | apply KO.val rfl rfl rfl ?kq ?_); (case kq => ((first | apply qt_ev rfl ?hi ); (case hi => (intro h; (repeat' (first | with_reducible exact alln | with_reducible refine allc ?_ ?_ )); all_goals (first | with_reducible rfl )))))) | fail)
  ((first | apply At.done_ret ); (focus (repeat' (first | exact ResVs.nil' | apply ResVs.cons' | exact ResV.tmp' rfl ))); dsimp only [resVal])
  exact ⟨b, rfl, rfl⟩
end Go.Proofs.YtnaclkdjchnbpaaDoor
end
section
namespace Go.Proofs.YtnaclkdjchnbpaaDoor
open Go Go.K


/-- An error: a number; one that came of another one; two; another one. -/
inductive ErrT where
  | code (e : Int)
  | fault (b : Nat) (op : ByteArray) (t : ErrT)
  | pair (b : Nat) (l r : ErrT)
def ErrT.val : ErrT → Value
  | .code e => .iface 32 (.int .i64 e)
  | .fault b _ _ => .iface 100 (.pointer (some ⟨b, 0, none⟩))
  | .pair b _ _ => .iface 141 (.pointer (some ⟨b, 0, none⟩))
def ErrT.Lies (β : Nat → Option Obj) (σ : Heap) : ErrT → Prop
  | .code _ => True
  | .fault b op t => Cel β σ b 0 (.string op) ∧ Cel β σ b 1 t.val ∧ t.Lies β σ
  | .pair b l r => Cel β σ b 0 l.val ∧ Cel β σ b 1 r.val ∧ l.Lies β σ ∧ r.Lies β σ
theorem ErrT.Lies.mono {β : Nat → Option Obj} {σ σ' : Heap} (hs : ∀ q ∈ σ, q ∈ σ') : ∀ {t : ErrT}, t.Lies β σ → t.Lies β σ'
  | .code _, _ => trivial
  | .fault _ _ _, h => ⟨h.1.mono hs, h.2.1.mono hs, ErrT.Lies.mono hs h.2.2⟩
  | .pair _ _ _, h => ⟨h.1.mono hs, h.2.1.mono hs, ErrT.Lies.mono hs h.2.2.1, ErrT.Lies.mono hs h.2.2.2⟩
theorem ErrT.Lies.frz {β β' : Nat → Option Obj} {φ : Heap} (h1 : ∀ b o, β b = some o → β' b = some o) (h2 : ∀ p ∈ φ, β' p.1 = some p.2) : ∀ {t : ErrT}, t.Lies β φ → t.Lies β' []
  | .code _, _ => trivial
  | .fault _ _ _, h => ⟨h.1.frz h1 h2, h.2.1.frz h1 h2, ErrT.Lies.frz h1 h2 h.2.2⟩
  | .pair _ _ _, h => ⟨h.1.frz h1 h2, h.2.1.frz h1 h2, ErrT.Lies.frz h1 h2 h.2.2.1, ErrT.Lies.frz h1 h2 h.2.2.2⟩
/-- The errors that a walk sees, in order. -/
def ErrT.pre : ErrT → List ErrT
  | .code e => [.code e]
  | .fault b op t => .fault b op t :: t.pre
  | .pair b l r => .pair b l r :: (l.pre ++ r.pre)
/-- A type asked for: one that is no interface's. -/
theorem ta_conc {P : Program} {A : TypeId} {z : Value} {d : TypeDesc} (hd : P.underlying A = some d) (hn : (match d with | .interface _ => true | _ => false) = false) (hz : (P.info? A).map (·.zero) = some (some z)) (T xt : TypeId) (v : Value) (w : World) :
    (Instr.typeAssert (.iface T v) xt A true).run P w = .ok (.tuple [if T = A then v else z, .bool (decide (T = A))].toArray) w := by
  unfold Instr.typeAssert
  have e1 : (underlying A).run P w = .ok d w := by simp [underlying, hd]
  have e2 : (zeroValue A).run P w = .ok z w := by
    cases hi : P.info? A with
    | none => rw [hi] at hz; cases hz
    | some i => rw [hi] at hz; simp only [Option.map_some, Option.some.injEq] at hz; simp [zeroValue, typeInfo, hi, hz]
  by_cases e : T = A
  · cases d <;> first | (cases hn; done) | simp [Sem.run_bind, e1, e]
  · cases d <;> first | (cases hn; done) | simp [Sem.run_bind, e1, e2, e]
theorem ta_hit {P : Program} {A : TypeId} {z : Value} {d : TypeDesc} (hd : P.underlying A = some d) (hn : (match d with | .interface _ => true | _ => false) = false) (hz : (P.info? A).map (·.zero) = some (some z)) (xt : TypeId) (v : Value) (w : World) :
    (Instr.typeAssert (.iface A v) xt A true).run P w = .ok (.tuple [v, .bool true].toArray) w := by
  have := ta_conc hd hn hz A xt v w
  rwa [if_pos rfl, decide_eq_true rfl] at this
theorem ta_miss {P : Program} {A : TypeId} {z : Value} {d : TypeDesc} (hd : P.underlying A = some d) (hn : (match d with | .interface _ => true | _ => false) = false) (hz : (P.info? A).map (·.zero) = some (some z)) {T : TypeId} (hT : T ≠ A) (xt : TypeId) (v : Value) (w : World) :
    (Instr.typeAssert (.iface T v) xt A true).run P w = .ok (.tuple [z, .bool false].toArray) w := by
  have := ta_conc hd hn hz T xt v w
  rwa [if_neg hT, decide_eq_false hT] at this
theorem taF1 (xt : TypeId) (v : Value) : TAs Tryd.prog (.iface 100 v) xt 100 (.tuple [v, .bool true].toArray) := ⟨fun w => ta_hit Tryd.underlying100 rfl (z := .pointer none) (by kernel_rfl) xt v w⟩
theorem taF0 {T : TypeId} (hT : T ≠ 100) (xt : TypeId) (v : Value) : TAs Tryd.prog (.iface T v) xt 100 (.tuple [.pointer none, .bool false].toArray) := ⟨fun w => ta_miss Tryd.underlying100 rfl (by kernel_rfl) hT xt v w⟩
theorem taP1 (xt : TypeId) (v : Value) : TAs Tryd.prog (.iface 141 v) xt 141 (.tuple [v, .bool true].toArray) := ⟨fun w => ta_hit Tryd.underlying141 rfl (z := .pointer none) (by kernel_rfl) xt v w⟩
theorem taP0 {T : TypeId} (hT : T ≠ 141) (xt : TypeId) (v : Value) : TAs Tryd.prog (.iface T v) xt 141 (.tuple [.pointer none, .bool false].toArray) := ⟨fun w => ta_miss Tryd.underlying141 rfl (by kernel_rfl) hT xt v w⟩
theorem taE1 (xt : TypeId) (v : Value) : TAs Tryd.prog (.iface 32 v) xt 32 (.tuple [v, .bool true].toArray) := ⟨fun w => ta_hit Tryd.underlying32 rfl (z := .int .i64 0) (by kernel_rfl) xt v w⟩
theorem taE0 {T : TypeId} (hT : T ≠ 32) (xt : TypeId) (v : Value) : TAs Tryd.prog (.iface T v) xt 32 (.tuple [.int .i64 0, .bool false].toArray) := ⟨fun w => ta_miss Tryd.underlying32 rfl (by kernel_rfl) hT xt v w⟩
theorem walk_p (β : Nat → Option Obj) (f : FuncId) (bo : Nat) (N : Nat) (P : List ErrT → Heap → Prop)
    (hsee : ∀ l σ e, l.length < N → P l σ → e.Lies β [] → Go.K.Tr Tryd.prog f [e.val, .pointer (some ⟨bo, 0, none⟩)] β σ (fun v σ' => v = .tuple #[] ∧ P (l ++ [e]) σ')) :
    ∀ (t : ErrT), t.Lies β [] → ∀ l σ, l.length + t.pre.length ≤ N → P l σ → Go.K.Tr Tryd.prog 59 [t.val, .func (.func f) #[] #[.pointer (some ⟨bo, 0, none⟩)]] β σ (fun v σ' => v = .tuple #[] ∧ P (l ++ t.pre) σ') := by
  intro t
  induction t with
  | code e =>
    intro hl l σ hN hP
    simp only [ErrT.pre, List.length_cons, List.length_append, List.length_nil] at hN
    have hs : Go.K.Tr Tryd.prog f [.iface 32 (.int .i64 e), .pointer (some ⟨bo, 0, none⟩)] β σ (fun v σ' => v = .tuple #[] ∧ P (l ++ [.code e]) σ') := hsee l σ (.code e) (by omega) hP hl
    show Go.K.Tr Tryd.prog 59 [.iface 32 (.int .i64 e), .func (.func f) #[] #[.pointer (some ⟨bo, 0, none⟩)]] β σ _
    refine Tr.of_body Tryd.tt (args := [.iface 32 (.int .i64 e), .func (.func f) #[] #[.pointer (some ⟨bo, 0, none⟩)]]) (fr := [(0, true, .iface 32 (.int .i64 e)), (1, true, .func (.func f) #[] #[.pointer (some ⟨bo, 0, none⟩)])]) Tryd.func59 rfl (by decide) rfl Tryd.ntmps59 rfl rfl ?_
    intro E hE
    subst hE
    repeat' (first | refine KW.seq ?_ | refine KW.region ?_ | refine KO.nil ?_ | refine At.then_normal ?_ | refine KW.skip ?_ | refine KW.cond_f rfl (by first | with_reducible rfl ) ?_ | ((first | apply KO.val rfl rfl rfl ?kq ?_); (case kq => ((first | apply qt_ev rfl ?hi | apply qt_eqs rfl rfl rfl ?hi rfl (Or.inl rfl) ); (case hi => (intro h; (repeat' (first | with_reducible exact alln | with_reducible refine allc ?_ ?_ | with_reducible refine andi ?_ ?_)); all_goals (first | with_reducible rfl )))))) | fail)
    refine KO.callF σ [] (by simp) rfl rfl rfl rfl rfl rfl rfl hs ?_
    rintro _ σ1 ⟨rfl, h1⟩
    rw [List.append_nil]
    repeat' (first | refine KW.seq ?_ | refine KW.region ?_ | refine KO.nil ?_ | refine At.then_normal ?_ | refine KW.skip ?_ | refine KW.block ?_ | refine At.block_normal ?_ | refine KW.cond_f rfl (by first | with_reducible rfl ) ?_ | ((first | apply KO.val rfl rfl rfl ?kq ?_); (case kq => ((first | apply qt_ev rfl ?hi | (refine qt_ta rfl rfl ?hi (taF0 ?hT _ _); (case hT => decide)) | (refine qt_ta rfl rfl ?hi (taP0 ?hT _ _); (case hT => decide)) ); (case hi => (intro h; (repeat' (first | with_reducible exact alln | with_reducible refine allc ?_ ?_ )); all_goals (first | with_reducible rfl )))))) | fail)
    ((first | apply At.done_normal); (focus (repeat' (first | exact ResVs.nil' ))); dsimp only [resVal])
    exact ⟨rfl, h1⟩
  | fault b op t ih =>
    intro hl l σ hN hP
    simp only [ErrT.pre, List.length_cons, List.length_append, List.length_nil] at hN
    have hs : Go.K.Tr Tryd.prog f [.iface 100 (.pointer (some ⟨b, 0, none⟩)), .pointer (some ⟨bo, 0, none⟩)] β σ (fun v σ' => v = .tuple #[] ∧ P (l ++ [.fault b op t]) σ') := hsee l σ (.fault b op t) (by omega) hP hl
    show Go.K.Tr Tryd.prog 59 [.iface 100 (.pointer (some ⟨b, 0, none⟩)), .func (.func f) #[] #[.pointer (some ⟨bo, 0, none⟩)]] β σ _
    refine Tr.of_body Tryd.tt (args := [.iface 100 (.pointer (some ⟨b, 0, none⟩)), .func (.func f) #[] #[.pointer (some ⟨bo, 0, none⟩)]]) (fr := [(0, true, .iface 100 (.pointer (some ⟨b, 0, none⟩))), (1, true, .func (.func f) #[] #[.pointer (some ⟨bo, 0, none⟩)])]) Tryd.func59 rfl (by decide) rfl Tryd.ntmps59 rfl rfl ?_
    intro E hE
    subst hE
    repeat' (first | refine KW.seq ?_ | refine KW.region ?_ | refine KO.nil ?_ | refine At.then_normal ?_ | refine KW.skip ?_ | refine KW.cond_f rfl (by first | with_reducible rfl ) ?_ | ((first | apply KO.val rfl rfl rfl ?kq ?_); (case kq => ((first | apply qt_ev rfl ?hi | apply qt_eqs rfl rfl rfl ?hi rfl (Or.inl rfl) ); (case hi => (intro h; (repeat' (first | with_reducible exact alln | with_reducible refine allc ?_ ?_ | with_reducible refine andi ?_ ?_)); all_goals (first | with_reducible rfl )))))) | fail)
    refine KO.callF σ [] (by simp) rfl rfl rfl rfl rfl rfl rfl hs ?_
    rintro _ σ1 ⟨rfl, h1⟩
    rw [List.append_nil]
    repeat' (first | refine KW.seq ?_ | refine KW.region ?_ | refine KO.nil ?_ | refine At.then_normal ?_ | refine KW.block ?_ | refine KW.cond_t rfl (by first | with_reducible rfl ) ?_ | ((first | apply KO.val rfl rfl rfl ?kq ?_); (case kq => ((first | apply qt_ev rfl ?hi | refine qt_ta rfl rfl ?hi (taF1 _ _) ); (case hi => (intro h; (repeat' (first | with_reducible exact alln | with_reducible refine allc ?_ ?_ )); all_goals (first | with_reducible rfl )))))) | ((first | apply KO.val (g := true) rfl rfl rfl); (first | (apply qt_load1_cel rfl rfl ?hi rfl rfl ?hc; (case hc => first | exact fun _ => (hl.2.1.mono (fun _ hq => by cases hq))))); (case hi => (first | exact fun _ => rfl ))) | fail)
    refine KO.callF σ1 [] (by simp) rfl rfl rfl rfl rfl rfl rfl (ih hl.2.2 _ σ1 (by simp only [List.length_append, List.length_cons, List.length_nil]; omega) h1) ?_
    rintro _ σ2 ⟨rfl, h2⟩
    rw [List.append_nil]
    repeat' (first | refine KO.nil ?_ | refine At.block_normal ?_ | fail)
    ((first | apply At.done_normal); (focus (repeat' (first | exact ResVs.nil' ))); dsimp only [resVal])
    refine ⟨rfl, ?_⟩
    rw [show l ++ ErrT.pre (.fault b op t) = l ++ [.fault b op t] ++ t.pre by rw [ErrT.pre, List.append_assoc]; rfl]
    exact h2
  | pair b t r ih1 ih2 =>
    intro hl l σ hN hP
    simp only [ErrT.pre, List.length_cons, List.length_append, List.length_nil] at hN
    have hs : Go.K.Tr Tryd.prog f [.iface 141 (.pointer (some ⟨b, 0, none⟩)), .pointer (some ⟨bo, 0, none⟩)] β σ (fun v σ' => v = .tuple #[] ∧ P (l ++ [.pair b t r]) σ') := hsee l σ (.pair b t r) (by omega) hP hl
    show Go.K.Tr Tryd.prog 59 [.iface 141 (.pointer (some ⟨b, 0, none⟩)), .func (.func f) #[] #[.pointer (some ⟨bo, 0, none⟩)]] β σ _
    refine Tr.of_body Tryd.tt (args := [.iface 141 (.pointer (some ⟨b, 0, none⟩)), .func (.func f) #[] #[.pointer (some ⟨bo, 0, none⟩)]]) (fr := [(0, true, .iface 141 (.pointer (some ⟨b, 0, none⟩))), (1, true, .func (.func f) #[] #[.pointer (some ⟨bo, 0, none⟩)])]) Tryd.func59 rfl (by decide) rfl Tryd.ntmps59 rfl rfl ?_
    intro E hE
    subst hE
    repeat' (first | refine KW.seq ?_ | refine KW.region ?_ | refine KO.nil ?_ | refine At.then_normal ?_ | refine KW.skip ?_ | refine KW.cond_f rfl (by first | with_reducible rfl ) ?_ | ((first | apply KO.val rfl rfl rfl ?kq ?_); (case kq => ((first | apply qt_ev rfl ?hi | apply qt_eqs rfl rfl rfl ?hi rfl (Or.inl rfl) ); (case hi => (intro h; (repeat' (first | with_reducible exact alln | with_reducible refine allc ?_ ?_ | with_reducible refine andi ?_ ?_)); all_goals (first | with_reducible rfl )))))) | fail)
    refine KO.callF σ [] (by simp) rfl rfl rfl rfl rfl rfl rfl hs ?_
    rintro _ σ1 ⟨rfl, h1⟩
    rw [List.append_nil]
    repeat' (first | refine KW.seq ?_ | refine KW.region ?_ | refine KO.nil ?_ | refine At.then_normal ?_ | refine KW.block ?_ | refine KW.cond_t rfl (by first | with_reducible rfl ) ?_ | refine KW.cond_f rfl (by first | with_reducible rfl ) ?_ | ((first | apply KO.val rfl rfl rfl ?kq ?_); (case kq => ((first | apply qt_ev rfl ?hi | (refine qt_ta rfl rfl ?hi (taF0 ?hT _ _); (case hT => decide)) | refine qt_ta rfl rfl ?hi (taP1 _ _) ); (case hi => (intro h; (repeat' (first | with_reducible exact alln | with_reducible refine allc ?_ ?_ )); all_goals (first | with_reducible rfl )))))) | ((first | apply KO.val (g := true) rfl rfl rfl); (first | (apply qt_load1_cel rfl rfl ?hi rfl rfl ?hc; (case hc => first | exact fun _ => (hl.1.mono (fun _ hq => by cases hq)) ))); (case hi => (first | exact fun _ => rfl ))) | fail)
    refine KO.callF σ1 [] (by simp) rfl rfl rfl rfl rfl rfl rfl (ih1 hl.2.2.1 _ σ1 (by simp only [List.length_append, List.length_cons, List.length_nil]; omega) h1) ?_
    rintro _ σ2 ⟨rfl, h2⟩
    rw [List.append_nil]
    repeat' (first | refine KW.region ?_ | refine KO.nil ?_ | ((first | apply KO.val rfl rfl rfl ?kq ?_); (case kq => ((first | apply qt_ev rfl ?hi ); (case hi => (intro h; (repeat' (first | with_reducible exact alln | with_reducible refine allc ?_ ?_ )); all_goals (first | with_reducible rfl )))))) | ((first | apply KO.val (g := true) rfl rfl rfl); (first | (apply qt_load1_cel rfl rfl ?hi rfl rfl ?hc; (case hc => first | exact fun _ => (hl.2.1.mono (fun _ hq => by cases hq))))); (case hi => (first | exact fun _ => rfl ))) | fail)
    refine KO.callF σ2 [] (by simp) rfl rfl rfl rfl rfl rfl rfl (ih2 hl.2.2.2 _ σ2 (by simp only [List.length_append, List.length_cons, List.length_nil]; omega) h2) ?_
    rintro _ σ3 ⟨rfl, h3⟩
    rw [List.append_nil]
    repeat' (first | refine KO.nil ?_ | refine At.block_normal ?_ | fail)
    ((first | apply At.done_normal); (focus (repeat' (first | exact ResVs.nil' ))); dsimp only [resVal])
    refine ⟨rfl, ?_⟩
    rw [show l ++ ErrT.pre (.pair b t r) = l ++ [.pair b t r] ++ t.pre ++ r.pre by rw [ErrT.pre, List.append_assoc, List.append_assoc]; rfl]
    exact h3
end Go.Proofs.YtnaclkdjchnbpaaDoor
end
section
namespace Go.Proofs.YtnaclkdjchnbpaaDoor
open Go Go.K

def ErrT.opOf : ErrT → Option ByteArray
  | .fault _ op _ => some op
  | _ => none
def ErrT.codeOf : ErrT → Option Int
  | .code e => some e
  | _ => none
def sv (l : List ByteArray) : List Value := l.map Value.string
def iv (l : List Int) : List Value := l.map (Value.int .i64)
theorem sv_len (l : List ByteArray) : (sv l).length = l.length := by simp [sv]
theorem iv_len (l : List Int) : (iv l).length = l.length := by simp [iv]
theorem sv_append (a b : List ByteArray) : sv (a ++ b) = sv a ++ sv b := by simp [sv]
theorem iv_append (a b : List Int) : iv (a ++ b) = iv a ++ iv b := by simp [iv]
/-- The first 32 things that were done. -/
def ops32 (l : List ErrT) : List ByteArray := (l.filterMap ErrT.opOf).take 32
def codes (l : List ErrT) : List Int := l.filterMap ErrT.codeOf
theorem ops32_none {l : List ErrT} {e : ErrT} (h : e.opOf = none) : ops32 (l ++ [e]) = ops32 l := by simp [ops32, h]
theorem ops32_some {l : List ErrT} {e : ErrT} {s : ByteArray} (h : e.opOf = some s) (hl : (ops32 l).length < 32) : ops32 (l ++ [e]) = ops32 l ++ [s] := by
  have h1 : (l.filterMap ErrT.opOf).length < 32 := by
    unfold ops32 at hl; rw [List.length_take] at hl; omega
  unfold ops32
  rw [List.filterMap_append, List.take_of_length_le (by simp [h]; omega), List.take_of_length_le (by omega)]
  simp [h]
theorem ops32_full {l : List ErrT} (e : ErrT) (hl : ¬ (ops32 l).length < 32) : ops32 (l ++ [e]) = ops32 l := by
  have h1 : 32 ≤ (l.filterMap ErrT.opOf).length := by
    unfold ops32 at hl; rw [List.length_take] at hl; omega
  unfold ops32
  rw [List.filterMap_append, List.take_append_of_le_length h1]
theorem ops32_le (l : List ErrT) : (ops32 l).length ≤ 32 := by unfold ops32; rw [List.length_take]; omega
theorem codes_none {l : List ErrT} {e : ErrT} (h : e.codeOf = none) : codes (l ++ [e]) = codes l := by simp [codes, h]
theorem codes_some {l : List ErrT} {e : ErrT} {s : Int} (h : e.codeOf = some s) : codes (l ++ [e]) = codes l ++ [s] := by simp [codes, h]
def PT (bo : Nat) (l : List ErrT) (σ : Heap) : Prop := ∃ z φ, Vec 9 1 (ops32 l).length (sv (ops32 l)) z φ ∧ σ = (bo, cl [z] 92) :: φ
theorem TrailS_p (β : Nat → Option Obj) (bo : Nat) (l : List ErrT) (σ : Heap) (e : ErrT) (hP : PT bo l σ) (he : e.Lies β []) :
    Go.K.Tr Tryd.prog 60 [e.val, .pointer (some ⟨bo, 0, none⟩)] β σ (fun v σ' => v = .tuple #[] ∧ PT bo (l ++ [e]) σ') := by
  obtain ⟨z, φ, hz, rfl⟩ := hP
  obtain ⟨p, c, rfl⟩ := hz.len
  have hle := ops32_le l
  match e, he with
  | .fault b op t, he =>
    show Go.K.Tr Tryd.prog 60 [.iface 100 (.pointer (some ⟨b, 0, none⟩)), .pointer (some ⟨bo, 0, none⟩)] β _ _
    refine Tr.sub ?_
    refine Tr.of_body Tryd.tt (args := [.iface 100 (.pointer (some ⟨b, 0, none⟩)), .pointer (some ⟨bo, 0, none⟩)]) (fr := [(0, true, .iface 100 (.pointer (some ⟨b, 0, none⟩))), (1, true, .pointer (some ⟨bo, 0, none⟩))]) Tryd.func60 rfl (by decide) rfl Tryd.ntmps60 rfl rfl ?_
    intro E hE
    subst hE
    repeat' (first | refine KW.seq ?_ | refine KW.region ?_ | refine KO.nil ?_ | refine At.then_normal ?_ | refine KW.skip ?_ | refine KW.drawM (id := 2) [0, 0, 0, 0, 0, 2] [] (by decide +kernel) rfl rfl rfl ?_ | refine KDH.mid2 ?_ | refine KDH.done ?_ | refine KDM.head0 ?_ | refine KDM.fin ?_ | ((first | refine KDM.eo2f rfl rfl rfl (eo_buildSlice rfl rfl rfl rfl rfl rfl rfl rfl rfl rfl rfl) ?_ ); rintro _ _ ⟨_, _, rfl, rfl⟩; refine ⟨?sub, ?_⟩; (case sub => (intro _ hp; first | (repeat (first | exact hp | apply List.mem_cons_of_mem )) ))) | ((first | apply KO.val rfl rfl rfl ?kq ?_ | apply KDH.val0 rfl rfl rfl ?kq ?_ ); (try (case ksub => (intro _ hp; first | exact hp | (cases hp; done) | (repeat (first | exact hp | apply List.mem_cons_of_mem | apply List.mem_append_right)) | (simp_all; done)))); (case kq => ((first | apply qt_ev rfl ?hi | ((first | apply qt_load1 rfl rfl ?hi rfl rfl ?hm ?hc ); (case hm => repeat (first | exact List.Mem.head _ )); (case hc => rfl)) | refine qt_ta rfl rfl ?hi (taF1 _ _) | apply qt_pick_t rfl rfl (by first | with_reducible rfl ) rfl ?hi ); (case hi => (intro h; (repeat' (first | with_reducible exact alln | with_reducible refine allc ?_ ?_ | with_reducible refine andi ?_ ?_)); all_goals (first | with_reducible rfl )))))) | (refine KW.cond rfl ?_ ?_ <;> (intro hc; try simp only [kBool] at hc)) | ((first | apply KDH.val0 (g := true) rfl rfl rfl ); (first | (apply qt_load1_cel rfl rfl ?hi rfl rfl ?hc; (case hc => first | exact fun _ => (he.1.mono (fun _ hq => by cases hq))))); (case hi => (first | exact fun _ => rfl ))) | fail)
    · rename_i bS _
      have hlt : (ops32 l).length < 32 := by omega
      refine KO.appendF (k := 1) (news := [.string op]) ((bS, cl [.string op] 9) :: (bo, cl [.slice p (ops32 l).length c] 92) :: []) φ (by classical exact List.perm_iff_count.2 (fun _ => by first | (simp only [List.count_append, List.count_cons, List.count_nil, List.append_assoc, List.cons_append, List.nil_append]; done) )) rfl rfl rfl rfl rfl rfl rfl rfl rfl rfl (by decide) hz rfl (fun j u hj => .inl ⟨_, _, List.Mem.head _, by simpa using hj⟩) rfl (by simp only [maxLen]; omega) (by omega) ?_
      intro v' φ' hv'
      obtain ⟨pw', cw', rfl⟩ := hv'.len
      repeat' (first | refine KO.nil ?_ | (apply KO.store (i := _) rfl rfl rfl rfl rfl rfl rfl rfl ?hl ?sg ?hw ?ho ?hs; (case sg => first | exact (rfl : getI 1 _ = _) ); (case hl => rfl); (case hw => rfl); (case ho => rfl); (case hs => rfl)) | fail)
      ((first | apply At.done_normal); (focus (repeat' (first | exact ResVs.nil' ))); dsimp only [resVal])
      refine ⟨_, List.Sublist.cons _ (List.Sublist.refl _), rfl, ?_⟩
      unfold PT
      rw [ops32_some (e := .fault b op t) rfl hlt, sv_append, List.length_append]
      exact ⟨_, φ', hv', rfl⟩
    · ((first | apply At.done_normal); (focus (repeat' (first | exact ResVs.nil' ))); dsimp only [resVal])
      refine ⟨_, List.Sublist.refl _, rfl, ?_⟩
      unfold PT
      rw [ops32_full _ (by omega)]
      exact ⟨_, φ, hz, rfl⟩
  | .pair b t r, he =>
    show Go.K.Tr Tryd.prog 60 [.iface 141 (.pointer (some ⟨b, 0, none⟩)), .pointer (some ⟨bo, 0, none⟩)] β _ _
    refine Tr.of_body Tryd.tt (args := [.iface 141 (.pointer (some ⟨b, 0, none⟩)), .pointer (some ⟨bo, 0, none⟩)]) (fr := [(0, true, .iface 141 (.pointer (some ⟨b, 0, none⟩))), (1, true, .pointer (some ⟨bo, 0, none⟩))]) Tryd.func60 rfl (by decide) rfl Tryd.ntmps60 rfl rfl ?_
    intro E hE
    subst hE
    repeat' (first | refine KW.seq ?_ | refine KW.region ?_ | refine KO.nil ?_ | refine At.then_normal ?_ | refine KW.skip ?_ | refine KW.cond_f rfl (by first | with_reducible rfl ) ?_ | refine KO.skip' rfl (by first | with_reducible rfl ) rfl rfl ?_ | ((first | apply KO.val rfl rfl rfl ?kq ?_ ); (try (case ksub => (intro _ hp; first | exact hp | (cases hp; done) | (repeat (first | exact hp | apply List.mem_cons_of_mem | apply List.mem_append_right)) | (simp_all; done)))); (case kq => ((first | apply qt_ev rfl ?hi | (refine qt_ta rfl rfl ?hi (taF0 ?hT _ _); (case hT => decide)) | apply qt_pick_f rfl rfl (by first | with_reducible rfl ) rfl ?hi ); (case hi => (intro h; (repeat' (first | with_reducible exact alln | with_reducible refine allc ?_ ?_ | with_reducible refine andi ?_ ?_)); all_goals (first | with_reducible rfl )))))) | fail)
    ((first | apply At.done_normal); (focus (repeat' (first | exact ResVs.nil' ))); dsimp only [resVal])
    exact ⟨rfl, by unfold PT; rw [ops32_none (e := .pair b t r) rfl]; exact ⟨_, φ, hz, rfl⟩⟩
  | .code e, he =>
    show Go.K.Tr Tryd.prog 60 [.iface 32 (.int .i64 e), .pointer (some ⟨bo, 0, none⟩)] β _ _
    refine Tr.of_body Tryd.tt (args := [.iface 32 (.int .i64 e), .pointer (some ⟨bo, 0, none⟩)]) (fr := [(0, true, .iface 32 (.int .i64 e)), (1, true, .pointer (some ⟨bo, 0, none⟩))]) Tryd.func60 rfl (by decide) rfl Tryd.ntmps60 rfl rfl ?_
    intro E hE
    subst hE
    repeat' (first | refine KW.seq ?_ | refine KW.region ?_ | refine KO.nil ?_ | refine At.then_normal ?_ | refine KW.skip ?_ | refine KW.cond_f rfl (by first | with_reducible rfl ) ?_ | refine KO.skip' rfl (by first | with_reducible rfl ) rfl rfl ?_ | ((first | apply KO.val rfl rfl rfl ?kq ?_ ); (try (case ksub => (intro _ hp; first | exact hp | (cases hp; done) | (repeat (first | exact hp | apply List.mem_cons_of_mem | apply List.mem_append_right)) | (simp_all; done)))); (case kq => ((first | apply qt_ev rfl ?hi | (refine qt_ta rfl rfl ?hi (taF0 ?hT _ _); (case hT => decide)) | apply qt_pick_f rfl rfl (by first | with_reducible rfl ) rfl ?hi ); (case hi => (intro h; (repeat' (first | with_reducible exact alln | with_reducible refine allc ?_ ?_ | with_reducible refine andi ?_ ?_)); all_goals (first | with_reducible rfl )))))) | fail)
    ((first | apply At.done_normal); (focus (repeat' (first | exact ResVs.nil' ))); dsimp only [resVal])
    exact ⟨rfl, by unfold PT; rw [ops32_none (e := .code e) rfl]; exact ⟨_, φ, hz, rfl⟩⟩
def ErrT.trail (t : ErrT) : List ByteArray := ops32 t.pre
def ErrT.codes (t : ErrT) : List Int := Go.Proofs.YtnaclkdjchnbpaaDoor.codes t.pre
theorem Trail_p (β : Nat → Option Obj) (t : ErrT) (ht : t.Lies β []) : Go.K.Tr Tryd.prog 37 [t.val] β [] (fun z σ => Vec 9 1 t.trail.length (sv t.trail) z σ) := by
  refine Tr.sub ?_
  refine Tr.of_body Tryd.tt (args := [t.val]) (fr := [(0, true, t.val)]) Tryd.func37 rfl (by decide) rfl Tryd.ntmps37 rfl rfl ?_
  intro E hE
  subst hE
  repeat' (first | refine KW.seq ?_ | refine KW.region ?_ | refine KO.nil ?_ | ((first | apply KO.val rfl rfl rfl ?kq ?_); (case kq => ((first | apply qt_ev rfl ?hi ); (case hi => (intro h; (repeat' (first | with_reducible exact alln | with_reducible refine allc ?_ ?_ )); all_goals (first | with_reducible rfl | (simp [h]; done) )))))) | (refine KO.alloc rfl rfl rfl rfl rfl rfl ?_; intro _ _) | fail)
  rename_i bo _
  refine KO.callF [(bo, cl [.slice none 0 0] 92)] [] (by simp) rfl rfl rfl rfl rfl rfl rfl (walk_p E.β 60 bo t.pre.length (PT bo) (fun l σ e hl hP he => TrailS_p _ bo l σ e hP he) t ht [] _ (by simp) ⟨_, [], Vec.nil _ 1, rfl⟩) ?_
  rintro _ σ1 ⟨rfl, h1⟩
  rw [List.append_nil]
  obtain ⟨z, φ, hz, rfl⟩ := h1
  rw [List.nil_append] at hz
  obtain ⟨p, c, rfl⟩ := hz.len
  repeat' (first | refine KW.seq ?_ | refine KW.region ?_ | refine KO.nil ?_ | refine At.then_normal ?_ | refine KW.ret ?_ | ((first | apply KO.val rfl rfl rfl ?kq ?_); (case kq => ((first | apply qt_ev rfl ?hi | ((first | apply qt_load1 rfl rfl ?hi rfl rfl ?hm ?hc ); (case hm => repeat (first | exact List.Mem.head _ )); (case hc => rfl)) ); (case hi => (intro h; (repeat' (first | with_reducible exact alln | with_reducible refine allc ?_ ?_ )); all_goals (first | with_reducible rfl )))))) | fail)
  ((first | apply At.done_ret ); (focus (repeat' (first | exact ResVs.nil' | apply ResVs.cons' | exact ResV.tmp' rfl ))); dsimp only [resVal])
  exact ⟨φ, List.sublist_cons_self _ _, hz⟩
end Go.Proofs.YtnaclkdjchnbpaaDoor
end
section
namespace Go.Proofs.YtnaclkdjchnbpaaDoor
open Go Go.K Go.Extern

def hdl (t : Nat) : Value := .pointer (some ⟨1, t, none⟩)
def rt (t : Nat) : Value := .iface 151 (.agg #[hdl t])
/-- A Value of reflectlite: of what type, where it lies, its flags. -/
def rv (t b : Nat) (fl : Int) : Value := .agg #[hdl t, .pointer (some ⟨b, 0, none⟩), .int .u64 fl]
theorem xv_typeE (b : Nat) : XV Tryd.prog 67 [rv 103 b 150] (rt 103) := ⟨fun w => by kernel_rfl⟩
theorem xa_valE (p : Option Addr) : XA Tryd.prog 66 [.iface 103 (.pointer p)] (fun b => rv 103 b 150) [.pointer p] 103 := ⟨fun w => by kernel_rfl⟩
theorem xa_valN (e : Int) : XA Tryd.prog 66 [.iface 32 (.int .i64 e)] (fun b => rv 32 b 130) [.int .i64 e] 32 := ⟨fun w => by kernel_rfl⟩
theorem me_kind (h : Value) : Meth Tryd.prog 151 (.agg #[h]) "Kind" 92 h := ⟨fun w => by kernel_rfl⟩
theorem me_elem (h : Value) : Meth Tryd.prog 151 (.agg #[h]) "Elem" 106 (.agg #[h]) := ⟨fun w => by kernel_rfl⟩
theorem me_impl (h : Value) : Meth Tryd.prog 151 (.agg #[h]) "Implements" 107 (.agg #[h]) := ⟨fun w => by kernel_rfl⟩
theorem me_assn (h : Value) : Meth Tryd.prog 151 (.agg #[h]) "AssignableTo" 104 (.agg #[h]) := ⟨fun w => by kernel_rfl⟩
theorem xv_kindP : XV Tryd.prog 92 [hdl 103] (.int .u8 22) := ⟨fun w => by kernel_rfl⟩
theorem xv_kindN : XV Tryd.prog 92 [hdl 32] (.int .u8 2) := ⟨fun w => by kernel_rfl⟩
theorem xv_elem : XV Tryd.prog 106 [.agg #[hdl 103]] (rt 32) := ⟨fun w => by kernel_rfl⟩
theorem xv_impl : XV Tryd.prog 107 [.agg #[hdl 32], rt 29] (.bool true) := ⟨fun w => by kernel_rfl⟩
theorem xv_toN (v : Value) : XV Tryd.prog 74 [.iface 32 v] (rt 32) := ⟨fun w => by kernel_rfl⟩
theorem xv_toF (v : Value) : XV Tryd.prog 74 [.iface 100 v] (rt 100) := ⟨fun w => by kernel_rfl⟩
theorem xv_toP (v : Value) : XV Tryd.prog 74 [.iface 141 v] (rt 141) := ⟨fun w => by kernel_rfl⟩
theorem xv_asN : XV Tryd.prog 104 [.agg #[hdl 32], rt 32] (.bool true) := ⟨fun w => by kernel_rfl⟩
theorem xv_asF : XV Tryd.prog 104 [.agg #[hdl 100], rt 32] (.bool false) := ⟨fun w => by kernel_rfl⟩
theorem xv_asP : XV Tryd.prog 104 [.agg #[hdl 141], rt 32] (.bool false) := ⟨fun w => by kernel_rfl⟩
theorem me_unF (p : Option Addr) : Meth Tryd.prog 100 (.pointer p) "Unwrap" 97 (.pointer p) := ⟨fun w => by kernel_rfl⟩
theorem me_unP (p : Option Addr) : Meth Tryd.prog 141 (.pointer p) "Unwrap" 102 (.pointer p) := ⟨fun w => by kernel_rfl⟩
/-! An interface asked for. -/
theorem ti0 {A T : TypeId} {ms : Array (String × TypeId)} (hu : Tryd.prog.underlying A = some (.interface ms)) (h : (Tryd.prog.info? T).map (fun i => (lacking ms i.methods).isEmpty) = some false) (hz : (Tryd.prog.info? A).map (·.zero) = some (some .nilIface)) (xt : TypeId) (v : Value) :
    TAs Tryd.prog (.iface T v) xt A (.tuple [.nilIface, .bool false].toArray) := ⟨fun w => run_typeAssert_lacksB hu h hz v xt w⟩
theorem ti1 {A T : TypeId} {ms : Array (String × TypeId)} (hu : Tryd.prog.underlying A = some (.interface ms)) (h : (Tryd.prog.info? T).map (fun i => (lacking ms i.methods).isEmpty) = some true) (xt : TypeId) (v : Value) :
    TAs Tryd.prog (.iface T v) xt A (.tuple [.iface T v, .bool true].toArray) := ⟨fun w => run_typeAssert_hasB hu h v xt w⟩
theorem tiAs_N (xt : TypeId) (v : Value) : TAs Tryd.prog (.iface 32 v) xt 156 (.tuple [.nilIface, .bool false].toArray) := ti0 Tryd.underlying156 (by kernel_rfl) (by kernel_rfl) xt v
theorem tiAs_F (xt : TypeId) (v : Value) : TAs Tryd.prog (.iface 100 v) xt 156 (.tuple [.nilIface, .bool false].toArray) := ti0 Tryd.underlying156 (by kernel_rfl) (by kernel_rfl) xt v
theorem tiAs_P (xt : TypeId) (v : Value) : TAs Tryd.prog (.iface 141 v) xt 156 (.tuple [.nilIface, .bool false].toArray) := ti0 Tryd.underlying156 (by kernel_rfl) (by kernel_rfl) xt v
theorem tiUn_N (xt : TypeId) (v : Value) : TAs Tryd.prog (.iface 32 v) xt 159 (.tuple [.nilIface, .bool false].toArray) := ti0 Tryd.underlying159 (by kernel_rfl) (by kernel_rfl) xt v
theorem tiUn_F (xt : TypeId) (v : Value) : TAs Tryd.prog (.iface 100 v) xt 159 (.tuple [.iface 100 v, .bool true].toArray) := ti1 Tryd.underlying159 (by kernel_rfl) xt v
theorem tiUn_P (xt : TypeId) (v : Value) : TAs Tryd.prog (.iface 141 v) xt 159 (.tuple [.nilIface, .bool false].toArray) := ti0 Tryd.underlying159 (by kernel_rfl) (by kernel_rfl) xt v
theorem tiUs_N (xt : TypeId) (v : Value) : TAs Tryd.prog (.iface 32 v) xt 161 (.tuple [.nilIface, .bool false].toArray) := ti0 Tryd.underlying161 (by kernel_rfl) (by kernel_rfl) xt v
theorem tiUs_F (xt : TypeId) (v : Value) : TAs Tryd.prog (.iface 100 v) xt 161 (.tuple [.nilIface, .bool false].toArray) := ti0 Tryd.underlying161 (by kernel_rfl) (by kernel_rfl) xt v
theorem tiUs_P (xt : TypeId) (v : Value) : TAs Tryd.prog (.iface 141 v) xt 161 (.tuple [.iface 141 v, .bool true].toArray) := ti1 Tryd.underlying161 (by kernel_rfl) xt v
theorem me_cmp (h : Value) : Meth Tryd.prog 151 (.agg #[h]) "Comparable" 105 (.agg #[h]) := ⟨fun w => by kernel_rfl⟩
theorem xv_cmpN : XV Tryd.prog 105 [.agg #[hdl 32]] (.bool true) := ⟨fun w => by kernel_rfl⟩
end Go.Proofs.YtnaclkdjchnbpaaDoor
end
section
namespace Go.Proofs.YtnaclkdjchnbpaaDoor
open Go Go.K Go.Extern

theorem rlm (z : Sem Value) (f : TypeId → Addr → Nat → Nat → Sem Value) (v : Value) :
    ReflectliteValue.method z f #[v] = (do match ← ReflectliteValue.parts v with | none => z | some (t, a, fl) => f t a fl (fl % 32)) := rfl
theorem partsE (b : Nat) (w : World) : (ReflectliteValue.parts (rv 103 b 150)).run Tryd.prog w = .ok (some (103, ⟨b, 0, none⟩, 150)) w := by kernel_rfl
theorem partsN (b : Nat) (w : World) : (ReflectliteValue.parts (rv 32 b 130)).run Tryd.prog w = .ok (some (32, ⟨b, 0, none⟩, 130)) w := by kernel_rfl
theorem partsA (b : Nat) (w : World) : (ReflectliteValue.parts (rv 32 b 386)).run Tryd.prog w = .ok (some (32, ⟨b, 0, none⟩, 386)) w := by kernel_rfl
theorem x_isNil (b p : Nat) (w : World) (ha : w.cell? ⟨b, 0, none⟩ = some (.pointer (some ⟨p, 0, none⟩))) : (callFunc 68 #[rv 103 b 150]).run Tryd.prog w = .ok (.value (.bool false)) w := by
  rw [@run_callFunc_extern Tryd.prog 68 _ (ReflectliteValue.method (ReflectliteValue.valueError "reflectlite.Value.IsNil" 0) ReflectliteValue.isNil) Tryd.func68 (by kernel_rfl) (by kernel_rfl) (by kernel_rfl) (by kernel_rfl), rlm]
  simp only [Sem.run_bind, partsE, Result.andThen]
  simp [ReflectliteValue.isNil, loadVar, isAgg, underlying, Tryd.underlying103, ha, Result.andThen]
theorem elemOfE (w : World) : (Rtype.elem? 103).run Tryd.prog w = .ok (some 32) w := by kernel_rfl
theorem mkN (p : Nat) (w : World) : (ReflectliteValue.mk 32 ⟨p, 0, none⟩ ReflectliteValue.flagAddr).run Tryd.prog w = .ok (rv 32 p 386) w := by kernel_rfl
theorem x_elem (b p : Nat) (w : World) (ha : w.cell? ⟨b, 0, none⟩ = some (.pointer (some ⟨p, 0, none⟩))) : (callFunc 75 #[rv 103 b 150]).run Tryd.prog w = .ok (.value (rv 32 p 386)) w := by
  rw [@run_callFunc_extern Tryd.prog 75 _ (ReflectliteValue.method (ReflectliteValue.valueError "reflectlite.Value.Elem" 0) ReflectliteValue.elem) Tryd.func75 (by kernel_rfl) (by kernel_rfl) (by kernel_rfl) (by kernel_rfl), rlm]
  simp only [Sem.run_bind, partsE, Result.andThen]
  simp [ReflectliteValue.elem, loadVar, isAgg, underlying, Tryd.underlying103, ha, Result.andThen, elemOfE, mkN]
theorem rls (v x : Value) : ReflectliteValue.set #[v, x] = (do
    let (some (dst, a, fl), some (src, b, _)) := (← ReflectliteValue.parts v, ← ReflectliteValue.parts x)
      | unsupported (.noEntry "extern/(internal/reflectlite.Value).Set.zeroValue")
    if fl / ReflectliteValue.flagAddr % 2 == 0 then unsupported (.noEntry "extern/(internal/reflectlite.Value).Set.unaddressable")
    let val ← loadVar src b
    if ← Rtype.directlyAssignable dst src then storeVar dst a val
    else if ← Rtype.implements dst src then
      if (← Rtype.kind src) == 20 then
        match val with
        | .nilIface => unsupported (.noEntry "extern/reflectlite: a nil value of one interface type handed on as a value of another")
        | _ => storeVar dst a val
      else storeVar dst a (.iface src val)
    else panicString ("reflectlite.Set: value of type " ++ (← Rtype.spelt src) ++ " is not assignable to type " ++ (← Rtype.spelt dst))
    pure (.tuple #[])) := rfl
theorem directN (w : World) : (Rtype.directlyAssignable 32 32).run Tryd.prog w = .ok true w := by kernel_rfl
theorem sizeN (w : World) : (sizeOf 32).run Tryd.prog w = .ok 1 w := by kernel_rfl
theorem x_set (p b : Nat) (e : Int) (old : Value) (w : World) (hb : w.cell? ⟨b, 0, none⟩ = some (.int .i64 e)) (ht : w.cell? ⟨p, 0, none⟩ = some old) (hf : w.frozen? ⟨p, 0, none⟩ = false) :
    (callFunc 76 #[rv 32 p 386, rv 32 b 130]).run Tryd.prog w = .ok (.value (.tuple #[])) (w.setCell ⟨p, 0, none⟩ (.int .i64 e)) := by
  rw [@run_callFunc_extern Tryd.prog 76 _ ReflectliteValue.set Tryd.func76 (by kernel_rfl) (by kernel_rfl) (by kernel_rfl) (by kernel_rfl), rls]
  simp only [Sem.run_bind, partsA, partsN, Result.andThen]
  simp [ReflectliteValue.flagAddr, loadVar, isAgg, underlying, Tryd.underlying32, hb, Result.andThen, directN, storeVar, Value.cells, storeCells, Addr.add, sizeN]
  rw [run_store Tryd.prog w ⟨p, 0, none⟩ _ _ (by rfl)]
  simp [ht, hf]
end Go.Proofs.YtnaclkdjchnbpaaDoor
end
section
namespace Go.Proofs.YtnaclkdjchnbpaaDoor
open Go Go.K Go.Extern

def ErrT.size : ErrT → Nat
  | .code _ => 1
  | .fault _ _ t => t.size + 1
  | .pair _ l r => l.size + r.size + 1
theorem ErrT.val_iface : ∀ t : ErrT, ∃ T u, t.val = .iface T u
  | .code _ => ⟨_, _, rfl⟩
  | .fault _ _ _ => ⟨_, _, rfl⟩
  | .pair _ _ _ => ⟨_, _, rfl⟩
theorem ErrT.codes_fault (b : Nat) (op : ByteArray) (t : ErrT) : (ErrT.fault b op t).codes = t.codes := rfl
theorem ErrT.codes_pair (b : Nat) (l r : ErrT) : (ErrT.pair b l r).codes = l.codes ++ r.codes := by
  show List.filterMap ErrT.codeOf (.pair b l r :: (l.pre ++ r.pre)) = _
  rw [List.filterMap_cons_none rfl, List.filterMap_append]; try rfl
theorem q_isNil {L : Look} {σ : Heap} {g : Bool} {o : Oper} {r : Option Nat} {N b p : Nat} {E : Env} {H : Heap} {args : Array Operand} {ts : Array TypeId} {gs : List Bool} (ho : o.op = .call ⟨.value (.func 68), args, ts⟩)
    (ha : opnds L args.toList = some (gs, [rv 103 b 150])) (hi : g = true → gs.all id = true) (hc : (b, cl [.pointer (some ⟨p, 0, none⟩)] 103) ∈ σ) : Qt ⟨Tryd.prog, Tryd.tt, r, N, E, H⟩ L σ g o (.bool false) :=
  qt_extR ho ha hi (fun _ w hO => x_isNil b p w (by rw [cell_of_cl (hO.has.has _ hc)]; rfl))
theorem q_elem {L : Look} {σ : Heap} {g : Bool} {o : Oper} {r : Option Nat} {N b p : Nat} {E : Env} {H : Heap} {args : Array Operand} {ts : Array TypeId} {gs : List Bool} (ho : o.op = .call ⟨.value (.func 75), args, ts⟩)
    (ha : opnds L args.toList = some (gs, [rv 103 b 150])) (hi : g = true → gs.all id = true) (hc : (b, cl [.pointer (some ⟨p, 0, none⟩)] 103) ∈ σ) : Qt ⟨Tryd.prog, Tryd.tt, r, N, E, H⟩ L σ g o (rv 32 p 386) :=
  qt_extR ho ha hi (fun _ w hO => x_elem b p w (by rw [cell_of_cl (hO.has.has _ hc)]; rfl))
theorem UnF_p (β : Nat → Option Obj) (σ : Heap) (b : Nat) (v : Value) (h : Cel β [] b 1 v) : Go.K.Tr Tryd.prog 97 [.pointer (some ⟨b, 0, none⟩)] β σ (fun z s => z = v ∧ s = σ) := by
  refine Tr.of_body Tryd.tt (args := [.pointer (some ⟨b, 0, none⟩)]) (fr := [(0, true, .pointer (some ⟨b, 0, none⟩))]) Tryd.func97 rfl (by decide) rfl Tryd.ntmps97 rfl rfl ?_
  intro E hE
  subst hE
  repeat' (first | refine KW.seq ?_ | refine KW.region ?_ | refine KO.nil ?_ | refine At.then_normal ?_ | refine KW.ret ?_ | ((first | apply KO.val rfl rfl rfl ?kq ?_); (case kq => ((first | apply qt_ev rfl ?hi ); (case hi => (intro h; (repeat' (first | with_reducible exact alln | with_reducible refine allc ?_ ?_ )); all_goals (first | with_reducible rfl )))))) | ((first | apply KO.val (g := true) rfl rfl rfl); (first | (apply qt_load1_cel rfl rfl ?hi rfl rfl ?hc; (case hc => first | exact fun _ => (h.mono (fun _ hq => by cases hq))))); (case hi => (first | exact fun _ => rfl ))) | fail)
  ((first | apply At.done_ret ); (focus (repeat' (first | exact ResVs.nil' | apply ResVs.cons' | exact ResV.tmp' rfl ))); dsimp only [resVal])
  exact ⟨rfl, rfl⟩
set_option maxRecDepth 4000 in
theorem UnP_p (β : Nat → Option Obj) (σ : Heap) (b : Nat) (T U : TypeId) (u v : Value) (h0 : Cel β [] b 0 (.iface T u)) (h : Cel β [] b 1 (.iface U v)) : Go.K.Tr Tryd.prog 102 [.pointer (some ⟨b, 0, none⟩)] β σ (fun z s => ∃ bs, z = .slice (some ⟨bs, 0, none⟩) 2 2 ∧ s = (bs, cl [.iface T u, .iface U v] 29) :: σ) := by
  refine Tr.of_body Tryd.tt (args := [.pointer (some ⟨b, 0, none⟩)]) (fr := [(0, true, .pointer (some ⟨b, 0, none⟩))]) Tryd.func102 rfl (by decide) rfl Tryd.ntmps102 rfl rfl ?_
  intro E hE
  subst hE
  repeat' (first | refine KW.seq ?_ | refine KW.region ?_ | refine KO.nil ?_ | refine At.then_normal ?_ | refine KW.ret ?_ | refine KW.drawU rfl (by decide +kernel) ?_ | refine KD.zero ?_ | ((first | apply KO.val rfl rfl rfl ?kq ?_ | apply KD.val rfl rfl rfl ?kq ?_); (case kq => ((first | apply qt_ev rfl ?hi ); (case hi => (intro h; (repeat' (first | with_reducible exact alln | with_reducible refine allc ?_ ?_ )); all_goals (first | with_reducible rfl )))))) | (refine KO.buildSlice rfl rfl rfl rfl rfl rfl rfl rfl rfl rfl rfl rfl rfl rfl ?_; intro _ _) | ((first | apply KD.val (g := true) rfl rfl rfl ); (first | (apply qt_load1_cel rfl rfl ?hi rfl rfl ?hc; (case hc => first | exact fun _ => (h0.mono (fun _ hq => by cases hq)) | exact fun _ => (h.mono (fun _ hq => by cases hq))))); (case hi => (first | exact fun _ => rfl ))) | fail)
  ((first | apply At.done_ret ); (focus (repeat' (first | exact ResVs.nil' | apply ResVs.cons' | exact ResV.tmp' rfl ))); dsimp only [resVal])
  exact ⟨_, rfl, rfl⟩
def asR (t : ErrT) (old : Int) : Bool × Int := match t.codes with
  | [] => (false, old)
  | c :: _ => (true, c)
def asH (bc ba : Nat) (c : Int) : Heap := [(bc, cl [.int .i64 c] 32), (ba, cl [.pointer (some ⟨bc, 0, none⟩)] 103)]
set_option maxRecDepth 4000 in
set_option maxHeartbeats 4000000 in
theorem as_p (β : Nat → Option Obj) (bc ba : Nat) (old : Int) : ∀ (n : Nat) (t : ErrT), t.size ≤ n → t.Lies β [] →
    Go.K.Tr Tryd.prog 69 [t.val, .iface 103 (.pointer (some ⟨bc, 0, none⟩)), rv 103 ba 150, rt 32] β (asH bc ba old) (fun v σ' => v = .bool (asR t old).1 ∧ σ' = asH bc ba (asR t old).2) := by
  intro n
  induction n with
  | zero => intro t hs; exfalso; cases t <;> simp [ErrT.size] at hs
  | succ n ih =>
    intro t hs hl
    refine Tr.sub ?_
    refine Tr.of_body Tryd.tt (args := [t.val, .iface 103 (.pointer (some ⟨bc, 0, none⟩)), rv 103 ba 150, rt 32]) (fr := [(0, true, t.val), (1, true, .iface 103 (.pointer (some ⟨bc, 0, none⟩))), (2, true, rv 103 ba 150), (3, true, rt 32)]) Tryd.func69 rfl (by decide) rfl Tryd.ntmps69 rfl rfl ?_
    intro E hE
    subst hE
    repeat' (first | refine KW.seq ?_ | refine KW.region ?_ | refine KO.nil ?_ | refine At.then_normal ?_ | refine KW.block ?_ | ((first | apply KO.val rfl rfl rfl ?kq ?_ ); (case kq => ((first | apply qt_ev rfl ?hi ); (case hi => (intro h; (repeat' (first | with_reducible exact alln | with_reducible refine allc ?_ ?_ )); all_goals (first | with_reducible rfl )))))) | (refine KO.box rfl rfl rfl rfl rfl rfl ?_; intro _ _) | fail)
    rename_i b6 _
    refine KW.loop (fun s : ErrT => s.Lies E.β [] ∧ s.codes = t.codes ∧ s.size ≤ t.size) (fun s => ([(0, true, s.val), (1, true, .iface 103 (.pointer (some ⟨bc, 0, none⟩))), (3, true, rt 32), (6, true, .pointer (some ⟨b6, 0, none⟩))], (b6, cl [hdl 103, .pointer (some ⟨ba, 0, none⟩), .int .u64 150] 130) :: asH bc ba old)) (fun s => s.size) t
      ⟨hl, rfl, Nat.le_refl _⟩ (Le.perm (by repeat' (first | exact FLe.nil _ | refine FLe.cons rfl rfl ?_)) (by classical exact List.perm_iff_count.2 (fun _ => by first | (simp only [List.count_append, List.count_cons, List.count_nil, List.append_assoc, List.cons_append, List.nil_append]; done) ))) ?_
    rintro s ⟨h1, h2, h3⟩
    dsimp only
    cases s with
    | code e =>
      unfold asH
      repeat' (first | refine KW.seq ?_ | refine KW.region ?_ | refine KO.nil ?_ | refine At.then_normal ?_ | refine KW.block ?_ | refine KW.cond_t rfl (by first | with_reducible rfl ) ?_ | ((first | apply KO.val rfl rfl rfl ?kq ?_ ); (case kq => ((first | apply qt_ev rfl ?hi | ((first | apply qt_loadN rfl rfl ?hi rfl rfl rfl ?hm ?hc); (case hm => repeat (first | exact List.Mem.head _ )); (case hc => rfl)) | refine qt_xv rfl rfl ?hi (xv_toN _) | refine qt_xi rfl rfl rfl ?hi (me_assn _) xv_asN ); (case hi => (intro h; (repeat' (first | with_reducible exact alln | with_reducible refine allc ?_ ?_ | with_reducible refine andi ?_ ?_)); all_goals (first | with_reducible rfl )))))) | fail)
      refine KO.val rfl rfl rfl (q_elem (b := ba) (p := bc) rfl rfl (by intro _; rfl) (by simp)) ?_
      repeat' (first | ((first | apply KO.val rfl rfl rfl ?kq ?_ ); (case kq => ((first | apply qt_ev rfl ?hi ); (case hi => (intro h; (repeat' (first | with_reducible exact alln | with_reducible refine allc ?_ ?_ )); all_goals (first | with_reducible rfl )))))) | fail)
      refine KO.xa rfl rfl rfl rfl rfl rfl (xa_valN e) ?_
      intro bn hbn
      refine KO.ofEO rfl rfl rfl (eo_extS (b := bc) (off := 0) (i := 2) (v := .int .i64 e) (r := .tuple #[]) rfl rfl rfl rfl rfl (by simp) rfl (fun w hO => x_set bc bn e (.int .i64 old) w (by rw [cell_of_cl (hO.has.has (bn, cl [.int .i64 e] 32) (by simp))]; rfl) (by rw [cell_of_cl (hO.has.has (bc, cl [.int .i64 old] 32) (by simp))]; rfl) (frozen_of_cl (hO.has.has (bc, cl [.int .i64 old] 32) (by simp))))) ?_
      rintro _ _ ⟨rfl, rfl⟩
      have hr : asR t old = (true, e) := by unfold asR; rw [← h2]; rfl
      repeat' (first | refine KW.seq ?_ | refine KW.region ?_ | refine KO.nil ?_ | refine At.then_normal ?_ | refine KW.ret ?_ | refine At.then_ret ?_ | refine At.block_ret ?_ | refine At.loop_ret ?_ | ((first | apply KO.val rfl rfl rfl ?kq ?_ ); (case kq => ((first | apply qt_ev rfl ?hi ); (case hi => (intro h; (repeat' (first | with_reducible exact alln | with_reducible refine allc ?_ ?_ )); all_goals (first | with_reducible rfl )))))) | fail)
      ((first | apply At.done_ret ); (focus (repeat' (first | exact ResVs.nil' | apply ResVs.cons' | exact ResV.tmp' rfl ))); dsimp only [resVal])
      rw [hr]
      exact ⟨asH bc ba e, .cons _ (.cons _ (List.Sublist.refl _)), rfl, rfl⟩
    | fault b op s =>
      unfold asH
      obtain ⟨T, u, hv⟩ := s.val_iface
      have hun := UnF_p E.β ((b6, cl [hdl 103, .pointer (some ⟨ba, 0, none⟩), .int .u64 150] 130) :: asH bc ba old) b _ h1.2.1
      rw [hv] at hun
      repeat' (first | refine KW.seq ?_ | refine KW.region ?_ | refine KO.nil ?_ | refine At.then_normal ?_ | refine KW.skip ?_ | refine KW.block ?_ | refine At.block_normal ?_ | refine KW.cond_t rfl (by first | with_reducible rfl ) ?_ | refine KW.cond_f rfl (by first | with_reducible rfl ) ?_ | refine KO.skip' rfl (by first | with_reducible rfl ) rfl rfl ?_ | ((first | apply KO.val rfl rfl rfl ?kq ?_ ); (case kq => ((first | apply qt_ev rfl ?hi | refine qt_xv rfl rfl ?hi (xv_toF _) | refine qt_xi rfl rfl rfl ?hi (me_assn _) xv_asF | refine qt_ta rfl rfl ?hi (tiAs_F _ _) | refine qt_ta rfl rfl ?hi (tiUn_F _ _) | refine qt_invQ rfl rfl rfl ?hi (me_unF _) (fun _ => hun) | apply qt_pick_f rfl rfl (by first | with_reducible rfl ) rfl ?hi | apply qt_eqs rfl rfl rfl ?hi rfl (Or.inl rfl) ); (case hi => (intro h; (repeat' (first | with_reducible exact alln | with_reducible refine allc ?_ ?_ | with_reducible refine andi ?_ ?_)); all_goals (first | with_reducible rfl )))))) | fail)
      have h3' : s.size + 1 ≤ t.size := h3
      exact At.loop_on s ⟨h1.2.2, h2, by omega⟩ (by show s.size < s.size + 1; omega) (Le.perm (FLe.cons rfl hv.symm (by repeat' (first | exact FLe.nil _ | refine FLe.cons rfl rfl ?_))) (by classical exact List.perm_iff_count.2 (fun _ => by first | (simp only [List.count_append, List.count_cons, List.count_nil, List.append_assoc, List.cons_append, List.nil_append]; done) )))
    | pair b l r =>
      unfold asH
      repeat' (first | refine KW.seq ?_ | refine KW.region ?_ | refine KO.nil ?_ | refine At.then_normal ?_ | refine KW.skip ?_ | refine KW.block ?_ | refine KW.cond_t rfl (by first | with_reducible rfl ) ?_ | refine KW.cond_f rfl (by first | with_reducible rfl ) ?_ | refine KO.skip' rfl (by first | with_reducible rfl ) rfl rfl ?_ | ((first | apply KO.val rfl rfl rfl ?kq ?_ ); (case kq => ((first | apply qt_ev rfl ?hi | refine qt_xv rfl rfl ?hi (xv_toP _) | refine qt_xi rfl rfl rfl ?hi (me_assn _) xv_asP | refine qt_ta rfl rfl ?hi (tiAs_P _ _) | refine qt_ta rfl rfl ?hi (tiUn_P _ _) | refine qt_ta rfl rfl ?hi (tiUs_P _ _) | apply qt_pick_f rfl rfl (by first | with_reducible rfl ) rfl ?hi ); (case hi => (intro h; (repeat' (first | with_reducible exact alln | with_reducible refine allc ?_ ?_ | with_reducible refine andi ?_ ?_)); all_goals (first | with_reducible rfl )))))) | fail)
      obtain ⟨T, u, hv⟩ := l.val_iface
      obtain ⟨U, v, hw⟩ := r.val_iface
      have k1 := h1.1
      have k2 := h1.2.1
      rw [hv] at k1
      rw [hw] at k2
      have h3' : l.size + r.size + 1 ≤ t.size := h3
      have c1 := ih l (by omega) h1.2.2.1
      have c2 := ih r (by omega) h1.2.2.2
      rw [hv] at c1
      rw [hw] at c2
      refine KO.inv rfl rfl rfl rfl rfl rfl rfl (me_unP _) (UnP_p E.β _ b T U u v k1 k2) ?_
      rintro _ _ ⟨bs, rfl, rfl⟩
      repeat' (first | refine KO.nil ?_ | refine At.then_normal ?_ | refine KW.block ?_ | ((first | apply KO.val rfl rfl rfl ?kq ?_ ); (case kq => ((first | apply qt_ev rfl ?hi ); (case hi => (intro h; (repeat' (first | with_reducible exact alln | with_reducible refine allc ?_ ?_ )); all_goals (first | with_reducible rfl )))))) | fail)
      refine KW.loop (fun i : Nat => i ≤ 2 ∧ (1 ≤ i → l.codes = []) ∧ (2 ≤ i → r.codes = [])) (fun i => ([(50, true, .int .i64 (i : Int)), (49, true, .int .i64 2), (48, true, .slice (some ⟨bs, 0, none⟩) 2 2), (1, true, .iface 103 (.pointer (some ⟨bc, 0, none⟩))), (3, true, rt 32), (6, true, .pointer (some ⟨b6, 0, none⟩))], (bs, cl [.iface T u, .iface U v] 29) :: (b6, cl [hdl 103, .pointer (some ⟨ba, 0, none⟩), .int .u64 150] 130) :: asH bc ba old)) (fun i => 2 - i) 0
        ⟨by omega, fun h => by omega, fun h => by omega⟩ (Le.perm (by repeat' (first | exact FLe.nil _ | refine FLe.cons rfl rfl ?_)) (by dsimp only [asH]; exact (by classical exact List.perm_iff_count.2 (fun _ => by first | (simp only [List.count_append, List.count_cons, List.count_nil, List.append_assoc, List.cons_append, List.nil_append]; done) )))) ?_
      rintro i ⟨hi, ha, hb⟩
      dsimp only
      rcases (show i = 0 ∨ i = 1 ∨ i = 2 by omega) with rfl | rfl | rfl
      · cases hlc : l.codes with
        | nil =>
          have hr : asR l old = (false, old) := by unfold asR; rw [hlc]
          rw [hr] at c1
          repeat' (first | refine KW.seq ?_ | refine KW.region ?_ | refine KO.nil ?_ | refine At.then_normal ?_ | refine KW.skip ?_ | refine KW.block ?_ | refine KW.cond_t rfl (by first | decide) ?_ | refine KW.cond_f rfl (by first | with_reducible rfl ) ?_ | ((first | apply KO.val rfl rfl rfl ?kq ?_ ); (case kq => ((first | ((first | apply qt_indexAddr_slice rfl rfl rfl ?hi rfl rfl ?om); (case om => (intro hg; first | omega ))) | apply qt_ev rfl ?hi | ((first | apply qt_load1 rfl rfl ?hi rfl rfl ?hm ?hc | apply qt_loadN rfl rfl ?hi rfl rfl rfl ?hm ?hc); (case hm => repeat (first | exact List.Mem.head _ | apply List.Mem.tail _ )); (case hc => rfl)) | apply qt_eqs rfl rfl rfl ?hi rfl (Or.inl rfl) ); (case hi => (intro h; (repeat' (first | with_reducible exact alln | with_reducible refine allc ?_ ?_ | with_reducible refine andi ?_ ?_)); all_goals (first | with_reducible rfl )))))) | fail)
          refine KO.callF (asH bc ba old) ((bs, cl [.iface T u, .iface U v] 29) :: (b6, cl [hdl 103, .pointer (some ⟨ba, 0, none⟩), .int .u64 150] 130) :: []) (by classical exact List.perm_iff_count.2 (fun _ => by first | (simp only [List.count_append, List.count_cons, List.count_nil, List.append_assoc, List.cons_append, List.nil_append]; omega))) rfl rfl rfl rfl rfl rfl rfl c1 ?_
          rintro _ _ ⟨rfl, rfl⟩
          repeat' (first | refine KW.region ?_ | refine KO.nil ?_ | refine At.then_normal ?_ | refine KW.skip ?_ | refine KW.cond_f rfl (by first | with_reducible rfl ) ?_ | ((first | apply KO.val rfl rfl rfl ?kq ?_ ); (case kq => ((first | ((first | apply qt_add rfl rfl rfl ?hi ?om ); (case om => (intro hg; first | omega ))) | apply qt_ev rfl ?hi ); (case hi => (intro h; (repeat' (first | with_reducible exact alln | with_reducible refine allc ?_ ?_ | with_reducible refine andi ?_ ?_)); all_goals (first | with_reducible rfl )))))) | fail)
          exact At.loop_on 1 ⟨by omega, fun _ => by first | rfl, fun h => by omega⟩ (by omega) (Le.perm (by repeat' (first | exact FLe.nil _ | refine FLe.cons rfl rfl ?_)) (by classical exact List.perm_iff_count.2 (fun _ => by first | (simp only [List.count_append, List.count_cons, List.count_nil, List.append_assoc, List.cons_append, List.nil_append]; omega))))
        | cons c cs =>
          have hr : asR l old = (true, c) := by unfold asR; rw [hlc]
          have hrt : asR t old = (true, c) := by unfold asR; rw [← h2, ErrT.codes_pair, hlc]; rfl
          rw [hr] at c1
          repeat' (first | refine KW.seq ?_ | refine KW.region ?_ | refine KO.nil ?_ | refine At.then_normal ?_ | refine KW.skip ?_ | refine KW.block ?_ | refine KW.cond_t rfl (by first | decide) ?_ | refine KW.cond_f rfl (by first | with_reducible rfl ) ?_ | ((first | apply KO.val rfl rfl rfl ?kq ?_ ); (case kq => ((first | ((first | apply qt_indexAddr_slice rfl rfl rfl ?hi rfl rfl ?om); (case om => (intro hg; first | omega ))) | apply qt_ev rfl ?hi | ((first | apply qt_load1 rfl rfl ?hi rfl rfl ?hm ?hc | apply qt_loadN rfl rfl ?hi rfl rfl rfl ?hm ?hc); (case hm => repeat (first | exact List.Mem.head _ | apply List.Mem.tail _ )); (case hc => rfl)) | apply qt_eqs rfl rfl rfl ?hi rfl (Or.inl rfl) ); (case hi => (intro h; (repeat' (first | with_reducible exact alln | with_reducible refine allc ?_ ?_ | with_reducible refine andi ?_ ?_)); all_goals (first | with_reducible rfl )))))) | fail)
          refine KO.callF (asH bc ba old) ((bs, cl [.iface T u, .iface U v] 29) :: (b6, cl [hdl 103, .pointer (some ⟨ba, 0, none⟩), .int .u64 150] 130) :: []) (by classical exact List.perm_iff_count.2 (fun _ => by first | (simp only [List.count_append, List.count_cons, List.count_nil, List.append_assoc, List.cons_append, List.nil_append]; omega))) rfl rfl rfl rfl rfl rfl rfl c1 ?_
          rintro _ _ ⟨rfl, rfl⟩
          repeat' (first | refine KW.seq ?_ | refine KW.region ?_ | refine KO.nil ?_ | refine At.then_normal ?_ | refine KW.ret ?_ | refine At.then_ret ?_ | refine At.block_ret ?_ | refine At.loop_ret ?_ | refine KW.cond_t rfl (by first | with_reducible rfl ) ?_ | ((first | apply KO.val rfl rfl rfl ?kq ?_ ); (case kq => ((first | apply qt_ev rfl ?hi ); (case hi => (intro h; (repeat' (first | with_reducible exact alln | with_reducible refine allc ?_ ?_ )); all_goals (first | with_reducible rfl )))))) | fail)
          ((first | apply At.done_ret ); (focus (repeat' (first | exact ResVs.nil' | apply ResVs.cons' | exact ResV.tmp' rfl ))); dsimp only [resVal])
          rw [hrt]
          exact ⟨asH bc ba c, List.sublist_append_left _ _, rfl, rfl⟩
      · cases hlc : r.codes with
        | nil =>
          have hr : asR r old = (false, old) := by unfold asR; rw [hlc]
          rw [hr] at c2
          repeat' (first | refine KW.seq ?_ | refine KW.region ?_ | refine KO.nil ?_ | refine At.then_normal ?_ | refine KW.skip ?_ | refine KW.block ?_ | refine KW.cond_t rfl (by first | decide) ?_ | refine KW.cond_f rfl (by first | with_reducible rfl ) ?_ | ((first | apply KO.val rfl rfl rfl ?kq ?_ ); (case kq => ((first | ((first | apply qt_indexAddr_slice rfl rfl rfl ?hi rfl rfl ?om); (case om => (intro hg; first | omega ))) | apply qt_ev rfl ?hi | ((first | apply qt_load1 rfl rfl ?hi rfl rfl ?hm ?hc | apply qt_loadN rfl rfl ?hi rfl rfl rfl ?hm ?hc); (case hm => repeat (first | exact List.Mem.head _ | apply List.Mem.tail _ )); (case hc => rfl)) | apply qt_eqs rfl rfl rfl ?hi rfl (Or.inl rfl) ); (case hi => (intro h; (repeat' (first | with_reducible exact alln | with_reducible refine allc ?_ ?_ | with_reducible refine andi ?_ ?_)); all_goals (first | with_reducible rfl )))))) | fail)
          refine KO.callF (asH bc ba old) ((bs, cl [.iface T u, .iface U v] 29) :: (b6, cl [hdl 103, .pointer (some ⟨ba, 0, none⟩), .int .u64 150] 130) :: []) (by classical exact List.perm_iff_count.2 (fun _ => by first | (simp only [List.count_append, List.count_cons, List.count_nil, List.append_assoc, List.cons_append, List.nil_append]; omega))) rfl rfl rfl rfl rfl rfl rfl c2 ?_
          rintro _ _ ⟨rfl, rfl⟩
          repeat' (first | refine KW.region ?_ | refine KO.nil ?_ | refine At.then_normal ?_ | refine KW.skip ?_ | refine KW.cond_f rfl (by first | with_reducible rfl ) ?_ | ((first | apply KO.val rfl rfl rfl ?kq ?_ ); (case kq => ((first | ((first | apply qt_add rfl rfl rfl ?hi ?om ); (case om => (intro hg; first | omega ))) | apply qt_ev rfl ?hi ); (case hi => (intro h; (repeat' (first | with_reducible exact alln | with_reducible refine allc ?_ ?_ | with_reducible refine andi ?_ ?_)); all_goals (first | with_reducible rfl )))))) | fail)
          exact At.loop_on 2 ⟨by omega, fun _ => ha (by omega), fun _ => by first | rfl⟩ (by omega) (Le.perm (by repeat' (first | exact FLe.nil _ | refine FLe.cons rfl rfl ?_)) (by classical exact List.perm_iff_count.2 (fun _ => by first | (simp only [List.count_append, List.count_cons, List.count_nil, List.append_assoc, List.cons_append, List.nil_append]; omega))))
        | cons c cs =>
          have hr : asR r old = (true, c) := by unfold asR; rw [hlc]
          have hrt : asR t old = (true, c) := by unfold asR; rw [← h2, ErrT.codes_pair, ha (by omega), hlc]; rfl
          rw [hr] at c2
          repeat' (first | refine KW.seq ?_ | refine KW.region ?_ | refine KO.nil ?_ | refine At.then_normal ?_ | refine KW.skip ?_ | refine KW.block ?_ | refine KW.cond_t rfl (by first | decide) ?_ | refine KW.cond_f rfl (by first | with_reducible rfl ) ?_ | ((first | apply KO.val rfl rfl rfl ?kq ?_ ); (case kq => ((first | ((first | apply qt_indexAddr_slice rfl rfl rfl ?hi rfl rfl ?om); (case om => (intro hg; first | omega ))) | apply qt_ev rfl ?hi | ((first | apply qt_load1 rfl rfl ?hi rfl rfl ?hm ?hc | apply qt_loadN rfl rfl ?hi rfl rfl rfl ?hm ?hc); (case hm => repeat (first | exact List.Mem.head _ | apply List.Mem.tail _ )); (case hc => rfl)) | apply qt_eqs rfl rfl rfl ?hi rfl (Or.inl rfl) ); (case hi => (intro h; (repeat' (first | with_reducible exact alln | with_reducible refine allc ?_ ?_ | with_reducible refine andi ?_ ?_)); all_goals (first | with_reducible rfl )))))) | fail)
          refine KO.callF (asH bc ba old) ((bs, cl [.iface T u, .iface U v] 29) :: (b6, cl [hdl 103, .pointer (some ⟨ba, 0, none⟩), .int .u64 150] 130) :: []) (by classical exact List.perm_iff_count.2 (fun _ => by first | (simp only [List.count_append, List.count_cons, List.count_nil, List.append_assoc, List.cons_append, List.nil_append]; omega))) rfl rfl rfl rfl rfl rfl rfl c2 ?_
          rintro _ _ ⟨rfl, rfl⟩
          repeat' (first | refine KW.seq ?_ | refine KW.region ?_ | refine KO.nil ?_ | refine At.then_normal ?_ | refine KW.ret ?_ | refine At.then_ret ?_ | refine At.block_ret ?_ | refine At.loop_ret ?_ | refine KW.cond_t rfl (by first | with_reducible rfl ) ?_ | ((first | apply KO.val rfl rfl rfl ?kq ?_ ); (case kq => ((first | apply qt_ev rfl ?hi ); (case hi => (intro h; (repeat' (first | with_reducible exact alln | with_reducible refine allc ?_ ?_ )); all_goals (first | with_reducible rfl )))))) | fail)
          ((first | apply At.done_ret ); (focus (repeat' (first | exact ResVs.nil' | apply ResVs.cons' | exact ResV.tmp' rfl ))); dsimp only [resVal])
          rw [hrt]
          exact ⟨asH bc ba c, List.sublist_append_left _ _, rfl, rfl⟩
      · have hrt : asR t old = (false, old) := by unfold asR; rw [← h2, ErrT.codes_pair, ha (by omega), hb (by omega)]; rfl
        repeat' (first | refine KW.seq ?_ | refine KW.region ?_ | refine KO.nil ?_ | refine At.then_normal ?_ | refine KW.ret ?_ | refine KW.exit ?_ | refine At.block_ret ?_ | refine At.loop_ret ?_ | refine KW.cond_f rfl (by first | decide) ?_ | ((first | apply KO.val rfl rfl rfl ?kq ?_ ); (case kq => ((first | apply qt_ev rfl ?hi ); (case hi => (intro h; (repeat' (first | with_reducible exact alln | with_reducible refine allc ?_ ?_ )); all_goals (first | with_reducible rfl )))))) | fail)
        ((first | apply At.done_ret ); (focus (repeat' (first | exact ResVs.nil' | apply ResVs.cons' | exact ResV.tmp' rfl ))); dsimp only [resVal])
        rw [hrt]
        exact ⟨asH bc ba old, .cons _ (.cons _ (List.Sublist.refl _)), rfl, rfl⟩
end Go.Proofs.YtnaclkdjchnbpaaDoor
end
section
namespace Go.Proofs.YtnaclkdjchnbpaaDoor
open Go Go.K Go.Extern

/-- What the variable of package errors holds. -/
def TBE (β : Nat → Option Obj) : Prop := Cel β [] 0 0 (rt 29)
theorem TBE.up {β β' : Nat → Option Obj} (h : ∀ b o, β b = some o → β' b = some o) (ht : TBE β) : TBE β' := Cel.frz (φ := []) h (fun _ hp => by cases hp) ht
set_option maxHeartbeats 4000000 in
theorem As_p (β : Nat → Option Obj) (hty : TBE β) (t : ErrT) (ht : t.Lies β []) (bc : Nat) (old : Int) :
    Go.K.Tr Tryd.prog 47 [t.val, .iface 103 (.pointer (some ⟨bc, 0, none⟩))] β [(bc, cl [.int .i64 old] 32)] (fun v σ' => v = .bool (asR t old).1 ∧ σ' = [(bc, cl [.int .i64 (asR t old).2] 32)]) := by
  obtain ⟨T, u, hv⟩ := t.val_iface
  refine Tr.sub ?_
  rw [hv]
  refine Tr.of_body Tryd.tt (args := [.iface T u, .iface 103 (.pointer (some ⟨bc, 0, none⟩))]) (fr := [(0, true, .iface T u), (1, true, .iface 103 (.pointer (some ⟨bc, 0, none⟩)))]) Tryd.func47 rfl (by decide) rfl Tryd.ntmps47 rfl rfl ?_
  intro E hE
  subst hE
  repeat' (first | refine KW.seq ?_ | refine KW.region ?_ | refine KO.nil ?_ | refine At.then_normal ?_ | refine KW.skip ?_ | refine KW.cond_f rfl (by first | with_reducible rfl ) ?_ | ((first | apply KO.val rfl rfl rfl ?kq ?_ ); (case kq => ((first | apply qt_ev rfl ?hi | apply qt_eqs rfl rfl rfl ?hi rfl (Or.inl rfl) ); (case hi => (intro h; (repeat' (first | with_reducible exact alln | with_reducible refine allc ?_ ?_ | with_reducible refine andi ?_ ?_)); all_goals (first | with_reducible rfl )))))) | fail)
  refine KO.xa rfl rfl rfl rfl rfl rfl (xa_valE _) ?_
  intro ba hba
  repeat' (first | refine KW.seq ?_ | refine KW.region ?_ | refine KO.nil ?_ | refine At.then_normal ?_ | refine KW.skip ?_ | refine KW.cond_f rfl (by first | with_reducible rfl | decide) ?_ | ((first | apply KO.val rfl rfl rfl ?kq ?_ ); (case kq => ((first | apply qt_ev rfl ?hi | ((first | apply qt_loadN rfl rfl ?hi rfl rfl rfl ?hm ?hc); (case hm => repeat (first | exact List.Mem.head _ )); (case hc => rfl)) | refine qt_xv rfl rfl ?hi (xv_typeE _) | refine qt_xi rfl rfl rfl ?hi (me_kind _) xv_kindP | refine qt_xi rfl rfl rfl ?hi (me_kind _) xv_kindN | refine qt_xi rfl rfl rfl ?hi (me_elem _) xv_elem | refine qt_xi rfl rfl rfl ?hi (me_impl _) xv_impl | (refine q_isNil (b := ba) (p := bc) rfl rfl ?hi ?hm; (case hm => repeat (first | exact List.Mem.head _ | apply List.Mem.tail _))) | apply qt_pick_t rfl rfl (by first | decide) rfl ?hi | apply qt_pick_f rfl rfl (by first | decide) rfl ?hi ); (case hi => (intro h; (repeat' (first | with_reducible exact alln | with_reducible refine allc ?_ ?_ | with_reducible refine andi ?_ ?_)); all_goals (first | with_reducible rfl | with_reducible exact h | (simp [h]; done) )))))) | (refine KO.alloc rfl rfl rfl rfl rfl rfl ?_; intro _ _) | (apply KO.store (i := _) rfl rfl rfl rfl rfl rfl rfl rfl ?hl ?sg ?hw ?ho ?hs; (case sg => first | exact (rfl : getI 0 _ = _) ); (case hl => rfl); (case hw => rfl); (case ho => rfl); (case hs => rfl)) | ((first | apply KO.val (g := true) rfl rfl rfl ); (first | (apply qt_load1_cel rfl rfl ?hi rfl rfl ?hc; (case hc => first | exact fun _ => (hty.mono (fun _ hq => by cases hq))))); (case hi => (first | exact fun _ => rfl ))) | fail)
  rename_i b5 _
  have c := as_p E.β bc ba old t.size t (Nat.le_refl _) ht
  rw [hv] at c
  refine KO.callF (asH bc ba old) [(b5, cl [hdl 103, .pointer (some ⟨ba, 0, none⟩), .int .u64 150] 130)] (by dsimp only [asH]; exact (by classical exact List.perm_iff_count.2 (fun _ => by first | (simp only [List.count_append, List.count_cons, List.count_nil, List.append_assoc, List.cons_append, List.nil_append]; omega)))) rfl rfl rfl rfl rfl rfl rfl c ?_
  rintro _ _ ⟨rfl, rfl⟩
  repeat' (first | refine KO.nil ?_ | refine At.then_normal ?_ | refine KW.ret ?_ | ((first | apply KO.val rfl rfl rfl ?kq ?_ ); (case kq => ((first | apply qt_ev rfl ?hi ); (case hi => (intro h; (repeat' (first | with_reducible exact alln | with_reducible refine allc ?_ ?_ )); all_goals (first | with_reducible rfl )))))) | fail)
  ((first | apply At.done_ret ); (focus (repeat' (first | exact ResVs.nil' | apply ResVs.cons' | exact ResV.tmp' rfl ))); dsimp only [resVal])
  exact ⟨_, .cons_cons _ (List.nil_sublist _), rfl, rfl⟩
theorem AsNil_p (β : Nat → Option Obj) (σ : Heap) (v : Value) : Go.K.Tr Tryd.prog 47 [.nilIface, v] β σ (fun z σ' => z = .bool false ∧ σ' = σ) := by
  refine Tr.of_body Tryd.tt (args := [.nilIface, v]) (fr := [(0, true, .nilIface), (1, true, v)]) Tryd.func47 rfl (by decide) rfl Tryd.ntmps47 rfl rfl ?_
  intro E hE
  subst hE
  repeat' (first | refine KW.seq ?_ | refine KW.region ?_ | refine KO.nil ?_ | refine At.then_normal ?_ | refine KW.ret ?_ | refine At.then_ret ?_ | refine KW.cond_t rfl (by first | with_reducible rfl ) ?_ | ((first | apply KO.val rfl rfl rfl ?kq ?_ ); (case kq => ((first | apply qt_ev rfl ?hi | apply qt_eqs rfl rfl rfl ?hi rfl (Or.inr ⟨rfl, rfl, rfl⟩) ); (case hi => (intro h; (repeat' (first | with_reducible exact alln | with_reducible refine allc ?_ ?_ | with_reducible refine andi ?_ ?_)); all_goals (first | with_reducible rfl )))))) | fail)
  ((first | apply At.done_ret ); (focus (repeat' (first | exact ResVs.nil' | apply ResVs.cons' | exact ResV.tmp' rfl ))); dsimp only [resVal])
  exact ⟨rfl, rfl⟩
/-- The first number; 24 if there is none. -/
def ErrT.first (t : ErrT) : Int := match t.codes with
  | [] => 24
  | c :: _ => c
theorem Code_p (β : Nat → Option Obj) (hty : TBE β) (t : ErrT) (ht : t.Lies β []) : Go.K.Tr Tryd.prog 23 [t.val] β [] (fun v σ => v = .int .i64 t.first ∧ σ = []) := by
  obtain ⟨T, u, hv⟩ := t.val_iface
  refine Tr.sub ?_
  rw [hv]
  refine Tr.of_body Tryd.tt (args := [.iface T u]) (fr := [(0, true, .iface T u)]) Tryd.func23 rfl (by decide) rfl Tryd.ntmps23 rfl rfl ?_
  intro E hE
  subst hE
  repeat' (first | refine KW.seq ?_ | refine KW.region ?_ | refine KO.nil ?_ | refine At.then_normal ?_ | refine KW.block ?_ | refine KW.cond_f rfl (by first | with_reducible rfl ) ?_ | ((first | apply KO.val rfl rfl rfl ?kq ?_); (case kq => ((first | apply qt_ev rfl ?hi | apply qt_eqs rfl rfl rfl ?hi rfl (Or.inl rfl) ); (case hi => (intro h; (repeat' (first | with_reducible exact alln | with_reducible refine allc ?_ ?_ | with_reducible refine andi ?_ ?_)); all_goals (first | with_reducible rfl )))))) | (refine KO.alloc rfl rfl rfl rfl rfl rfl ?_; intro _ _) | fail)
  rename_i bc _
  have c := As_p E.β hty t ht bc 0
  rw [hv] at c
  refine KO.callF [(bc, cl [.int .i64 0] 32)] [] (by classical exact List.perm_iff_count.2 (fun _ => by first | (simp only [List.count_append, List.count_cons, List.count_nil, List.append_assoc, List.cons_append, List.nil_append]; done) )) rfl rfl rfl rfl rfl rfl rfl c ?_
  rintro _ _ ⟨rfl, rfl⟩
  cases hc : t.codes with
  | nil =>
    rw [show asR t 0 = (false, 0) by unfold asR; rw [hc]]
    repeat' (first | refine KW.seq ?_ | refine KW.region ?_ | refine KO.nil ?_ | refine At.then_normal ?_ | refine KW.skip ?_ | refine KW.ret ?_ | refine KW.cond_f rfl (by first | with_reducible rfl ) ?_ | ((first | apply KO.val rfl rfl rfl ?kq ?_); (case kq => ((first | apply qt_ev rfl ?hi ); (case hi => (intro h; (repeat' (first | with_reducible exact alln | with_reducible refine allc ?_ ?_ )); all_goals (first | with_reducible rfl )))))) | fail)
    ((first | apply At.done_ret ); (focus (repeat' (first | exact ResVs.nil' | apply ResVs.cons' | exact ResV.tmp' rfl ))); dsimp only [resVal])
    exact ⟨[], List.nil_sublist _, by unfold ErrT.first; rw [hc], rfl⟩
  | cons a l =>
    rw [show asR t 0 = (true, a) by unfold asR; rw [hc]]
    repeat' (first | refine KW.seq ?_ | refine KW.region ?_ | refine KO.nil ?_ | refine At.then_normal ?_ | refine KW.ret ?_ | refine At.then_ret ?_ | refine At.block_ret ?_ | refine KW.cond_t rfl (by first | with_reducible rfl ) ?_ | ((first | apply KO.val rfl rfl rfl ?kq ?_); (case kq => ((first | apply qt_ev rfl ?hi | ((first | apply qt_load1 rfl rfl ?hi rfl rfl ?hm ?hc ); (case hm => repeat (first | exact List.Mem.head _ )); (case hc => rfl)) ); (case hi => (intro h; (repeat' (first | with_reducible exact alln | with_reducible refine allc ?_ ?_ )); all_goals (first | with_reducible rfl )))))) | fail)
    ((first | apply At.done_ret ); (focus (repeat' (first | exact ResVs.nil' | apply ResVs.cons' | exact ResV.tmp' rfl ))); dsimp only [resVal])
    exact ⟨[], List.nil_sublist _, by unfold ErrT.first; rw [hc], rfl⟩
theorem CodeNil_p (β : Nat → Option Obj) : Go.K.Tr Tryd.prog 23 [.nilIface] β [] (fun v σ => v = .int .i64 0 ∧ σ = []) := by
  refine Tr.sub ?_
  refine Tr.of_body Tryd.tt (args := [.nilIface]) (fr := [(0, true, .nilIface)]) Tryd.func23 rfl (by decide) rfl Tryd.ntmps23 rfl rfl ?_
  intro E hE
  subst hE
  repeat' (first | refine KW.seq ?_ | refine KW.region ?_ | refine KO.nil ?_ | refine At.then_normal ?_ | refine KW.ret ?_ | refine At.then_ret ?_ | refine KW.block ?_ | refine At.block_ret ?_ | refine KW.cond_t rfl (by first | with_reducible rfl ) ?_ | ((first | apply KO.val rfl rfl rfl ?kq ?_); (case kq => ((first | apply qt_ev rfl ?hi | apply qt_eqs rfl rfl rfl ?hi rfl (Or.inr ⟨rfl, rfl, rfl⟩) ); (case hi => (intro h; (repeat' (first | with_reducible exact alln | with_reducible refine allc ?_ ?_ | with_reducible refine andi ?_ ?_)); all_goals (first | with_reducible rfl )))))) | (refine KO.alloc rfl rfl rfl rfl rfl rfl ?_; intro _ _) | fail)
  ((first | apply At.done_ret ); (focus (repeat' (first | exact ResVs.nil' | apply ResVs.cons' | exact ResV.tmp' rfl ))); dsimp only [resVal])
  exact ⟨[], List.nil_sublist _, rfl, rfl⟩
theorem WrapNil_p (β : Nat → Option Obj) (op : ByteArray) : Go.K.Tr Tryd.prog 26 [.string op, .nilIface] β [] (fun v σ => v = .nilIface ∧ σ = []) := by
  refine Tr.of_body Tryd.tt (args := [.string op, .nilIface]) (fr := [(0, true, .string op), (1, true, .nilIface)]) Tryd.func26 rfl (by decide) rfl Tryd.ntmps26 rfl rfl ?_
  intro E hE
  subst hE
  repeat' (first | refine KW.seq ?_ | refine KW.region ?_ | refine KO.nil ?_ | refine At.then_normal ?_ | refine KW.ret ?_ | refine At.then_ret ?_ | refine KW.cond_t rfl (by first | with_reducible rfl ) ?_ | ((first | apply KO.val rfl rfl rfl ?kq ?_); (case kq => ((first | apply qt_ev rfl ?hi | apply qt_eqs rfl rfl rfl ?hi rfl (Or.inr ⟨rfl, rfl, rfl⟩) ); (case hi => (intro h; (repeat' (first | with_reducible exact alln | with_reducible refine allc ?_ ?_ | with_reducible refine andi ?_ ?_)); all_goals (first | with_reducible rfl )))))) | fail)
  ((first | apply At.done_ret ); (focus (repeat' (first | exact ResVs.nil' | apply ResVs.cons' | exact ResV.tmp' rfl ))); dsimp only [resVal])
  exact ⟨rfl, rfl⟩
theorem Wrap_p (β : Nat → Option Obj) (op : ByteArray) (T : TypeId) (u : Value) : Go.K.Tr Tryd.prog 26 [.string op, .iface T u] β [] (fun v σ => ∃ b, v = .iface 100 (.pointer (some ⟨b, 0, none⟩)) ∧ σ = [(b, cl [.string op, .iface T u] 108)]) := by
  refine Tr.sub ?_
  refine Tr.of_body Tryd.tt (args := [.string op, .iface T u]) (fr := [(0, true, .string op), (1, true, .iface T u)]) Tryd.func26 rfl (by decide) rfl Tryd.ntmps26 rfl rfl ?_
  intro E hE
  subst hE
  repeat' (first | refine KW.seq ?_ | refine KW.region ?_ | refine KO.nil ?_ | refine At.then_normal ?_ | refine KW.skip ?_ | refine KW.ret ?_ | refine KW.cond_f rfl (by first | with_reducible rfl ) ?_ | ((first | apply KO.val rfl rfl rfl ?kq ?_); (case kq => ((first | apply qt_ev rfl ?hi | apply qt_build rfl rfl ?hi rfl | apply qt_eqs rfl rfl rfl ?hi rfl (Or.inl rfl) ); (case hi => (intro h; (repeat' (first | with_reducible exact alln | with_reducible refine allc ?_ ?_ | with_reducible refine andi ?_ ?_)); all_goals (first | with_reducible rfl )))))) | (refine KO.box rfl rfl rfl rfl rfl rfl ?_; intro _ _) | fail)
  ((first | apply At.done_ret ); (focus (repeat' (first | exact ResVs.nil' | apply ResVs.cons' | exact ResV.tmp' rfl ))); dsimp only [resVal])
  exact ⟨_, List.Sublist.refl _, _, rfl, rfl⟩
theorem Raise0_p (β : Nat → Option Obj) (op : ByteArray) : Go.K.Tr Tryd.prog 27 [.string op, .int .i64 0] β [] (fun v σ => v = .nilIface ∧ σ = []) := by
  refine Tr.of_body Tryd.tt (args := [.string op, .int .i64 0]) (fr := [(0, true, .string op), (1, true, .int .i64 0)]) Tryd.func27 rfl (by decide) rfl Tryd.ntmps27 rfl rfl ?_
  intro E hE
  subst hE
  repeat' (first | refine KW.seq ?_ | refine KW.region ?_ | refine KO.nil ?_ | refine At.then_normal ?_ | refine KW.ret ?_ | refine At.then_ret ?_ | refine KW.cond_t rfl (by first | decide) ?_ | ((first | apply KO.val rfl rfl rfl ?kq ?_); (case kq => ((first | apply qt_ev rfl ?hi ); (case hi => (intro h; (repeat' (first | with_reducible exact alln | with_reducible refine allc ?_ ?_ )); all_goals (first | with_reducible rfl )))))) | fail)
  ((first | apply At.done_ret ); (focus (repeat' (first | exact ResVs.nil' | apply ResVs.cons' | exact ResV.tmp' rfl ))); dsimp only [resVal])
  exact ⟨rfl, rfl⟩
theorem Raise_p (β : Nat → Option Obj) (op : ByteArray) (c : Int) (hc0 : c ≠ 0) : Go.K.Tr Tryd.prog 27 [.string op, .int .i64 c] β [] (fun v σ => ∃ b, v = .iface 100 (.pointer (some ⟨b, 0, none⟩)) ∧ σ = [(b, cl [.string op, .iface 32 (.int .i64 c)] 108)]) := by
  refine Tr.sub ?_
  refine Tr.of_body Tryd.tt (args := [.string op, .int .i64 c]) (fr := [(0, true, .string op), (1, true, .int .i64 c)]) Tryd.func27 rfl (by decide) rfl Tryd.ntmps27 rfl rfl ?_
  intro E hE
  subst hE
  repeat' (first | refine KW.seq ?_ | refine KW.region ?_ | refine KO.nil ?_ | refine At.then_normal ?_ | refine KW.skip ?_ | refine KW.ret ?_ | refine At.then_ret ?_ | ((first | apply KO.val rfl rfl rfl ?kq ?_); (case kq => ((first | apply qt_ev rfl ?hi | apply qt_build rfl rfl ?hi rfl ); (case hi => (intro h; (repeat' (first | with_reducible exact alln | with_reducible refine allc ?_ ?_ )); all_goals (first | with_reducible rfl )))))) | (refine KO.box rfl rfl rfl rfl rfl rfl ?_; intro _ _) | (refine KW.cond rfl ?_ ?_ <;> (intro hc; try simp only [kBool] at hc)) | (exfalso; exact hc0 hc; done) | fail)
  ((first | apply At.done_ret ); (focus (repeat' (first | exact ResVs.nil' | apply ResVs.cons' | exact ResV.tmp' rfl ))); dsimp only [resVal])
  exact ⟨_, List.Sublist.refl _, _, rfl, rfl⟩
end Go.Proofs.YtnaclkdjchnbpaaDoor
end
section
namespace Go.Proofs.YtnaclkdjchnbpaaDoor
open Go Go.K

set_option maxHeartbeats 2000000 in
theorem PutF_p (β : Nat → Option Obj) (bw m : Nat) (a rv dv ev : Value) (v : Value) (φ : Heap) (xs : List Nat) (hl : xs.length = m) (hv : Vec 5 1 m (by8 xs) v φ) (hm : m ≤ 1000000) (X : Nat) (size : Int) (hX : X < 18446744073709551616) :
    Go.K.Tr Tryd.prog 70 [.pointer (some ⟨bw, 1, none⟩), .int .u64 X, .int .i64 size] β ((bw, cl [a, v, rv, dv, ev] 80) :: φ) (fun v' σ' =>
      v' = .int .i64 (putE X size) ∧ ∃ u φ', Vec 5 1 (m + (putB X size).length) (by8 (xs ++ putB X size)) u φ' ∧ σ' = (bw, cl [a, u, rv, dv, ev] 80) :: φ') := by
  refine Tr.sub ?_
  obtain ⟨pv, cv, rfl⟩ := hv.len
  refine Tr.of_body Tryd.tt (args := [.pointer (some ⟨bw, 1, none⟩), .int .u64 X, .int .i64 size]) (fr := [(0, true, .pointer (some ⟨bw, 1, none⟩)), (1, true, .int .u64 X), (2, true, .int .i64 size)]) Tryd.func70 rfl (by decide) rfl Tryd.ntmps70 rfl rfl ?_
  intro E hE
  subst hE
  have hsh : ∀ s : Int, 0 ≤ s ∧ s ≤ 8 → (X : Int).fdiv (2 ^ min (8 * s).toNat IntKind.u64.bits) = ((X / 2 ^ (8 * s.toNat) : Nat) : Int) := by
    intro s hs
    have : min (8 * s).toNat IntKind.u64.bits = 8 * s.toNat := by show min (8 * s).toNat 64 = _; omega
    rw [this, fdiv_nat]
  repeat' (first | refine KW.seq ?_ | refine KW.region ?_ | refine KO.nil ?_ | refine At.then_normal ?_ | refine KW.skip ?_ | refine KW.ret ?_ | refine At.then_ret ?_ | refine KW.block ?_ | refine At.block_ret ?_ | refine KW.cond_f rfl (by first | with_reducible rfl ) ?_ | ((first | apply KO.val rfl rfl rfl ?kq ?_ ); (try (case ksub => (intro _ hp; first | exact hp | (cases hp; done) | (repeat (first | exact hp | apply List.mem_cons_of_mem | apply List.mem_append_right)) | (simp_all; done)))); (case kq => ((first | ((first | apply qt_mul rfl rfl rfl ?hi ?om ); (case om => (intro hg; first | omega ))) | apply qt_ev rfl ?hi | refine qt_call rfl rfl ?hi (fun hg => may_p _) | ((first | apply qt_pick_and rfl rfl rfl ?hi ?pj ); (case pj => (intro h h2; first | with_reducible exact h2 ))) | apply qt_eqs rfl rfl rfl ?hi rfl (Or.inl rfl) | ((first | apply qt_shr rfl rfl rfl ?hi ?om); (case om => (intro hg; first | omega )))); (case hi => (intro h; (repeat' (first | with_reducible exact alln | with_reducible refine allc ?_ ?_ | with_reducible refine andi ?_ ?_)); all_goals (first | with_reducible rfl | with_reducible exact h )))))) | (refine KW.cond rfl ?_ ?_ <;> (intro hc; try simp only [kBool, wMay] at hc)) | fail)
  · ((first | apply At.done_ret ); (focus (repeat' (first | exact ResVs.nil' | apply ResVs.cons' | exact ResV.tmp' rfl ))); dsimp only [resVal])
    have e : putE X size = 1 := by
      have : wMay size = false := by simp only [wMay, Bool.and_eq_false_iff, decide_eq_false_iff_not]; exact hc
      simp [putE, this]
    rw [e]
    refine ⟨_, List.Sublist.refl _, rfl, _, φ, ?_, rfl⟩
    simp [putB, e]; exact hv
  · ((first | apply At.done_ret ); (focus (repeat' (first | exact ResVs.nil' | apply ResVs.cons' | exact ResV.tmp' rfl ))); dsimp only [resVal])
    rw [hsh size (by omega)] at hc
    have hw : wMay size = true := by simp only [wMay, Bool.and_eq_true, decide_eq_true_eq]; assumption
    have e : putE X size = 10 := by
      have h2 : X / 2 ^ (8 * size.toNat) ≠ 0 := fun h => hc.2 (by rw [h]; rfl)
      simp only [putE, hw, if_true, hc.1, h2, ne_eq, not_false_eq_true, and_self]
    rw [e]
    refine ⟨_, List.Sublist.refl _, rfl, _, φ, ?_, rfl⟩
    simp [putB, e]; exact hv
  · obtain ⟨Z, rfl⟩ : ∃ Z : Nat, size = Z := ⟨size.toNat, by omega⟩
    have hZ : 1 ≤ Z ∧ Z ≤ 8 := by omega
    refine KW.loop (fun s : S19 => s.k ≤ Z ∧ Vec 5 1 (m + s.k) (by8 (xs ++ bes X Z s.k)) s.v s.φ) (fun s => ([(26, true, .int .i64 (s.k : Int)), (25, true, .int .i64 (Z : Int)), (1, true, .int .u64 (X : Int)), (2, true, .int .i64 (Z : Int)), (0, true, .pointer (some ⟨bw, 1, none⟩))], (bw, cl [a, s.v, rv, dv, ev] 80) :: s.φ)) (fun s => Z - s.k) ⟨0, _, φ⟩
      ⟨Nat.zero_le _, by simpa [bes] using hv⟩ (Le.sub (FLe.cons rfl rfl (FLe.cons rfl rfl (FLe.cons rfl rfl (FLe.cons rfl rfl (FLe.cons rfl rfl (FLe.nil _)))))) (List.Sublist.refl _)) ?_
    rintro ⟨k, u, φ⟩ ⟨hk, hu⟩
    dsimp only at hk hu ⊢
    obtain ⟨pu, cu, rfl⟩ := hu.len
    repeat' (first | refine KW.seq ?_ | refine KW.region ?_ | refine KO.nil ?_ | refine At.then_normal ?_ | refine KW.skip ?_ | refine KW.ret ?_ | refine KW.block ?_ | refine KW.exit ?_ | refine KW.drawM (id := 10) [1, 0, 0, 0, 0, 0, 0, 0, 0, 0, 0, 0, 0, 2, 3] [] (by decide +kernel) rfl rfl rfl ?_ | refine KDH.mid2 ?_ | refine KDH.mid3 ?_ | refine KDH.done ?_ | refine KDM.head0 ?_ | refine KDM.head1 ?_ | ((first | refine KDM.eo2f rfl rfl rfl (eo_buildSlice rfl rfl rfl rfl rfl rfl rfl rfl rfl rfl rfl) ?_ ); rintro _ _ ⟨_, _, rfl, rfl⟩; refine ⟨?sub, ?_⟩; (case sub => (intro _ hp; first | (repeat (first | exact hp | apply List.mem_cons_of_mem )) ))) | ((first | apply KO.val rfl rfl rfl ?kq ?_ | apply KDH.val0 rfl rfl rfl ?kq ?_ | apply KDH.val1 rfl rfl rfl ?kq ?_ ); (try (case ksub => (intro _ hp; first | exact hp | (cases hp; done) | (repeat (first | exact hp | apply List.mem_cons_of_mem | apply List.mem_append_right)) | (simp_all; done)))); (case kq => ((first | ((first | apply qt_sub rfl rfl rfl ?hi ?om | apply qt_mul rfl rfl rfl ?hi ?om ); (case om => (intro hg; first | omega ))) | apply qt_ev rfl ?hi | ((first | apply qt_load1 rfl rfl ?hi rfl rfl ?hm ?hc ); (case hm => repeat (first | exact List.Mem.head _ )); (case hc => rfl)) | ((first | apply qt_shr rfl rfl rfl ?hi ?om); (case om => (intro hg; first | omega )))); (case hi => (intro h; (repeat' (first | with_reducible exact alln | with_reducible refine allc ?_ ?_ | with_reducible refine andi ?_ ?_)); all_goals (first | with_reducible rfl )))))) | (refine KW.cond rfl ?_ ?_ <;> (intro hc; try simp only [kBool] at hc)) | fail)
    · have e1 : IntKind.u8.wrap ((X : Int).fdiv (2 ^ min (8 * ((Z : Int) - 1 - (k : Int))).toNat IntKind.u64.bits)) = ((X / 2 ^ (8 * (Z - 1 - k)) % 256 : Nat) : Int) := by
        rw [hsh _ (by omega), show ((Z : Int) - 1 - (k : Int)).toNat = Z - 1 - k by omega, wrap_u8]
      refine KDM.eo3 rfl rfl rfl (eo_append [_, (bw, _)] φ rfl rfl rfl rfl rfl rfl rfl (by decide) rfl hu (k := 1) (news := by8 [X / 2 ^ (8 * (Z - 1 - k)) % 256]) rfl ?_ rfl ?_ ?_) ?_
      · intro j w hj
        refine .inl ⟨_, _, List.Mem.head _, ?_⟩
        rw [e1]
        simpa [by8] using hj
      · simp only [maxLen]; omega
      · omega
      · rintro v' _ ⟨φ', hv', rfl⟩
        refine ⟨(by intro p hp; cases hp), ?_⟩
        obtain ⟨p', c', rfl⟩ := hv'.len
        rw [← by8_append, List.append_assoc, ← bes_succ] at hv'
        repeat' (first | refine KW.region ?_ | refine KO.nil ?_ | refine KDM.fin ?_ | ((first | apply KO.val rfl rfl rfl ?kq ?_ ); (try (case ksub => (intro _ hp; first | exact hp | (cases hp; done) | (repeat (first | exact hp | apply List.mem_cons_of_mem | apply List.mem_append_right)) | (simp_all; done)))); (case kq => ((first | ((first | apply qt_add rfl rfl rfl ?hi ?om ); (case om => (intro hg; first | omega ))) | apply qt_ev rfl ?hi ); (case hi => (intro h; (repeat' (first | with_reducible exact alln | with_reducible refine allc ?_ ?_ | with_reducible refine andi ?_ ?_)); all_goals (first | with_reducible rfl )))))) | (apply KO.store (i := _) rfl rfl rfl rfl rfl rfl rfl rfl ?hl ?sg ?hw ?ho ?hs; (case sg => first | exact (rfl : getI 1 _ = _) ); (case hl => rfl); (case hw => rfl); (case ho => rfl); (case hs => rfl)) | fail)
        refine At.loop_on ⟨k + 1, _, φ'⟩ ⟨by dsimp only; omega, hv'⟩ (by dsimp only; omega) (Le.sub (FLe.cons rfl rfl (FLe.cons rfl rfl (FLe.cons rfl rfl (FLe.cons rfl rfl (FLe.cons rfl rfl (FLe.nil _)))))) (List.Sublist.cons _ (List.Sublist.refl _)))
    · ((first | apply At.done_ret ); (focus (repeat' (first | exact ResVs.nil' | apply ResVs.cons' | exact ResV.tmp' rfl ))); dsimp only [resVal])
      have hk2 : k = Z := by omega
      subst hk2
      have e : putE X (k : Int) = 0 := by
        have h1 : wMay (k : Int) = true := by simp only [wMay, Bool.and_eq_true, decide_eq_true_eq]; omega
        have hc3 : ¬ ((k : Int) < 8) ∨ ((X / 2 ^ (8 * (k : Int).toNat) : Nat) : Int) = 0 := by
          rw [← hsh _ (by omega)]; assumption
        have h2 : ¬ ((k : Int) < 8 ∧ X / 2 ^ (8 * (k : Int).toNat) ≠ 0) := by
          rintro ⟨h3, h4⟩
          rcases hc3 with h | h
          · exact h h3
          · exact h4 (by omega)
        rw [putE, h1, if_pos rfl, if_neg h2]
      rw [e]
      refine ⟨_, List.Sublist.refl _, rfl, _, φ, ?_, rfl⟩
      simp only [putB, e, if_true, Int.toNat_natCast, bes_len]
      exact hu

/-- What went wrong first, as it lies. -/
def EV (what : ByteArray) (x : Option (ByteArray × Int)) (ev : Value) (ε : Heap) : Prop :=
  match x with
  | none => ev = .nilIface ∧ ε = []
  | some (n, e) => ∃ b c, ev = .iface 100 (.pointer (some ⟨b, 0, none⟩)) ∧ ε = [(b, cl [.string what, .iface 100 (.pointer (some ⟨c, 0, none⟩))] 108), (c, cl [.string n, .iface 32 (.int .i64 e)] 108)]
/-- A first fault stays. -/
def note (x : Option (ByteArray × Int)) (n : ByteArray) (e : Int) : Option (ByteArray × Int) := match x with
  | none => if e = 0 then none else some (n, e)
  | some y => some y
theorem wrongS_p (β : Nat → Option Obj) (bf : Nat) (n : ByteArray) (e : Int) (a wv rv dv : Value) (T : TypeId) (u : Value) (σ : Heap) :
    Go.K.Tr Tryd.prog 53 [.pointer (some ⟨bf, 0, none⟩), .string n, .int .i64 e] β ((bf, cl [a, wv, rv, dv, .iface T u] 80) :: σ) (fun _ σ' => σ' = (bf, cl [a, wv, rv, dv, .iface T u] 80) :: σ) := by
  refine Tr.of_body Tryd.tt (args := [.pointer (some ⟨bf, 0, none⟩), .string n, .int .i64 e]) (fr := [(0, true, .pointer (some ⟨bf, 0, none⟩)), (1, true, .string n), (2, true, .int .i64 e)]) Tryd.func53 rfl (by decide) rfl Tryd.ntmps53 rfl rfl ?_
  intro E hE
  subst hE
  repeat' (first | refine KW.seq ?_ | refine KW.region ?_ | refine KO.nil ?_ | refine At.then_normal ?_ | refine KW.skip ?_ | refine KW.cond_f rfl (by first | with_reducible rfl ) ?_ | ((first | apply KO.val rfl rfl rfl ?kq ?_ ); (case kq => ((first | apply qt_ev rfl ?hi | ((first | apply qt_load1 rfl rfl ?hi rfl rfl ?hm ?hc ); (case hm => repeat (first | exact List.Mem.head _ )); (case hc => rfl)) | apply qt_eqs rfl rfl rfl ?hi rfl (Or.inl rfl) ); (case hi => (intro h; (repeat' (first | with_reducible exact alln | with_reducible refine allc ?_ ?_ | with_reducible refine andi ?_ ?_)); all_goals (first | with_reducible rfl )))))) | fail)
  ((first | apply At.done_normal); (focus (repeat' (first | exact ResVs.nil' ))); dsimp only [resVal])
theorem wrong0_p (β : Nat → Option Obj) (bf : Nat) (n what : ByteArray) (wv rv dv : Value) (σ : Heap) :
    Go.K.Tr Tryd.prog 53 [.pointer (some ⟨bf, 0, none⟩), .string n, .int .i64 0] β ((bf, cl [.string what, wv, rv, dv, .nilIface] 80) :: σ) (fun _ σ' => σ' = (bf, cl [.string what, wv, rv, dv, .nilIface] 80) :: σ) := by
  refine Tr.of_body Tryd.tt (args := [.pointer (some ⟨bf, 0, none⟩), .string n, .int .i64 0]) (fr := [(0, true, .pointer (some ⟨bf, 0, none⟩)), (1, true, .string n), (2, true, .int .i64 0)]) Tryd.func53 rfl (by decide) rfl Tryd.ntmps53 rfl rfl ?_
  intro E hE
  subst hE
  repeat' (first | refine KW.seq ?_ | refine KW.region ?_ | refine KO.nil ?_ | refine At.then_normal ?_ | refine KW.cond_t rfl (by first | with_reducible rfl ) ?_ | refine KW.drawU rfl (by decide +kernel) ?_ | refine KD.zero ?_ | ((first | apply KO.val rfl rfl rfl ?kq ?_ | apply KD.val rfl rfl rfl ?kq ?_); (case kq => ((first | apply qt_ev rfl ?hi | ((first | apply qt_load1 rfl rfl ?hi rfl rfl ?hm ?hc ); (case hm => repeat (first | exact List.Mem.head _ )); (case hc => rfl)) | refine qt_callQ rfl rfl ?hi (fun hg => Tr.quiet (Raise0_p E.β n)) | refine qt_callQ rfl rfl ?hi (fun hg => Tr.quiet (WrapNil_p E.β what)) | apply qt_eqs rfl rfl rfl ?hi rfl (Or.inr ⟨rfl, rfl, rfl⟩) ); (case hi => (intro h; (repeat' (first | with_reducible exact alln | with_reducible refine allc ?_ ?_ | with_reducible refine andi ?_ ?_)); all_goals (first | with_reducible rfl )))))) | (apply KO.store (i := _) rfl rfl rfl rfl rfl rfl rfl rfl ?hl ?sg ?hw ?ho ?hs; (case sg => first | exact (rfl : getI 0 _ = _) ); (case hl => rfl); (case hw => rfl); (case ho => rfl); (case hs => rfl)) | fail)
  ((first | apply At.done_normal); (focus (repeat' (first | exact ResVs.nil' ))); dsimp only [resVal])
theorem wrong1_p (β : Nat → Option Obj) (bf : Nat) (n what : ByteArray) (e : Int) (he : e ≠ 0) (wv rv dv : Value) (σ : Heap) :
    Go.K.Tr Tryd.prog 53 [.pointer (some ⟨bf, 0, none⟩), .string n, .int .i64 e] β ((bf, cl [.string what, wv, rv, dv, .nilIface] 80) :: σ) (fun _ σ' => ∃ ev ε, EV what (some (n, e)) ev ε ∧ σ' = (bf, cl [.string what, wv, rv, dv, ev] 80) :: ε ++ σ) := by
  refine Tr.perm ?_
  refine Tr.of_body Tryd.tt (args := [.pointer (some ⟨bf, 0, none⟩), .string n, .int .i64 e]) (fr := [(0, true, .pointer (some ⟨bf, 0, none⟩)), (1, true, .string n), (2, true, .int .i64 e)]) Tryd.func53 rfl (by decide) rfl Tryd.ntmps53 rfl rfl ?_
  intro E hE
  subst hE
  repeat' (first | refine KW.seq ?_ | refine KW.region ?_ | refine KO.nil ?_ | refine At.then_normal ?_ | refine KW.cond_t rfl (by first | with_reducible rfl ) ?_ | refine KW.drawM (id := 1) [0, 0, 0, 0, 0, 0, 0, 2, 2] [] (by decide +kernel) rfl rfl rfl ?_ | refine KDH.mid2 ?_ | refine KDH.done ?_ | refine KDM.head0 ?_ | ((first | apply KO.val rfl rfl rfl ?kq ?_ | apply KDH.val0 rfl rfl rfl ?kq ?_ ); (try (case ksub => (intro _ hp; first | exact hp | (cases hp; done) | (repeat (first | exact hp | apply List.mem_cons_of_mem | apply List.mem_append_right)) | (simp_all; done)))); (case kq => ((first | apply qt_ev rfl ?hi | ((first | apply qt_load1 rfl rfl ?hi rfl rfl ?hm ?hc ); (case hm => repeat (first | exact List.Mem.head _ )); (case hc => rfl)) | apply qt_eqs rfl rfl rfl ?hi rfl (Or.inr ⟨rfl, rfl, rfl⟩) ); (case hi => (intro h; (repeat' (first | with_reducible exact alln | with_reducible refine allc ?_ ?_ | with_reducible refine andi ?_ ?_)); all_goals (first | with_reducible rfl )))))) | fail)
  refine KDM.eo2f rfl rfl rfl (eo_callE rfl rfl rfl rfl rfl (Raise_p _ n e he)) ?_
  rintro _ _ ⟨_, ⟨c, rfl, rfl⟩, rfl⟩
  refine ⟨fun r hr => by simp [hr], ?_⟩
  repeat' (first | refine KW.seq ?_ | refine KW.region ?_ | refine KO.nil ?_ | refine At.then_normal ?_ | refine KW.skip ?_ | refine KW.ret ?_ | refine At.then_ret ?_ | refine KW.block ?_ | refine KW.exit ?_ | refine At.block_normal ?_ | refine At.block_ret ?_ | refine At.loop_ret ?_ | refine At.then_exit ?_ | refine At.block_here rfl ?_ | refine At.block_there rfl ?_ | refine At.loop_exit ?_ | refine At.cut_ret ?_ | refine At.cutA_ret ?_ | refine At.cutA_exit ?_ | refine At.cut_exit ?_ | (refine At.cut_same ?_; repeat' (first | exact FLe.nil _ | refine FLe.cons rfl rfl ?_)) | refine KW.cond_t rfl (by first | with_reducible rfl | decide) ?_ | refine KW.cond_f rfl (by first | with_reducible rfl | decide) ?_ | refine KW.scope ?_ | refine KW.label ?_ | refine At.scope_normal ?_ | refine At.scope_ret ?_ | refine At.scope_exit ?_ | refine KW.drawM (id := 1) [0, 0, 0, 0, 0, 0, 0, 2, 2] [] (by decide +kernel) rfl rfl rfl ?_ | refine KDH.mid2 ?_ | refine KDH.mid3 ?_ | refine KDH.done ?_ | refine KDM.head0 ?_ | refine KDM.head1 ?_ | refine KDM.fin ?_ | refine KDH.skip0' rfl (by first | with_reducible rfl | decide) rfl rfl ?_ | refine KDH.skip1' rfl (by first | with_reducible rfl | decide) rfl rfl ?_ | (refine KDM.eo30 rfl rfl (eo_store (i := _) rfl rfl rfl rfl rfl rfl rfl ?sg ?sw ?so ?ss) ?_; (case sg => first | exact (rfl : getI 0 _ = _) | exact (rfl : getI 1 _ = _) | exact (rfl : getI 2 _ = _) | exact (rfl : getI 3 _ = _) | exact (rfl : getI 4 _ = _) | exact (rfl : getI 5 _ = _) | exact (rfl : getI 6 _ = _) | exact (rfl : getI 7 _ = _)); (case sw => rfl); (case so => rfl); (case ss => rfl); rintro _ _ rfl; refine ⟨?sub, ?_⟩; (case sub => (intro _ hp; first | exact hp | (cases hp; done) | (repeat (first | exact hp | apply List.mem_cons_of_mem | apply List.mem_append_right)) | (simp_all; done)))) | refine KW.draw 0 (by decide +kernel) ?_ | refine KW.drawU rfl (by decide +kernel) ?_ | refine KD.zero ?_ | ((first | apply KO.val rfl rfl rfl ?kq ?_ | apply KD.val rfl rfl rfl ?kq ?_ | apply KDH.val0 rfl rfl rfl ?kq ?_ | apply KDH.val1 rfl rfl rfl ?kq ?_ | apply KDH.valIn0 rfl rfl rfl ?kq ?_ | apply KDH.valIn1 rfl rfl rfl ?kq ?_ | apply KDM.q2f rfl rfl rfl ?kq ?ksub ?_ | apply KDM.q2t rfl rfl rfl ?kq ?ksub ?_); (try (case ksub => (intro _ hp; first | exact hp | (cases hp; done) | (repeat (first | exact hp | apply List.mem_cons_of_mem | apply List.mem_append_right)) | (simp_all; done)))); (case kq => ((first | apply qt_ev rfl ?hi | ((first | apply qt_load1 rfl rfl ?hi rfl rfl ?hm ?hc | apply qt_loadN rfl rfl ?hi rfl rfl rfl ?hm ?hc); (case hm => repeat (first | exact List.Mem.head _ | apply List.Mem.tail _ | apply List.mem_append_right _)); (case hc => rfl)) | apply qt_cap rfl rfl ?hi rfl | apply qt_eqs rfl rfl rfl ?hi rfl (Or.inl rfl) | apply qt_nes rfl rfl rfl ?hi rfl (Or.inl rfl) | apply qt_eqs rfl rfl rfl ?hi rfl (Or.inr ⟨rfl, rfl, rfl⟩) | apply qt_nes rfl rfl rfl ?hi rfl (Or.inr ⟨rfl, rfl, rfl⟩)); (case hi => (intro h; (repeat' (first | with_reducible exact alln | with_reducible refine allc ?_ ?_ | with_reducible refine andi ?_ ?_)); all_goals (first | with_reducible rfl | with_reducible exact h | with_reducible exact andl h | with_reducible exact andr h | with_reducible exact andl (andl h) | (simp only [h, Bool.and_self]; done) | (simp [h]; done) | (simp_all; done))))))) | (apply KO.store (i := _) rfl rfl rfl rfl rfl rfl rfl rfl ?hl ?sg ?hw ?ho ?hs; (case sg => first | exact (rfl : getI 0 _ = _) | exact (rfl : getI 1 _ = _) | exact (rfl : getI 2 _ = _) | exact (rfl : getI 3 _ = _) | exact (rfl : getI 4 _ = _) | exact (rfl : getI 5 _ = _) | exact (rfl : getI 6 _ = _) | exact (rfl : getI 7 _ = _)); (case hl => rfl); (case hw => rfl); (case ho => rfl); (case hs => rfl)) | (refine KW.cond rfl ?_ ?_ <;> (intro hc; try simp only [kBool] at hc)) | exact absurd trivial ‹¬True› | fail)
  refine KDM.eo2f rfl rfl rfl (eo_callE rfl rfl rfl rfl rfl (Wrap_p _ what _ _)) ?_
  rintro _ _ ⟨_, ⟨b, rfl, rfl⟩, rfl⟩
  refine ⟨fun r hr => by simp only [List.mem_append] at hr ⊢; simp [hr], ?_⟩
  repeat' (first | refine KO.nil ?_ | refine KDM.fin ?_ | ((first | apply KO.val rfl rfl rfl ?kq ?_ ); (try (case ksub => (intro _ hp; first | exact hp | (cases hp; done) | (repeat (first | exact hp | apply List.mem_cons_of_mem | apply List.mem_append_right)) | (simp_all; done)))); (case kq => ((first | apply qt_ev rfl ?hi ); (case hi => (intro h; (repeat' (first | with_reducible exact alln | with_reducible refine allc ?_ ?_ )); all_goals (first | with_reducible rfl )))))) | (apply KO.store (i := _) rfl rfl rfl rfl rfl rfl rfl rfl ?hl ?sg ?hw ?ho ?hs; (case sg => first | exact (rfl : getI 2 _ = _) ); (case hl => rfl); (case hw => rfl); (case ho => rfl); (case hs => rfl)) | fail)
  exact At.end0 ⟨_, (by classical exact List.perm_iff_count.2 (fun _ => by first | (simp only [List.count_append, List.count_cons, List.count_nil, List.append_assoc, List.cons_append, List.nil_append]; omega))), _, _, ⟨b, c, rfl, rfl⟩, rfl⟩
/-- What one field does to a form that puts: the bytes, and the fault. -/
theorem wrong_p (β : Nat → Option Obj) (bf : Nat) (n what : ByteArray) (e : Int) (wv rv dv ev : Value) (x : Option (ByteArray × Int)) (ε σ : Heap) (hx : EV what x ev ε) :
    Go.K.Tr Tryd.prog 53 [.pointer (some ⟨bf, 0, none⟩), .string n, .int .i64 e] β ((bf, cl [.string what, wv, rv, dv, ev] 80) :: (ε ++ σ)) (fun _ σ' => ∃ ev' ε', EV what (note x n e) ev' ε' ∧ σ' = (bf, cl [.string what, wv, rv, dv, ev'] 80) :: (ε' ++ σ)) := by
  rcases x with _ | ⟨n', e'⟩
  · obtain ⟨rfl, rfl⟩ := hx
    by_cases he : e = 0
    · subst he
      exact (wrong0_p β bf n what wv rv dv σ).mono fun _ s hs => ⟨_, [], ⟨rfl, rfl⟩, hs⟩
    · have e1 : note none n e = some (n, e) := by simp [note, he]
      rw [e1]
      exact wrong1_p β bf n what e he wv rv dv σ
  · obtain ⟨b, c, rfl, rfl⟩ := hx
    exact (wrongS_p β bf n e _ wv rv dv _ _ _).mono fun _ s hs => ⟨_, _, ⟨b, c, rfl, rfl⟩, hs⟩
/-- f.put. -/
theorem put_p (β : Nat → Option Obj) (bf m bx : Nat) (cs : List Value) (t : TypeId) (ox : Nat) (a rv dv ev : Value) (v : Value) (φ : Heap) (xs : List Nat) (hl : xs.length = m) (hv : Vec 5 1 m (by8 xs) v φ) (hm : m ≤ 1000000) (X : Nat) (size : Int) (hX : X < 18446744073709551616) (hx : cs[ox]? = some (.int .u64 (X : Int))) :
    Go.K.Tr Tryd.prog 51 [.pointer (some ⟨bf, 0, none⟩), .pointer (some ⟨bx, ox, none⟩), .int .i64 size] β ((bf, cl [a, v, rv, dv, ev] 80) :: ((bx, cl cs t) :: φ)) (fun v' σ' => v' = .int .i64 (putE X size) ∧ ∃ u φ', Vec 5 1 (m + (putB X size).length) (by8 (xs ++ putB X size)) u φ' ∧ σ' = (bf, cl [a, u, rv, dv, ev] 80) :: ((bx, cl cs t) :: φ')) := by
  refine Tr.perm ?_
  refine Tr.of_body Tryd.tt (args := [.pointer (some ⟨bf, 0, none⟩), .pointer (some ⟨bx, ox, none⟩), .int .i64 size]) (fr := [(0, true, .pointer (some ⟨bf, 0, none⟩)), (1, true, .pointer (some ⟨bx, ox, none⟩)), (2, true, .int .i64 size)]) Tryd.func51 rfl (by decide) rfl Tryd.ntmps51 rfl rfl ?_
  intro E hE
  subst hE
  have k1 : Cel E.β ((bf, cl [a, v, rv, dv, ev] 80) :: ((bx, cl cs t) :: φ)) bx ox (.int .u64 (X : Int)) := .inl ⟨cs, t, List.Mem.tail _ (List.Mem.head _), hx⟩
  repeat' (first | refine KW.seq ?_ | refine KW.region ?_ | refine KO.nil ?_ | refine KW.draw (id := 1) 7 (by decide +kernel) ?_ | refine KD.zero ?_ | ((first | apply KO.val rfl rfl rfl ?kq ?_ | apply KD.val rfl rfl rfl ?kq ?_ ); (try (case ksub => (intro _ hp; first | exact hp | (cases hp; done) | (repeat (first | exact hp | apply List.mem_cons_of_mem | apply List.mem_append_right)) | (simp_all; done)))); (case kq => ((first | apply qt_ev rfl ?hi ); (case hi => (intro h; (repeat' (first | with_reducible exact alln | with_reducible refine allc ?_ ?_ )); all_goals (first | with_reducible rfl )))))) | ((first | apply KD.val (g := true) rfl rfl rfl ); (first | (apply qt_load1_cel rfl rfl ?hi rfl rfl ?hc; (case hc => first | exact fun _ => (k1)))); (case hi => (first | exact fun _ => rfl ))) | fail)
  refine KO.callF ((bf, cl [a, v, rv, dv, ev] 80) :: φ) [(bx, cl cs t)] (by classical exact List.perm_iff_count.2 (fun _ => by first | (simp only [List.count_append, List.count_cons, List.count_nil, List.append_assoc, List.cons_append, List.nil_append]; omega))) rfl rfl rfl rfl rfl rfl rfl (PutF_p _ bf m a rv dv ev v φ xs hl hv hm X size hX) ?_
  rintro _ _ ⟨rfl, u, φ', hu, rfl⟩
  repeat' (first | refine KO.nil ?_ | refine At.then_normal ?_ | refine KW.ret ?_ | ((first | apply KO.val rfl rfl rfl ?kq ?_ ); (try (case ksub => (intro _ hp; first | exact hp | (cases hp; done) | (repeat (first | exact hp | apply List.mem_cons_of_mem | apply List.mem_append_right)) | (simp_all; done)))); (case kq => ((first | apply qt_ev rfl ?hi ); (case hi => (intro h; (repeat' (first | with_reducible exact alln | with_reducible refine allc ?_ ?_ )); all_goals (first | with_reducible rfl )))))) | fail)
  ((first | apply At.done_ret ); (focus (repeat' (first | exact ResVs.nil' | apply ResVs.cons' | exact ResV.tmp' rfl ))); dsimp only [resVal])
  refine ⟨_, (by classical exact List.perm_iff_count.2 (fun _ => by first | (simp only [List.count_append, List.count_cons, List.count_nil, List.append_assoc, List.cons_append, List.nil_append]; omega))), rfl, u, φ', hu, rfl⟩
end Go.Proofs.YtnaclkdjchnbpaaDoor
end
section
namespace Go.Proofs.YtnaclkdjchnbpaaDoor
open Go Go.K

/-- A form puts bytes, or takes them. -/
inductive Md where
  | put (xs : List Nat)
  | take (l : List Nat)
def Md.fn : Md → Nat
  | .put _ => 51
  | .take _ => 65
def Md.len : Md → Nat
  | .put xs => xs.length
  | .take l => l.length
def Md.step : Md → Nat → Int → Md × Nat × Int
  | .put xs, X, s => (.put (xs ++ putB X s), X, putE X s)
  | .take l, _, s => if wMay s then (if s ≤ (l.length : Int) then (.take (l.drop s.toNat), num (l.take s.toNat), 0) else (.take l, 0, 17)) else (.take l, 0, 1)
/-- How it lies: the parts w, r and does, and what hangs on them. -/
def FormH (β : Nat → Option Obj) (bf : Nat) (md : Md) (wv rv dv : Value) (φ : Heap) : Prop :=
  dv = .func (.func md.fn) #[.pointer (some ⟨bf, 0, none⟩)] #[] ∧ match md with
  | .put xs => Vec 5 1 xs.length (by8 xs) wv φ ∧ rv = .pointer none
  | .take l => wv = .slice none 0 0 ∧ ∃ br p c ψ, rv = .pointer (some ⟨br, 0, none⟩) ∧ φ = (br, cl [.slice p l.length c] 126) :: ψ ∧ Byt l ∧ l.length ≤ c ∧ (p = none → c = 0 ∧ l.length = 0) ∧ SL β ψ 1 l.length (by8 l) p
theorem wr_set {cs : List Value} {o : Nat} {v : Value} (h : o < cs.length) : Wr cs o [v] (cs.set o v) :=
  ⟨by show o + 1 ≤ cs.length; exact h, by rw [List.set_eq_take_append_cons_drop, if_pos h]; simp⟩
theorem set_same {cs : List Value} {o : Nat} {v : Value} (h : cs[o]? = some v) : cs.set o v = cs := by
  apply List.ext_getElem?
  intro i
  by_cases hi : o = i
  · subst hi
    rw [List.getElem?_set_self (List.getElem?_eq_some_iff.1 h).1, h]
  · rw [List.getElem?_set_ne hi]
theorem SL.drop8 {β : Nat → Option Obj} {σ : Heap} {l : List Nat} {p : Option Addr} {c s : Nat} (h : SL β σ 1 l.length (by8 l) p) (hs : s ≤ l.length) (hc : l.length ≤ c) : SL β σ 1 (l.drop s).length (by8 (l.drop s)) (adv 1 p c s) := by
  have h1 := SL.adv (c := c) h hs (Nat.le_refl _) hc
  have e : ((by8 l).drop (s * 1)).take ((l.length - s) * 1) = by8 (l.drop s) := by
    rw [Nat.mul_one, Nat.mul_one, List.take_of_length_le (by rw [List.length_drop, by8_len]; omega)]
    simp only [by8, List.map_drop]
  rw [e] at h1
  rw [List.length_drop]
  exact h1
theorem adv_none {p : Option Addr} {c s : Nat} {l : List Nat} (h : p = none → c = 0 ∧ l.length = 0) : adv 1 p c s = none → c - s = 0 ∧ (l.drop s).length = 0 := by
  intro hn
  have hp : p = none := by
    unfold adv at hn
    split at hn
    · exact hn
    · simpa using hn
  have := h hp
  rw [List.length_drop]
  omega
/-- f.take. -/
theorem take_p (β : Nat → Option Obj) (bf bx br c : Nat) (cs : List Value) (t : TypeId) (ox : Nat) (a wv dv ev : Value) (p : Option Addr) (ψ : Heap) (l : List Nat) (hB : Byt l) (hlc : l.length ≤ c) (hpc : p = none → c = 0 ∧ l.length = 0) (hs : SL β ψ 1 l.length (by8 l) p) (hm : l.length ≤ 1000000) (X : Nat) (size : Int) (hx : ox < cs.length) :
    Go.K.Tr Tryd.prog 65 [.pointer (some ⟨bf, 0, none⟩), .pointer (some ⟨bx, ox, none⟩), .int .i64 size] β ((bf, cl [a, wv, .pointer (some ⟨br, 0, none⟩), dv, ev] 80) :: ((bx, cl cs t) :: ((br, cl [.slice p l.length c] 126) :: ψ))) (fun v' σ' =>
      v' = .int .i64 ((Md.take l).step X size).2.2 ∧ ∃ l' p' c', ((Md.take l).step X size).1 = .take l' ∧ Byt l' ∧ l'.length ≤ c' ∧ (p' = none → c' = 0 ∧ l'.length = 0) ∧ SL β ψ 1 l'.length (by8 l') p' ∧ σ' = (bf, cl [a, wv, .pointer (some ⟨br, 0, none⟩), dv, ev] 80) :: ((bx, cl (cs.set ox (.int .u64 (((Md.take l).step X size).2.1 : Nat))) t) :: ((br, cl [.slice p' l'.length c'] 126) :: ψ))) := by
  refine Tr.perm ?_
  refine Tr.of_body Tryd.tt (args := [.pointer (some ⟨bf, 0, none⟩), .pointer (some ⟨bx, ox, none⟩), .int .i64 size]) (fr := [(0, true, .pointer (some ⟨bf, 0, none⟩)), (1, true, .pointer (some ⟨bx, ox, none⟩)), (2, true, .int .i64 size)]) Tryd.func65 rfl (by decide) rfl Tryd.ntmps65 rfl rfl ?_
  intro E hE
  subst hE
  repeat' (first | refine KW.seq ?_ | refine KW.region ?_ | refine KO.nil ?_ | ((first | apply KO.val rfl rfl rfl ?kq ?_); (case kq => ((first | apply qt_ev rfl ?hi | ((first | apply qt_load1 rfl rfl ?hi rfl rfl ?hm ?hc ); (case hm => repeat (first | exact List.Mem.head _ )); (case hc => rfl)) ); (case hi => (intro h; (repeat' (first | with_reducible exact alln | with_reducible refine allc ?_ ?_ )); all_goals (first | with_reducible rfl )))))) | fail)
  refine KO.callF ((br, cl [.slice p l.length c] 126) :: ψ) [(bf, cl [a, wv, .pointer (some ⟨br, 0, none⟩), dv, ev] 80), (bx, cl cs t)] (by classical exact List.perm_iff_count.2 (fun _ => by first | (simp only [List.count_append, List.count_cons, List.count_nil, List.append_assoc, List.cons_append, List.nil_append]; omega))) rfl rfl rfl rfl rfl rfl rfl (Take_p _ ψ br l.length c l p size rfl hB hlc (hs.mono (fun q hq => List.mem_cons_of_mem _ hq)) (by omega)) ?_
  rintro _ _ (⟨h1, rfl, rfl⟩ | ⟨h1, h2, rfl, rfl⟩ | ⟨h1, h2, rfl, rfl⟩)
  · refine KO.perm (σ' := (bx, cl cs t) :: ((bf, cl [a, wv, .pointer (some ⟨br, 0, none⟩), dv, ev] 80) :: ((br, cl [.slice p l.length c] 126) :: ψ))) (by classical exact List.perm_iff_count.2 (fun _ => by first | (simp only [List.count_append, List.count_cons, List.count_nil, List.append_assoc, List.cons_append, List.nil_append]; omega))) ?_
    repeat' (first | ((first | apply KO.val rfl rfl rfl ?kq ?_); (case kq => ((first | apply qt_ev rfl ?hi ); (case hi => (intro h; (repeat' (first | with_reducible exact alln | with_reducible refine allc ?_ ?_ )); all_goals (first | with_reducible rfl )))))) | fail)
    refine KO.storeW (i := 0) (vs := [_]) (cs' := cs.set ox (.int .u64 ((0 : Nat) : Int))) rfl rfl rfl rfl rfl rfl rfl rfl rfl rfl (wr_set hx) rfl ?_
    repeat' (first | refine KW.seq ?_ | refine KW.region ?_ | refine KO.nil ?_ | refine At.then_normal ?_ | refine KW.ret ?_ | ((first | apply KO.val rfl rfl rfl ?kq ?_); (case kq => ((first | apply qt_ev rfl ?hi ); (case hi => (intro h; (repeat' (first | with_reducible exact alln | with_reducible refine allc ?_ ?_ )); all_goals (first | with_reducible rfl )))))) | fail)
    ((first | apply At.done_ret ); (focus (repeat' (first | exact ResVs.nil' | apply ResVs.cons' | exact ResV.tmp' rfl ))); dsimp only [resVal])
    have e : (Md.take l).step X size = (.take l, 0, 1) := by simp only [Md.step, h1]; rfl
    rw [e]
    exact ⟨_, (by classical exact List.perm_iff_count.2 (fun _ => by first | (simp only [List.count_append, List.count_cons, List.count_nil, List.append_assoc, List.cons_append, List.nil_append]; omega))), rfl, l, p, c, rfl, hB, hlc, hpc, hs, rfl⟩
  · refine KO.perm (σ' := (bx, cl cs t) :: ((bf, cl [a, wv, .pointer (some ⟨br, 0, none⟩), dv, ev] 80) :: ((br, cl [.slice p l.length c] 126) :: ψ))) (by classical exact List.perm_iff_count.2 (fun _ => by first | (simp only [List.count_append, List.count_cons, List.count_nil, List.append_assoc, List.cons_append, List.nil_append]; omega))) ?_
    repeat' (first | ((first | apply KO.val rfl rfl rfl ?kq ?_); (case kq => ((first | apply qt_ev rfl ?hi ); (case hi => (intro h; (repeat' (first | with_reducible exact alln | with_reducible refine allc ?_ ?_ )); all_goals (first | with_reducible rfl )))))) | fail)
    refine KO.storeW (i := 0) (vs := [_]) (cs' := cs.set ox (.int .u64 ((0 : Nat) : Int))) rfl rfl rfl rfl rfl rfl rfl rfl rfl rfl (wr_set hx) rfl ?_
    repeat' (first | refine KW.seq ?_ | refine KW.region ?_ | refine KO.nil ?_ | refine At.then_normal ?_ | refine KW.ret ?_ | ((first | apply KO.val rfl rfl rfl ?kq ?_); (case kq => ((first | apply qt_ev rfl ?hi ); (case hi => (intro h; (repeat' (first | with_reducible exact alln | with_reducible refine allc ?_ ?_ )); all_goals (first | with_reducible rfl )))))) | fail)
    ((first | apply At.done_ret ); (focus (repeat' (first | exact ResVs.nil' | apply ResVs.cons' | exact ResV.tmp' rfl ))); dsimp only [resVal])
    have e : (Md.take l).step X size = (.take l, 0, 17) := by simp only [Md.step, h1, if_true]; rw [if_neg (by omega)]
    rw [e]
    exact ⟨_, (by classical exact List.perm_iff_count.2 (fun _ => by first | (simp only [List.count_append, List.count_cons, List.count_nil, List.append_assoc, List.cons_append, List.nil_append]; omega))), rfl, l, p, c, rfl, hB, hlc, hpc, hs, rfl⟩
  · refine KO.perm (σ' := (bx, cl cs t) :: ((bf, cl [a, wv, .pointer (some ⟨br, 0, none⟩), dv, ev] 80) :: ((br, cl [.slice (adv 1 p c size.toNat) (l.length - size.toNat) (c - size.toNat)] 126) :: ψ))) (by classical exact List.perm_iff_count.2 (fun _ => by first | (simp only [List.count_append, List.count_cons, List.count_nil, List.append_assoc, List.cons_append, List.nil_append]; omega))) ?_
    repeat' (first | ((first | apply KO.val rfl rfl rfl ?kq ?_); (case kq => ((first | apply qt_ev rfl ?hi ); (case hi => (intro h; (repeat' (first | with_reducible exact alln | with_reducible refine allc ?_ ?_ )); all_goals (first | with_reducible rfl )))))) | fail)
    refine KO.storeW (i := 0) (vs := [_]) (cs' := cs.set ox (.int .u64 (num (l.take size.toNat) : Nat))) rfl rfl rfl rfl rfl rfl rfl rfl rfl rfl (wr_set hx) rfl ?_
    repeat' (first | refine KW.seq ?_ | refine KW.region ?_ | refine KO.nil ?_ | refine At.then_normal ?_ | refine KW.ret ?_ | ((first | apply KO.val rfl rfl rfl ?kq ?_); (case kq => ((first | apply qt_ev rfl ?hi ); (case hi => (intro h; (repeat' (first | with_reducible exact alln | with_reducible refine allc ?_ ?_ )); all_goals (first | with_reducible rfl )))))) | fail)
    ((first | apply At.done_ret ); (focus (repeat' (first | exact ResVs.nil' | apply ResVs.cons' | exact ResV.tmp' rfl ))); dsimp only [resVal])
    have e : (Md.take l).step X size = (.take (l.drop size.toNat), num (l.take size.toNat), 0) := by simp only [Md.step, h1, if_true]; rw [if_pos h2]
    rw [e]
    have el : (l.drop size.toNat).length = l.length - size.toNat := List.length_drop
    rw [← el]
    exact ⟨_, (by classical exact List.perm_iff_count.2 (fun _ => by first | (simp only [List.count_append, List.count_cons, List.count_nil, List.append_assoc, List.cons_append, List.nil_append]; omega))), rfl, l.drop size.toNat, adv 1 p c size.toNat, c - size.toNat, rfl, fun x hx => hB x (List.mem_of_mem_drop hx), by rw [el]; omega, adv_none hpc, SL.drop8 hs (by omega) hlc, rfl⟩
/-- f.does. -/
theorem does_p (β : Nat → Option Obj) (bf bx : Nat) (cs : List Value) (t : TypeId) (ox : Nat) (md : Md) (a wv rv dv ev : Value) (φ : Heap) (hf : FormH β bf md wv rv dv φ) (hm : md.len ≤ 1000000) (X : Nat) (size : Int) (hX : X < 18446744073709551616) (hx : cs[ox]? = some (.int .u64 (X : Int))) :
    Go.K.Tr Tryd.prog md.fn [.pointer (some ⟨bf, 0, none⟩), .pointer (some ⟨bx, ox, none⟩), .int .i64 size] β ((bf, cl [a, wv, rv, dv, ev] 80) :: ((bx, cl cs t) :: φ)) (fun v' σ' =>
      v' = .int .i64 (md.step X size).2.2 ∧ ∃ wv' φ', FormH β bf (md.step X size).1 wv' rv dv φ' ∧ σ' = (bf, cl [a, wv', rv, dv, ev] 80) :: ((bx, cl (cs.set ox (.int .u64 ((md.step X size).2.1 : Nat))) t) :: φ')) := by
  have hlt : ox < cs.length := (List.getElem?_eq_some_iff.1 hx).1
  cases md with
  | put xs =>
    obtain ⟨rfl, hv, rfl⟩ := hf
    refine (put_p β bf xs.length bx cs t ox a _ _ ev wv φ xs rfl hv hm X size hX hx).mono ?_
    rintro v' s ⟨rfl, u, φ', hu, rfl⟩
    refine ⟨rfl, u, φ', ⟨rfl, ?_, rfl⟩, ?_⟩
    · show Vec 5 1 (xs ++ putB X size).length _ _ _
      rw [List.length_append]
      exact hu
    · show _ = _ :: ((bx, cl (cs.set ox (.int .u64 (X : Int))) t) :: φ')
      rw [set_same hx]
  | take l =>
    obtain ⟨rfl, rfl, br, p, c, ψ, rfl, rfl, hB, hlc, hpc, hs⟩ := hf
    refine (take_p β bf bx br c cs t ox a _ _ ev p ψ l hB hlc hpc hs hm X size hlt).mono ?_
    rintro v' s ⟨rfl, l', p', c', e, hB', hlc', hpc', hs', rfl⟩
    refine ⟨rfl, .slice none 0 0, _, ?_, rfl⟩
    rw [e]
    exact ⟨rfl, rfl, br, p', c', ψ, rfl, rfl, hB', hlc', hpc', hs'⟩

/-- A form, and all that hangs on it. -/
def FormB (β : Nat → Option Obj) (bf : Nat) (what : ByteArray) (md : Md) (x : Option (ByteArray × Int)) (σ : Heap) : Prop :=
  ∃ wv rv dv ev φ ε, FormH β bf md wv rv dv φ ∧ EV what x ev ε ∧ σ = (bf, cl [.string what, wv, rv, dv, ev] 80) :: (ε ++ φ)
/-- A word: the form, what went wrong, and the word, behind it. -/
def stepW (md : Md) (x : Option (ByteArray × Int)) (name : ByteArray) (X : Nat) (size : Int) : Md × Option (ByteArray × Int) × Nat := match x with
  | some y => (md, some y, X)
  | none => ((md.step X size).1, note none name (md.step X size).2.2, (md.step X size).2.1)
theorem word_p (β : Nat → Option Obj) (bf bx : Nat) (cs : List Value) (t : TypeId) (ox : Nat) (what name : ByteArray) (md : Md) (x : Option (ByteArray × Int)) (σ : Heap) (hf : FormB β bf what md x σ) (hm : md.len ≤ 1000000) (X : Nat) (size : Int) (hX : X < 18446744073709551616) (hx : cs[ox]? = some (.int .u64 (X : Int))) :
    Go.K.Tr Tryd.prog 55 [.pointer (some ⟨bf, 0, none⟩), .string name, .pointer (some ⟨bx, ox, none⟩), .int .i64 size] β ((bx, cl cs t) :: σ) (fun _ σ' => ∃ s, FormB β bf what (stepW md x name X size).1 (stepW md x name X size).2.1 s ∧ σ' = (bx, cl (cs.set ox (.int .u64 ((stepW md x name X size).2.2 : Nat))) t) :: s) := by
  refine Tr.perm ?_
  obtain ⟨wv, rv, dv, ev, φ, ε, hF, hE, rfl⟩ := hf
  rcases x with _ | y
  · obtain ⟨rfl, rfl⟩ := hE
    have hF' := hF
    obtain ⟨rfl, _⟩ := hF
    refine Tr.of_body Tryd.tt (args := [.pointer (some ⟨bf, 0, none⟩), .string name, .pointer (some ⟨bx, ox, none⟩), .int .i64 size]) (fr := [(0, true, .pointer (some ⟨bf, 0, none⟩)), (1, true, .string name), (2, true, .pointer (some ⟨bx, ox, none⟩)), (3, true, .int .i64 size)]) Tryd.func55 rfl (by decide) rfl Tryd.ntmps55 rfl rfl ?_
    intro E hE
    subst hE
    repeat' (first | refine KW.seq ?_ | refine KW.region ?_ | refine KO.nil ?_ | refine At.then_normal ?_ | refine KW.cond_t rfl (by first | with_reducible rfl ) ?_ | ((first | apply KO.val rfl rfl rfl ?kq ?_); (case kq => ((first | apply qt_ev rfl ?hi | ((first | apply qt_load1 rfl rfl ?hi rfl rfl ?hm ?hc ); (case hm => repeat (first | exact List.Mem.head _ | apply List.Mem.tail _ )); (case hc => rfl)) | apply qt_eqs rfl rfl rfl ?hi rfl (Or.inr ⟨rfl, rfl, rfl⟩) ); (case hi => (intro h; (repeat' (first | with_reducible exact alln | with_reducible refine allc ?_ ?_ | with_reducible refine andi ?_ ?_)); all_goals (first | with_reducible rfl )))))) | fail)
    refine KO.callF ((bf, cl [.string what, wv, rv, .func (.func md.fn) #[.pointer (some ⟨bf, 0, none⟩)] #[], .nilIface] 80) :: ((bx, cl cs t) :: φ)) [] (by classical exact List.perm_iff_count.2 (fun _ => by first | (simp only [List.count_append, List.count_cons, List.count_nil, List.append_assoc, List.cons_append, List.nil_append]; omega))) rfl rfl rfl rfl rfl rfl rfl (does_p _ bf bx cs t ox md _ _ _ _ _ φ hF' hm X size hX hx) ?_
    rintro _ _ ⟨rfl, wv', φ', hF2, rfl⟩
    repeat' (first | refine KW.seq ?_ | refine KW.region ?_ | refine KO.nil ?_ | refine At.then_normal ?_ | refine KW.skip ?_ | refine KW.ret ?_ | refine At.then_ret ?_ | refine KW.block ?_ | refine KW.exit ?_ | refine At.block_normal ?_ | refine At.block_ret ?_ | refine At.loop_ret ?_ | refine At.then_exit ?_ | refine At.block_here rfl ?_ | refine At.block_there rfl ?_ | refine At.loop_exit ?_ | refine At.cut_ret ?_ | refine At.cutA_ret ?_ | refine At.cutA_exit ?_ | refine At.cut_exit ?_ | (refine At.cut_same ?_; repeat' (first | exact FLe.nil _ | refine FLe.cons rfl rfl ?_)) | refine KW.cond_t rfl (by first | with_reducible rfl | decide) ?_ | refine KW.cond_f rfl (by first | with_reducible rfl | decide) ?_ | refine KW.scope ?_ | refine KW.label ?_ | refine At.scope_normal ?_ | refine At.scope_ret ?_ | refine At.scope_exit ?_ | ((first | apply KO.val rfl rfl rfl ?kq ?_); (case kq => ((first | apply qt_ev rfl ?hi | ((first | apply qt_load1 rfl rfl ?hi rfl rfl ?hm ?hc | apply qt_loadN rfl rfl ?hi rfl rfl rfl ?hm ?hc); (case hm => repeat (first | exact List.Mem.head _ | apply List.Mem.tail _ | apply List.mem_append_right _)); (case hc => rfl)) | apply qt_cap rfl rfl ?hi rfl | apply qt_eqs rfl rfl rfl ?hi rfl (Or.inl rfl) | apply qt_nes rfl rfl rfl ?hi rfl (Or.inl rfl) | apply qt_eqs rfl rfl rfl ?hi rfl (Or.inr ⟨rfl, rfl, rfl⟩) | apply qt_nes rfl rfl rfl ?hi rfl (Or.inr ⟨rfl, rfl, rfl⟩)); (case hi => (intro h; (repeat' (first | with_reducible exact alln | with_reducible refine allc ?_ ?_ | with_reducible refine andi ?_ ?_)); all_goals (first | with_reducible rfl | with_reducible exact h | with_reducible exact andl h | with_reducible exact andr h | with_reducible exact andl (andl h) | (simp only [h, Bool.and_self]; done) | (simp [h]; done) | (simp_all; done))))))) | (refine KW.cond rfl ?_ ?_ <;> (intro hc; try simp only [kBool] at hc)) | exact absurd trivial ‹¬True› | fail)
    refine KO.callF ((bf, cl [.string what, wv', rv, .func (.func md.fn) #[.pointer (some ⟨bf, 0, none⟩)] #[], .nilIface] 80) :: ([] ++ [])) ((bx, cl (cs.set ox (.int .u64 ((md.step X size).2.1 : Nat))) t) :: φ') (by classical exact List.perm_iff_count.2 (fun _ => by first | (simp only [List.count_append, List.count_cons, List.count_nil, List.append_assoc, List.cons_append, List.nil_append]; omega))) rfl rfl rfl rfl rfl rfl rfl (wrong_p _ bf name what _ _ _ _ _ none [] [] ⟨rfl, rfl⟩) ?_
    rintro _ _ ⟨ev', ε', hE', rfl⟩
    repeat' (first | refine KO.nil ?_ | fail)
    refine At.end0 ⟨(bx, cl (cs.set ox (.int .u64 ((md.step X size).2.1 : Nat))) t) :: ((bf, cl [.string what, wv', rv, .func (.func md.fn) #[.pointer (some ⟨bf, 0, none⟩)] #[], ev'] 80) :: (ε' ++ φ')), (by classical exact List.perm_iff_count.2 (fun _ => by first | (simp only [List.count_append, List.count_cons, List.count_nil, List.append_assoc, List.cons_append, List.nil_append]; omega))), _, ⟨wv', rv, _, ev', φ', ε', hF2, hE', rfl⟩, rfl⟩
  · have hE' := hE
    obtain ⟨b, c, rfl, rfl⟩ := hE
    refine Tr.of_body Tryd.tt (args := [.pointer (some ⟨bf, 0, none⟩), .string name, .pointer (some ⟨bx, ox, none⟩), .int .i64 size]) (fr := [(0, true, .pointer (some ⟨bf, 0, none⟩)), (1, true, .string name), (2, true, .pointer (some ⟨bx, ox, none⟩)), (3, true, .int .i64 size)]) Tryd.func55 rfl (by decide) rfl Tryd.ntmps55 rfl rfl ?_
    intro E hE
    subst hE
    repeat' (first | refine KW.seq ?_ | refine KW.region ?_ | refine KO.nil ?_ | refine At.then_normal ?_ | refine KW.skip ?_ | refine KW.cond_f rfl (by first | with_reducible rfl ) ?_ | ((first | apply KO.val rfl rfl rfl ?kq ?_); (case kq => ((first | apply qt_ev rfl ?hi | ((first | apply qt_load1 rfl rfl ?hi rfl rfl ?hm ?hc ); (case hm => repeat (first | exact List.Mem.head _ | apply List.Mem.tail _ )); (case hc => rfl)) | apply qt_eqs rfl rfl rfl ?hi rfl (Or.inl rfl) ); (case hi => (intro h; (repeat' (first | with_reducible exact alln | with_reducible refine allc ?_ ?_ | with_reducible refine andi ?_ ?_)); all_goals (first | with_reducible rfl )))))) | fail)
    refine At.end0 ⟨_, List.Perm.refl _, _, ⟨wv, rv, dv, _, φ, _, hF, hE', rfl⟩, ?_⟩
    show _ = (bx, cl (cs.set ox (.int .u64 (X : Int))) t) :: _
    rw [set_same hx]
/-- An int as a word. -/
def u64 (N : Int) : Nat := (N % 18446744073709551616).toNat
theorem u64_lt (N : Int) : u64 N < 18446744073709551616 := by unfold u64; omega
theorem u64_wrap (N : Int) : IntKind.u64.wrap N = (u64 N : Int) := by
  rw [IntKind.wrap_u64, u64]; omega
def stepN (md : Md) (x : Option (ByteArray × Int)) (name : ByteArray) (N : Int) (size : Int) : Md × Option (ByteArray × Int) × Int :=
  ((stepW md x name (u64 N) size).1, (stepW md x name (u64 N) size).2.1, IntKind.i64.wrap ((stepW md x name (u64 N) size).2.2 : Int))
theorem number_p (β : Nat → Option Obj) (bf bn : Nat) (cs : List Value) (t : TypeId) (on : Nat) (what name : ByteArray) (md : Md) (x : Option (ByteArray × Int)) (σ : Heap) (hf : FormB β bf what md x σ) (hm : md.len ≤ 1000000) (N : Int) (size : Int) (hx : cs[on]? = some (.int .i64 N)) :
    Go.K.Tr Tryd.prog 52 [.pointer (some ⟨bf, 0, none⟩), .string name, .pointer (some ⟨bn, on, none⟩), .int .i64 size] β ((bn, cl cs t) :: σ) (fun _ σ' => ∃ s, FormB β bf what (stepN md x name N size).1 (stepN md x name N size).2.1 s ∧ σ' = (bn, cl (cs.set on (.int .i64 (stepN md x name N size).2.2)) t) :: s) := by
  have hlt : on < cs.length := (List.getElem?_eq_some_iff.1 hx).1
  refine Tr.sub ?_
  refine Tr.of_body Tryd.tt (args := [.pointer (some ⟨bf, 0, none⟩), .string name, .pointer (some ⟨bn, on, none⟩), .int .i64 size]) (fr := [(0, true, .pointer (some ⟨bf, 0, none⟩)), (1, true, .string name), (2, true, .pointer (some ⟨bn, on, none⟩)), (3, true, .int .i64 size)]) Tryd.func52 rfl (by decide) rfl Tryd.ntmps52 rfl rfl ?_
  intro E hE
  subst hE
  have k1 : Cel E.β ((bn, cl cs t) :: σ) bn on (.int .i64 N) := .inl ⟨cs, t, List.Mem.head _, hx⟩
  repeat' (first | refine KW.seq ?_ | refine KW.region ?_ | refine KO.nil ?_ | ((first | apply KO.val rfl rfl rfl ?kq ?_); (case kq => ((first | apply qt_ev rfl ?hi ); (case hi => (intro h; (repeat' (first | with_reducible exact alln | with_reducible refine allc ?_ ?_ )); all_goals (first | with_reducible rfl )))))) | (refine KO.alloc rfl rfl rfl rfl rfl rfl ?_; intro _ _) | (apply KO.store (i := _) rfl rfl rfl rfl rfl rfl rfl rfl ?hl ?sg ?hw ?ho ?hs; (case sg => first | exact (rfl : getI 0 _ = _) ); (case hl => rfl); (case hw => rfl); (case ho => rfl); (case hs => rfl)) | ((first | apply KO.val (g := true) rfl rfl rfl); (first | (apply qt_load1_cel rfl rfl ?hi rfl rfl ?hc; (case hc => first | exact fun _ => (k1)))); (case hi => (first | exact fun _ => rfl ))) | fail)
  rename_i b8 _
  rw [u64_wrap]
  refine KO.callF ((b8, cl [.int .u64 (u64 N : Nat)] 22) :: σ) [(bn, cl cs t)] (by classical exact List.perm_iff_count.2 (fun _ => by first | (simp only [List.count_append, List.count_cons, List.count_nil, List.append_assoc, List.cons_append, List.nil_append]; omega))) rfl rfl rfl rfl rfl rfl rfl (word_p _ bf b8 [.int .u64 (u64 N : Nat)] 22 0 what name md x σ hf hm (u64 N) size (u64_lt N) rfl) ?_
  rintro _ _ ⟨s, hs, rfl⟩
  refine KO.perm (σ' := (bn, cl cs t) :: ((b8, cl [.int .u64 ((stepW md x name (u64 N) size).2.2 : Nat)] 22) :: s)) ?_ ?_
  · show List.Perm ((b8, cl [.int .u64 ((stepW md x name (u64 N) size).2.2 : Nat)] 22) :: s ++ [(bn, cl cs t)]) _
    exact (by classical exact List.perm_iff_count.2 (fun _ => by first | (simp only [List.count_append, List.count_cons, List.count_nil, List.append_assoc, List.cons_append, List.nil_append]; omega)))
  repeat' (first | refine KW.region ?_ | refine KO.nil ?_ | ((first | apply KO.val rfl rfl rfl ?kq ?_); (case kq => ((first | apply qt_ev rfl ?hi | ((first | apply qt_load1 rfl rfl ?hi rfl rfl ?hm ?hc ); (case hm => repeat (first | exact List.Mem.head _ | apply List.Mem.tail _ )); (case hc => rfl)) ); (case hi => (intro h; (repeat' (first | with_reducible exact alln | with_reducible refine allc ?_ ?_ )); all_goals (first | with_reducible rfl )))))) | fail)
  refine KO.storeW (i := 0) (vs := [_]) (cs' := cs.set on (.int .i64 (stepN md x name N size).2.2)) rfl rfl rfl rfl rfl rfl rfl rfl rfl rfl (wr_set hlt) rfl ?_
  repeat' (first | refine KO.nil ?_ | fail)
  refine At.end0 ⟨_, List.Sublist.cons_cons _ (List.Sublist.cons _ (List.Sublist.refl _)), s, hs, rfl⟩
theorem Md.step_len (md : Md) (X : Nat) (size : Int) (hs : size ≤ 8) : (md.step X size).1.len ≤ md.len + 8 := by
  cases md with
  | put xs =>
    show (xs ++ putB X size).length ≤ xs.length + 8
    rw [List.length_append]
    have : (putB X size).length ≤ 8 := by
      unfold putB
      split
      · rw [bes_len]; omega
      · simp
    omega
  | take l =>
    simp only [Md.step]
    split
    · split
      · show (l.drop _).length ≤ l.length + 8
        rw [List.length_drop]; omega
      · show l.length ≤ l.length + 8; omega
    · show l.length ≤ l.length + 8; omega
theorem stepN_len (md : Md) (x : Option (ByteArray × Int)) (name : ByteArray) (N : Int) (size : Int) (hs : size ≤ 8) : (stepN md x name N size).1.len ≤ md.len + 8 := by
  rcases x with _ | y
  · exact Md.step_len md _ size hs
  · show md.len ≤ md.len + 8; omega
def stepC (md : Md) (x : Option (ByteArray × Int)) (name : ByteArray) (X Y : Int) : Md × Option (ByteArray × Int) × Int × Int :=
  let r := stepN md x name X 2
  let q := stepN r.1 r.2.1 name Y 2
  (q.1, q.2.1, r.2.2, q.2.2)
theorem cell_p (β : Nat → Option Obj) (bf bn : Nat) (cs : List Value) (t : TypeId) (on : Nat) (what name : ByteArray) (md : Md) (x : Option (ByteArray × Int)) (σ : Heap) (hf : FormB β bf what md x σ) (hm : md.len ≤ 999990) (X Y : Int) (hx : cs[on]? = some (.int .i64 X)) (hy : cs[on + 1]? = some (.int .i64 Y)) :
    Go.K.Tr Tryd.prog 56 [.pointer (some ⟨bf, 0, none⟩), .string name, .pointer (some ⟨bn, on, none⟩)] β ((bn, cl cs t) :: σ) (fun _ σ' => ∃ s, FormB β bf what (stepC md x name X Y).1 (stepC md x name X Y).2.1 s ∧ σ' = (bn, cl ((cs.set on (.int .i64 (stepC md x name X Y).2.2.1)).set (on + 1) (.int .i64 (stepC md x name X Y).2.2.2)) t) :: s) := by
  refine Tr.perm ?_
  refine Tr.of_body Tryd.tt (args := [.pointer (some ⟨bf, 0, none⟩), .string name, .pointer (some ⟨bn, on, none⟩)]) (fr := [(0, true, .pointer (some ⟨bf, 0, none⟩)), (1, true, .string name), (2, true, .pointer (some ⟨bn, on, none⟩))]) Tryd.func56 rfl (by decide) rfl Tryd.ntmps56 rfl rfl ?_
  intro E hE
  subst hE
  have h2 := stepN_len md x name X 2 (by omega)
  repeat' (first | refine KW.seq ?_ | refine KW.region ?_ | ((first | apply KO.val rfl rfl rfl ?kq ?_); (case kq => ((first | apply qt_ev rfl ?hi ); (case hi => (intro h; (repeat' (first | with_reducible exact alln | with_reducible refine allc ?_ ?_ )); all_goals (first | with_reducible rfl )))))) | fail)
  refine KO.callF ((bn, cl cs t) :: σ) [] (by classical exact List.perm_iff_count.2 (fun _ => by first | (simp only [List.count_append, List.count_cons, List.count_nil, List.append_assoc, List.cons_append, List.nil_append]; omega))) rfl rfl rfl rfl rfl rfl rfl (number_p _ bf bn cs t on what name md x σ hf (by omega) X 2 hx) ?_
  rintro _ _ ⟨s, hs, rfl⟩
  repeat' (first | refine KW.region ?_ | refine KO.nil ?_ | ((first | apply KO.val rfl rfl rfl ?kq ?_); (case kq => ((first | apply qt_ev rfl ?hi ); (case hi => (intro h; (repeat' (first | with_reducible exact alln | with_reducible refine allc ?_ ?_ )); all_goals (first | with_reducible rfl )))))) | fail)
  refine KO.callF ((bn, cl (cs.set on (.int .i64 (stepN md x name X 2).2.2)) t) :: s) [] (by classical exact List.perm_iff_count.2 (fun _ => by first | (simp only [List.count_append, List.count_cons, List.count_nil, List.append_assoc, List.cons_append, List.nil_append]; done) )) rfl rfl rfl rfl rfl rfl rfl (number_p _ bf bn _ t (on + 1) what name _ _ s hs (by omega) Y 2 (by rw [List.getElem?_set_ne (by omega)]; exact hy)) ?_
  rintro _ _ ⟨s, hs, rfl⟩
  repeat' (first | refine KO.nil ?_ | fail)
  refine At.end0 ⟨_ :: s, by rw [List.append_nil]; exact List.Perm.refl _, s, hs, rfl⟩
end Go.Proofs.YtnaclkdjchnbpaaDoor
end
section
namespace Go.Proofs.YtnaclkdjchnbpaaDoor
open Go Go.K

def opSize (o : Int) : Int := if o = 4 ∨ o = 5 then 16 else if o = 1 ∨ o = 3 ∨ o = 6 then 8 else if o = 2 then 10 else 0
theorem size_p (β : Nat → Option Obj) (σ : Heap) (o : Int) : Go.K.Tr Tryd.prog 54 [.int .i64 o] β σ (fun z s => z = .int .i64 (opSize o) ∧ s = σ) := by
  refine Tr.of_body Tryd.tt (args := [.int .i64 o]) (fr := [(0, true, .int .i64 o)]) Tryd.func54 rfl (by decide) rfl Tryd.ntmps54 rfl rfl ?_
  intro E hE
  subst hE
  repeat' (first | refine KW.seq ?_ | refine KW.region ?_ | refine KO.nil ?_ | refine At.then_normal ?_ | refine KW.skip ?_ | refine KW.ret ?_ | refine KW.block ?_ | refine KW.exit ?_ | ((first | apply KO.val rfl rfl rfl ?kq ?_); (case kq => ((first | ((first | apply qt_add rfl rfl rfl ?hi ?om); (case om => (intro hg; first | omega ))) | apply qt_ev rfl ?hi ); (case hi => (intro h; (repeat' (first | with_reducible exact alln | with_reducible refine allc ?_ ?_ | with_reducible refine andi ?_ ?_)); all_goals (first | with_reducible rfl )))))) | (refine KW.cond rfl ?_ ?_ <;> (intro hc; try simp only [kBool] at hc)) | fail)
  all_goals
    ((first | apply At.done_ret ); (focus (repeat' (first | exact ResVs.nil' | apply ResVs.cons' | exact ResV.tmp' rfl ))); dsimp only [resVal])
    refine ⟨?_, rfl⟩
    congr 1
    unfold opSize
    (repeat' split) <;> omega
theorem FormB.none_ {β : Nat → Option Obj} {bf : Nat} {what : ByteArray} {md : Md} {σ : Heap} (h : FormB β bf what md none σ) : ∃ wv rv dv φ, FormH β bf md wv rv dv φ ∧ σ = (bf, cl [.string what, wv, rv, dv, .nilIface] 80) :: φ := by
  obtain ⟨wv, rv, dv, ev, φ, ε, h1, ⟨rfl, rfl⟩, rfl⟩ := h
  exact ⟨wv, rv, dv, φ, h1, rfl⟩
theorem FormB.some_ {β : Nat → Option Obj} {bf : Nat} {what : ByteArray} {md : Md} {y : ByteArray × Int} {σ : Heap} (h : FormB β bf what md (some y) σ) : ∃ wv rv dv b φ, σ = (bf, cl [.string what, wv, rv, dv, .iface 100 (.pointer (some ⟨b, 0, none⟩))] 80) :: φ := by
  obtain ⟨wv, rv, dv, ev, φ, ε, h1, ⟨b, c, rfl, rfl⟩, rfl⟩ := h
  exact ⟨wv, rv, dv, b, _, rfl⟩
/-- A request. -/
structure Rq where
  op : Int
  tok : Nat
  unit : Int
  dir : Int
  fx : Int
  fy : Int
  tx : Int
  ty : Int
def Rq.cells (r : Rq) : List Value := [.int .i64 r.op, .int .u64 (r.tok : Int), .int .i64 r.unit, .int .i64 r.dir, .int .i64 r.fx, .int .i64 r.fy, .int .i64 r.tx, .int .i64 r.ty]
abbrev Flt := Option (ByteArray × Int)
def sOp : ByteArray := ⟨#[111, 112]⟩
def sToken : ByteArray := ⟨#[116, 111, 107, 101, 110]⟩
def sUnit : ByteArray := ⟨#[117, 110, 105, 116]⟩
def sDir : ByteArray := ⟨#[100, 105, 114]⟩
def sFrom : ByteArray := ⟨#[102, 114, 111, 109]⟩
def sTo : ByteArray := ⟨#[116, 111]⟩
/-- Behind the op. -/
def stepR2 (md : Md) (r : Rq) : Md × Flt × Rq :=
  let b := stepW md none sToken r.tok 8
  if r.op = 2 then
    let c := stepN b.1 b.2.1 sUnit r.unit 1
    let d := stepN c.1 c.2.1 sDir r.dir 1
    (d.1, d.2.1, { r with tok := b.2.2, unit := c.2.2, dir := d.2.2 })
  else if r.op = 4 ∨ r.op = 5 then
    let c := stepC b.1 b.2.1 sFrom r.fx r.fy
    let d := stepC c.1 c.2.1 sTo r.tx r.ty
    (d.1, d.2.1, { r with tok := b.2.2, fx := c.2.2.1, fy := c.2.2.2, tx := d.2.2.1, ty := d.2.2.2 })
  else (b.1, b.2.1, { r with tok := b.2.2 })
def stepR (md : Md) (r : Rq) : Md × Flt × Rq :=
  let a := stepN md none sOp r.op 1
  match a.2.1 with
  | some y => (a.1, some y, { r with op := a.2.2 })
  | none => if a.2.2 < 0 ∨ 7 ≤ a.2.2 then (a.1, some (sOp, 18), { r with op := a.2.2 })
    else if opSize a.2.2 = 0 then (a.1, none, { r with op := a.2.2 }) else stepR2 a.1 { r with op := a.2.2 }
theorem stepW_len (md : Md) (x : Flt) (name : ByteArray) (X : Nat) (size : Int) (hs : size ≤ 8) : (stepW md x name X size).1.len ≤ md.len + 8 := by
  rcases x with _ | y
  · exact Md.step_len md _ size hs
  · show md.len ≤ md.len + 8; omega
theorem stepC_len (md : Md) (x : Flt) (name : ByteArray) (X Y : Int) : (stepC md x name X Y).1.len ≤ md.len + 16 := by
  have h1 := stepN_len md x name X 2 (by omega)
  have h2 := stepN_len (stepN md x name X 2).1 (stepN md x name X 2).2.1 name Y 2 (by omega)
  show (stepN (stepN md x name X 2).1 (stepN md x name X 2).2.1 name Y 2).1.len ≤ _
  omega
set_option maxHeartbeats 2000000 in
theorem fields_p (β : Nat → Option Obj) (bf bn : Nat) (what : ByteArray) (md : Md) (r : Rq) (σ : Heap) (hf : FormB β bf what md none σ) (hm : md.len ≤ 900000) (hT : r.tok < 18446744073709551616) :
    Go.K.Tr Tryd.prog 29 [.pointer (some ⟨bf, 0, none⟩), .pointer (some ⟨bn, 0, none⟩)] β ((bn, cl r.cells 26) :: σ) (fun _ σ' => ∃ s, FormB β bf what (stepR md r).1 (stepR md r).2.1 s ∧ σ' = (bn, cl (stepR md r).2.2.cells 26) :: s) := by
  refine Tr.perm ?_
  refine Tr.of_body Tryd.tt (args := [.pointer (some ⟨bf, 0, none⟩), .pointer (some ⟨bn, 0, none⟩)]) (fr := [(0, true, .pointer (some ⟨bf, 0, none⟩)), (1, true, .pointer (some ⟨bn, 0, none⟩))]) Tryd.func29 rfl (by decide) rfl Tryd.ntmps29 rfl rfl ?_
  intro E hE
  subst hE
  have l1 := stepN_len md none sOp r.op 1 (by omega)
  repeat' (first | refine KW.seq ?_ | refine KW.region ?_ | ((first | apply KO.val rfl rfl rfl ?kq ?_ ); (case kq => ((first | apply qt_ev rfl ?hi ); (case hi => (intro h; (repeat' (first | with_reducible exact alln | with_reducible refine allc ?_ ?_ )); all_goals (first | with_reducible rfl )))))) | fail)
  refine KO.callF ((bn, cl r.cells 26) :: σ) [] (by classical exact List.perm_iff_count.2 (fun _ => by first | (simp only [List.count_append, List.count_cons, List.count_nil, List.append_assoc, List.cons_append, List.nil_append]; omega))) rfl rfl rfl rfl rfl rfl rfl (number_p _ bf bn r.cells 26 0 what sOp md none σ hf (by omega) r.op 1 rfl) ?_
  rintro _ _ ⟨s, hs, rfl⟩
  refine KO.perm (σ' := (bn, cl { r with op := (stepN md none sOp r.op 1).2.2 }.cells 26) :: s) (by rw [List.append_nil]; exact List.Perm.refl _) ?_
  rcases hN : stepN md none sOp r.op 1 with ⟨m1, x1, o1⟩
  rw [hN] at hs l1
  dsimp only at hs l1 ⊢
  rcases x1 with _ | y
  · obtain ⟨wv, rv, dv, φ, hF, rfl⟩ := hs.none_
    dsimp only [Rq.cells]
    repeat' (first | refine KW.seq ?_ | refine KW.region ?_ | refine KO.nil ?_ | refine At.then_normal ?_ | refine KW.skip ?_ | refine KW.ret ?_ | refine At.then_ret ?_ | ((first | apply KO.val rfl rfl rfl ?kq ?_ ); (case kq => ((first | apply qt_ev rfl ?hi | ((first | apply qt_load1 rfl rfl ?hi rfl rfl ?hm ?hc ); (case hm => repeat (first | exact List.Mem.head _ | apply List.Mem.tail _ )); (case hc => rfl)) | refine qt_callQ rfl rfl ?hi (fun hg => size_p _ _ o1) | apply qt_pick_t rfl rfl (by first | with_reducible rfl ) rfl ?hi | apply qt_pick_f rfl rfl (by first | decide) rfl ?hi | ((first | apply qt_pick_or rfl rfl rfl ?hi ?pj); (case pj => (intro h h2; first | (rw [h2]; rfl) ))) | apply qt_eqs rfl rfl rfl ?hi rfl (Or.inr ⟨rfl, rfl, rfl⟩) | apply qt_nes rfl rfl rfl ?hi rfl (Or.inr ⟨rfl, rfl, rfl⟩)); (case hi => (intro h; (repeat' (first | with_reducible exact alln | with_reducible refine allc ?_ ?_ | with_reducible refine andi ?_ ?_)); all_goals (first | with_reducible rfl | with_reducible exact h | (simp [h]; done) )))))) | (refine KW.cond rfl ?_ ?_ <;> (intro hc; try simp only [kBool] at hc)) | fail)
    · have e : stepR md r = (m1, some (sOp, 18), { r with op := o1 }) := by simp only [stepR, hN]; rw [if_pos hc]
      rw [e]
      refine KO.callF ((bf, cl [.string what, wv, rv, dv, .nilIface] 80) :: ([] ++ [])) ((bn, cl [.int .i64 o1, .int .u64 (r.tok : Int), .int .i64 r.unit, .int .i64 r.dir, .int .i64 r.fx, .int .i64 r.fy, .int .i64 r.tx, .int .i64 r.ty] 26) :: φ) (by classical exact List.perm_iff_count.2 (fun _ => by first | (simp only [List.count_append, List.count_cons, List.count_nil, List.append_assoc, List.cons_append, List.nil_append]; omega))) rfl rfl rfl rfl rfl rfl rfl (wrong_p _ bf sOp what 18 wv rv dv .nilIface none [] [] ⟨rfl, rfl⟩) ?_
      rintro _ _ ⟨ev', ε', hE', rfl⟩
      rw [show note none sOp 18 = some (sOp, 18) by simp [note]] at hE'
      have hE2 := hE'
      obtain ⟨b, c, rfl, rfl⟩ := hE'
      refine KO.perm (σ' := (bn, cl [.int .i64 o1, .int .u64 (r.tok : Int), .int .i64 r.unit, .int .i64 r.dir, .int .i64 r.fx, .int .i64 r.fy, .int .i64 r.tx, .int .i64 r.ty] 26) :: ((bf, cl [.string what, wv, rv, dv, .iface 100 (.pointer (some ⟨b, 0, none⟩))] 80) :: ([(b, cl [.string what, .iface 100 (.pointer (some ⟨c, 0, none⟩))] 108), (c, cl [.string sOp, .iface 32 (.int .i64 18)] 108)] ++ φ))) (by classical exact List.perm_iff_count.2 (fun _ => by first | (simp only [List.count_append, List.count_cons, List.count_nil, List.append_assoc, List.cons_append, List.nil_append]; omega))) ?_
      repeat' (first | refine KW.seq ?_ | refine KW.region ?_ | refine KO.nil ?_ | refine At.then_normal ?_ | refine KW.ret ?_ | refine At.then_ret ?_ | refine KW.cond_t rfl (by first | with_reducible rfl ) ?_ | refine KO.skip' rfl (by first | decide) rfl rfl ?_ | ((first | apply KO.val rfl rfl rfl ?kq ?_ ); (case kq => ((first | apply qt_ev rfl ?hi | ((first | apply qt_load1 rfl rfl ?hi rfl rfl ?hm ?hc ); (case hm => repeat (first | exact List.Mem.head _ | apply List.Mem.tail _ )); (case hc => rfl)) | apply qt_pick_t rfl rfl (by first | decide) rfl ?hi | apply qt_nes rfl rfl rfl ?hi rfl (Or.inl rfl) ); (case hi => (intro h; (repeat' (first | with_reducible exact alln | with_reducible refine allc ?_ ?_ | with_reducible refine andi ?_ ?_)); all_goals (first | with_reducible rfl )))))) | fail)
      exact At.done_ret [] trivial ⟨_, List.Perm.refl _, _, ⟨wv, rv, dv, _, φ, _, hF, hE2, rfl⟩, rfl⟩
    · have e : stepR md r = (m1, none, { r with op := o1 }) := by simp only [stepR, hN]; rw [if_neg (by omega), if_pos hc]
      rw [e]
      exact At.done_ret [] trivial ⟨_, List.Perm.refl _, _, hs, rfl⟩
    · have e : stepR md r = stepR2 m1 { r with op := o1 } := by simp only [stepR, hN]; rw [if_neg (by omega), if_neg hc]
      rw [e]
      refine KO.callF ((bn, cl [.int .i64 o1, .int .u64 (r.tok : Int), .int .i64 r.unit, .int .i64 r.dir, .int .i64 r.fx, .int .i64 r.fy, .int .i64 r.tx, .int .i64 r.ty] 26) :: ((bf, cl [.string what, wv, rv, dv, .nilIface] 80) :: φ)) [] (by classical exact List.perm_iff_count.2 (fun _ => by first | (simp only [List.count_append, List.count_cons, List.count_nil, List.append_assoc, List.cons_append, List.nil_append]; omega))) rfl rfl rfl rfl rfl rfl rfl (word_p _ bf bn [.int .i64 o1, .int .u64 (r.tok : Int), .int .i64 r.unit, .int .i64 r.dir, .int .i64 r.fx, .int .i64 r.fy, .int .i64 r.tx, .int .i64 r.ty] 26 1 what sToken m1 none _ hs (by omega) r.tok 8 hT rfl) ?_
      rintro _ _ ⟨s, hs2, rfl⟩
      have l2 := stepW_len m1 none sToken r.tok 8 (by omega)
      rcases hW : stepW m1 none sToken r.tok 8 with ⟨m2, x2, t2⟩
      rw [hW] at hs2 l2
      dsimp only at hs2 l2
      refine KO.perm (σ' := (bn, cl [.int .i64 o1, .int .u64 (t2 : Int), .int .i64 r.unit, .int .i64 r.dir, .int .i64 r.fx, .int .i64 r.fy, .int .i64 r.tx, .int .i64 r.ty] 26) :: s) (by rw [List.append_nil]; exact List.Perm.refl _) ?_
      repeat' (first | refine KW.seq ?_ | refine KW.region ?_ | refine KO.nil ?_ | refine At.then_normal ?_ | refine KW.skip ?_ | refine KW.block ?_ | refine At.block_normal ?_ | ((first | apply KO.val rfl rfl rfl ?kq ?_ ); (case kq => ((first | apply qt_ev rfl ?hi | ((first | apply qt_load1 rfl rfl ?hi rfl rfl ?hm ?hc ); (case hm => repeat (first | exact List.Mem.head _ )); (case hc => rfl)) ); (case hi => (intro h; (repeat' (first | with_reducible exact alln | with_reducible refine allc ?_ ?_ )); all_goals (first | with_reducible rfl )))))) | (refine KW.cond rfl ?_ ?_ <;> (intro hc; try simp only [kBool] at hc)) | fail)
      · have htr := trivial
        refine KO.callF ((bn, cl [.int .i64 o1, .int .u64 (t2 : Int), .int .i64 r.unit, .int .i64 r.dir, .int .i64 r.fx, .int .i64 r.fy, .int .i64 r.tx, .int .i64 r.ty] 26) :: s) [] (by classical exact List.perm_iff_count.2 (fun _ => by first | (simp only [List.count_append, List.count_cons, List.count_nil, List.append_assoc, List.cons_append, List.nil_append]; omega))) rfl rfl rfl rfl rfl rfl rfl (number_p _ bf bn [.int .i64 o1, .int .u64 (t2 : Int), .int .i64 r.unit, .int .i64 r.dir, .int .i64 r.fx, .int .i64 r.fy, .int .i64 r.tx, .int .i64 r.ty] 26 2 what sUnit m2 x2 s hs2 (by omega) r.unit 1 rfl) ?_
        rintro _ _ ⟨s, hs3, rfl⟩
        have l3 := stepN_len m2 x2 sUnit r.unit 1 (by omega)
        rcases hU : stepN m2 x2 sUnit r.unit 1 with ⟨m3, x3, u3⟩
        rw [hU] at hs3 l3
        dsimp only at hs3 l3
        refine KO.perm (σ' := (bn, cl [.int .i64 o1, .int .u64 (t2 : Int), .int .i64 u3, .int .i64 r.dir, .int .i64 r.fx, .int .i64 r.fy, .int .i64 r.tx, .int .i64 r.ty] 26) :: s) (by rw [List.append_nil]; exact List.Perm.refl _) ?_
        repeat' (first | refine KW.region ?_ | refine KO.nil ?_ | ((first | apply KO.val rfl rfl rfl ?kq ?_ ); (case kq => ((first | apply qt_ev rfl ?hi ); (case hi => (intro h; (repeat' (first | with_reducible exact alln | with_reducible refine allc ?_ ?_ )); all_goals (first | with_reducible rfl )))))) | fail)
        refine KO.callF ((bn, cl [.int .i64 o1, .int .u64 (t2 : Int), .int .i64 u3, .int .i64 r.dir, .int .i64 r.fx, .int .i64 r.fy, .int .i64 r.tx, .int .i64 r.ty] 26) :: s) [] (by classical exact List.perm_iff_count.2 (fun _ => by first | (simp only [List.count_append, List.count_cons, List.count_nil, List.append_assoc, List.cons_append, List.nil_append]; omega))) rfl rfl rfl rfl rfl rfl rfl (number_p _ bf bn [.int .i64 o1, .int .u64 (t2 : Int), .int .i64 u3, .int .i64 r.dir, .int .i64 r.fx, .int .i64 r.fy, .int .i64 r.tx, .int .i64 r.ty] 26 3 what sDir m3 x3 s hs3 (by omega) r.dir 1 rfl) ?_
        rintro _ _ ⟨s, hs4, rfl⟩
        rcases hD : stepN m3 x3 sDir r.dir 1 with ⟨m4, x4, d4⟩
        rw [hD] at hs4
        dsimp only at hs4
        refine KO.perm (σ' := (bn, cl [.int .i64 o1, .int .u64 (t2 : Int), .int .i64 u3, .int .i64 d4, .int .i64 r.fx, .int .i64 r.fy, .int .i64 r.tx, .int .i64 r.ty] 26) :: s) (by rw [List.append_nil]; exact List.Perm.refl _) ?_
        have e2 : stepR2 m1 { r with op := o1 } = (m4, x4, ⟨o1, t2, u3, d4, r.fx, r.fy, r.tx, r.ty⟩) := by simp only [stepR2, hW]; rw [if_pos hc]; simp only [hU, hD]
        rw [e2]
        repeat' (first | refine KO.nil ?_ | refine At.block_normal ?_ | fail)
        exact At.end0 ⟨_, List.Perm.refl _, s, hs4, rfl⟩
      · have htr := trivial
        refine KO.callF ((bn, cl [.int .i64 o1, .int .u64 (t2 : Int), .int .i64 r.unit, .int .i64 r.dir, .int .i64 r.fx, .int .i64 r.fy, .int .i64 r.tx, .int .i64 r.ty] 26) :: s) [] (by classical exact List.perm_iff_count.2 (fun _ => by first | (simp only [List.count_append, List.count_cons, List.count_nil, List.append_assoc, List.cons_append, List.nil_append]; omega))) rfl rfl rfl rfl rfl rfl rfl (cell_p _ bf bn [.int .i64 o1, .int .u64 (t2 : Int), .int .i64 r.unit, .int .i64 r.dir, .int .i64 r.fx, .int .i64 r.fy, .int .i64 r.tx, .int .i64 r.ty] 26 4 what sFrom m2 x2 s hs2 (by omega) r.fx r.fy rfl rfl) ?_
        rintro _ _ ⟨s, hs3, rfl⟩
        have l3 := stepC_len m2 x2 sFrom r.fx r.fy
        rcases hU : stepC m2 x2 sFrom r.fx r.fy with ⟨m3, x3, a3, b3⟩
        rw [hU] at hs3 l3
        dsimp only at hs3 l3
        refine KO.perm (σ' := (bn, cl [.int .i64 o1, .int .u64 (t2 : Int), .int .i64 r.unit, .int .i64 r.dir, .int .i64 a3, .int .i64 b3, .int .i64 r.tx, .int .i64 r.ty] 26) :: s) (by rw [List.append_nil]; exact List.Perm.refl _) ?_
        repeat' (first | refine KW.region ?_ | refine KO.nil ?_ | ((first | apply KO.val rfl rfl rfl ?kq ?_ ); (case kq => ((first | apply qt_ev rfl ?hi ); (case hi => (intro h; (repeat' (first | with_reducible exact alln | with_reducible refine allc ?_ ?_ )); all_goals (first | with_reducible rfl )))))) | fail)
        refine KO.callF ((bn, cl [.int .i64 o1, .int .u64 (t2 : Int), .int .i64 r.unit, .int .i64 r.dir, .int .i64 a3, .int .i64 b3, .int .i64 r.tx, .int .i64 r.ty] 26) :: s) [] (by classical exact List.perm_iff_count.2 (fun _ => by first | (simp only [List.count_append, List.count_cons, List.count_nil, List.append_assoc, List.cons_append, List.nil_append]; omega))) rfl rfl rfl rfl rfl rfl rfl (cell_p _ bf bn [.int .i64 o1, .int .u64 (t2 : Int), .int .i64 r.unit, .int .i64 r.dir, .int .i64 a3, .int .i64 b3, .int .i64 r.tx, .int .i64 r.ty] 26 6 what sTo m3 x3 s hs3 (by omega) r.tx r.ty rfl rfl) ?_
        rintro _ _ ⟨s, hs4, rfl⟩
        rcases hD : stepC m3 x3 sTo r.tx r.ty with ⟨m4, x4, a4, b4⟩
        rw [hD] at hs4
        dsimp only at hs4
        refine KO.perm (σ' := (bn, cl [.int .i64 o1, .int .u64 (t2 : Int), .int .i64 r.unit, .int .i64 r.dir, .int .i64 a3, .int .i64 b3, .int .i64 a4, .int .i64 b4] 26) :: s) (by rw [List.append_nil]; exact List.Perm.refl _) ?_
        have e2 : stepR2 m1 { r with op := o1 } = (m4, x4, ⟨o1, t2, r.unit, r.dir, a3, b3, a4, b4⟩) := by simp only [stepR2, hW]; rw [if_neg (by omega), if_pos (by omega)]; simp only [hU, hD]
        rw [e2]
        repeat' (first | refine KO.nil ?_ | refine At.block_normal ?_ | fail)
        exact At.end0 ⟨_, List.Perm.refl _, s, hs4, rfl⟩
      · exfalso; omega
      · have htr := trivial
        refine KO.callF ((bn, cl [.int .i64 o1, .int .u64 (t2 : Int), .int .i64 r.unit, .int .i64 r.dir, .int .i64 r.fx, .int .i64 r.fy, .int .i64 r.tx, .int .i64 r.ty] 26) :: s) [] (by classical exact List.perm_iff_count.2 (fun _ => by first | (simp only [List.count_append, List.count_cons, List.count_nil, List.append_assoc, List.cons_append, List.nil_append]; omega))) rfl rfl rfl rfl rfl rfl rfl (cell_p _ bf bn [.int .i64 o1, .int .u64 (t2 : Int), .int .i64 r.unit, .int .i64 r.dir, .int .i64 r.fx, .int .i64 r.fy, .int .i64 r.tx, .int .i64 r.ty] 26 4 what sFrom m2 x2 s hs2 (by omega) r.fx r.fy rfl rfl) ?_
        rintro _ _ ⟨s, hs3, rfl⟩
        have l3 := stepC_len m2 x2 sFrom r.fx r.fy
        rcases hU : stepC m2 x2 sFrom r.fx r.fy with ⟨m3, x3, a3, b3⟩
        rw [hU] at hs3 l3
        dsimp only at hs3 l3
        refine KO.perm (σ' := (bn, cl [.int .i64 o1, .int .u64 (t2 : Int), .int .i64 r.unit, .int .i64 r.dir, .int .i64 a3, .int .i64 b3, .int .i64 r.tx, .int .i64 r.ty] 26) :: s) (by rw [List.append_nil]; exact List.Perm.refl _) ?_
        repeat' (first | refine KW.region ?_ | refine KO.nil ?_ | ((first | apply KO.val rfl rfl rfl ?kq ?_ ); (case kq => ((first | apply qt_ev rfl ?hi ); (case hi => (intro h; (repeat' (first | with_reducible exact alln | with_reducible refine allc ?_ ?_ )); all_goals (first | with_reducible rfl )))))) | fail)
        refine KO.callF ((bn, cl [.int .i64 o1, .int .u64 (t2 : Int), .int .i64 r.unit, .int .i64 r.dir, .int .i64 a3, .int .i64 b3, .int .i64 r.tx, .int .i64 r.ty] 26) :: s) [] (by classical exact List.perm_iff_count.2 (fun _ => by first | (simp only [List.count_append, List.count_cons, List.count_nil, List.append_assoc, List.cons_append, List.nil_append]; omega))) rfl rfl rfl rfl rfl rfl rfl (cell_p _ bf bn [.int .i64 o1, .int .u64 (t2 : Int), .int .i64 r.unit, .int .i64 r.dir, .int .i64 a3, .int .i64 b3, .int .i64 r.tx, .int .i64 r.ty] 26 6 what sTo m3 x3 s hs3 (by omega) r.tx r.ty rfl rfl) ?_
        rintro _ _ ⟨s, hs4, rfl⟩
        rcases hD : stepC m3 x3 sTo r.tx r.ty with ⟨m4, x4, a4, b4⟩
        rw [hD] at hs4
        dsimp only at hs4
        refine KO.perm (σ' := (bn, cl [.int .i64 o1, .int .u64 (t2 : Int), .int .i64 r.unit, .int .i64 r.dir, .int .i64 a3, .int .i64 b3, .int .i64 a4, .int .i64 b4] 26) :: s) (by rw [List.append_nil]; exact List.Perm.refl _) ?_
        have e2 : stepR2 m1 { r with op := o1 } = (m4, x4, ⟨o1, t2, r.unit, r.dir, a3, b3, a4, b4⟩) := by simp only [stepR2, hW]; rw [if_neg (by omega), if_pos (by omega)]; simp only [hU, hD]
        rw [e2]
        repeat' (first | refine KO.nil ?_ | refine At.block_normal ?_ | fail)
        exact At.end0 ⟨_, List.Perm.refl _, s, hs4, rfl⟩
      · have e2 : stepR2 m1 { r with op := o1 } = (m2, x2, ⟨o1, t2, r.unit, r.dir, r.fx, r.fy, r.tx, r.ty⟩) := by simp only [stepR2, hW]; rw [if_neg (by omega), if_neg (by omega)]
        rw [e2]
        exact At.end0 ⟨_, List.Perm.refl _, s, hs2, rfl⟩
  · obtain ⟨wv, rv, dv, b, φ, rfl⟩ := hs.some_
    dsimp only [Rq.cells]
    have e : stepR md r = (m1, some y, { r with op := o1 }) := by simp only [stepR, hN]
    rw [e]
    repeat' (first | refine KW.seq ?_ | refine KW.region ?_ | refine KO.nil ?_ | refine At.then_normal ?_ | refine KW.skip ?_ | refine KW.ret ?_ | refine At.then_ret ?_ | refine KW.cond_t rfl (by first | with_reducible rfl ) ?_ | refine KW.cond_f rfl (by first | with_reducible rfl ) ?_ | refine KO.skip' rfl (by first | with_reducible rfl | decide) rfl rfl ?_ | refine KO.skipIn rfl (by first | with_reducible rfl ) rfl rfl ?_ | ((first | apply KO.val rfl rfl rfl ?kq ?_ ); (case kq => ((first | apply qt_ev rfl ?hi | ((first | apply qt_load1 rfl rfl ?hi rfl rfl ?hm ?hc ); (case hm => repeat (first | exact List.Mem.head _ | apply List.Mem.tail _ )); (case hc => rfl)) | apply qt_pick_t rfl rfl (by first | decide) rfl ?hi | apply qt_pick_f rfl rfl (by first | with_reducible rfl ) rfl ?hi | apply qt_eqs rfl rfl rfl ?hi rfl (Or.inl rfl) | apply qt_nes rfl rfl rfl ?hi rfl (Or.inl rfl) ); (case hi => (intro h; (repeat' (first | with_reducible exact alln | with_reducible refine allc ?_ ?_ | with_reducible refine andi ?_ ?_)); all_goals (first | with_reducible rfl )))))) | fail)
    exact At.done_ret [] trivial ⟨_, List.Perm.refl _, _, hs, rfl⟩

theorem writes_p (β : Nat → Option Obj) (what : ByteArray) :
    Go.K.Tr Tryd.prog 28 [.string what] β [] (fun v σ' => ∃ bf, v = .pointer (some ⟨bf, 0, none⟩) ∧ FormB β bf what (.put []) none σ') := by
  refine Tr.of_body Tryd.tt (args := [.string what]) (fr := [(0, true, .string what)]) Tryd.func28 rfl (by decide) rfl Tryd.ntmps28 rfl rfl ?_
  intro E hE
  subst hE
  repeat' (first | refine KW.seq ?_ | refine KW.region ?_ | refine KO.nil ?_ | refine At.then_normal ?_ | refine KW.ret ?_ | ((first | apply KO.val rfl rfl rfl ?kq ?_); (case kq => ((first | apply qt_ev rfl ?hi | apply qt_build rfl rfl ?hi rfl ); (case hi => (intro h; (repeat' (first | with_reducible exact alln | with_reducible refine allc ?_ ?_ )); all_goals (first | with_reducible rfl | (simp [h]; done) )))))) | (refine KO.box rfl rfl rfl rfl rfl rfl ?_; intro _ _) | (apply KO.store (i := _) rfl rfl rfl rfl rfl rfl rfl rfl ?hl ?sg ?hw ?ho ?hs; (case sg => first | exact (rfl : getI 0 _ = _) ); (case hl => rfl); (case hw => rfl); (case ho => rfl); (case hs => rfl)) | fail)
  ((first | apply At.done_ret ); (focus (repeat' (first | exact ResVs.nil' | apply ResVs.cons' | exact ResV.tmp' rfl ))); dsimp only [resVal])
  rename_i bf _
  exact ⟨bf, rfl, _, _, _, _, [], [], ⟨rfl, Vec.nil 5 1, rfl⟩, ⟨rfl, rfl⟩, rfl⟩
theorem reads_p (β : Nat → Option Obj) (what : ByteArray) (m c : Nat) (l : List Nat) (p : Option Addr) (hl : l.length = m) (hB : Byt l) (hv : SL β [] 1 m (by8 l) p) (hpc : p = none → c = 0 ∧ m = 0) (hm : m ≤ 281474976710656) :
    Go.K.Tr Tryd.prog 45 [.string what, .slice p m c] β [] (fun v σ' => ∃ bf, v = .pointer (some ⟨bf, 0, none⟩) ∧ FormB β bf what (.take l) none σ') := by
  refine Tr.of_body Tryd.tt (args := [.string what, .slice p m c]) (fr := [(0, true, .string what), (1, true, .slice p m c)]) Tryd.func45 rfl (by decide) rfl Tryd.ntmps45 rfl rfl ?_
  intro E hE
  subst hE
  repeat' (first | refine KW.seq ?_ | refine KW.region ?_ | refine KO.nil ?_ | ((first | apply KO.val rfl rfl rfl ?kq ?_); (case kq => ((first | apply qt_ev rfl ?hi ); (case hi => (intro h; (repeat' (first | with_reducible exact alln | with_reducible refine allc ?_ ?_ )); all_goals (first | with_reducible rfl )))))) | fail)
  refine KO.callA rfl rfl rfl rfl rfl rfl rfl (Read_p _ [] m c (by8 l) p hv hpc (by8_one _) hm) ?_
  rintro _ _ ⟨br, b, rfl, hne, rfl⟩
  repeat' (first | refine KW.seq ?_ | refine KW.region ?_ | refine KO.nil ?_ | refine At.then_normal ?_ | refine KW.ret ?_ | ((first | apply KO.val rfl rfl rfl ?kq ?_); (case kq => ((first | apply qt_ev rfl ?hi | apply qt_build rfl rfl ?hi rfl ); (case hi => (intro h; (repeat' (first | with_reducible exact alln | with_reducible refine allc ?_ ?_ )); all_goals (first | with_reducible rfl | (simp [h]; done) )))))) | (refine KO.box rfl rfl rfl rfl rfl rfl ?_; intro _ _) | (apply KO.store (i := _) rfl rfl rfl rfl rfl rfl rfl rfl ?hl ?sg ?hw ?ho ?hs; (case sg => first | exact (rfl : getI 0 _ = _) ); (case hl => rfl); (case hw => rfl); (case ho => rfl); (case hs => rfl)) | fail)
  ((first | apply At.done_ret ); (focus (repeat' (first | exact ResVs.nil' | apply ResVs.cons' | exact ResV.tmp' rfl ))); dsimp only [resVal])
  rename_i bf _
  refine ⟨bf, rfl, _, _, _, _, [(br, cl [.slice (some ⟨b, 0, none⟩) m m] 126), (b, cl (by8 l) 5)], [], ⟨rfl, rfl, br, some ⟨b, 0, none⟩, m, [(b, cl (by8 l) 5)], rfl, by rw [hl], hB, by omega, (by intro h; cases h), ?_⟩, ⟨rfl, rfl⟩, rfl⟩
  exact SL.ofBlk (List.Mem.head _) (by simp [by8_len])
/-- f.end. -/
theorem end_p (β : Nat → Option Obj) (bf : Nat) (what : ByteArray) (md : Md) (x : Flt) (σ : Heap) (hf : FormB β bf what md x σ) (rest : Bool) (e : Int) :
    Go.K.Tr Tryd.prog 30 [.pointer (some ⟨bf, 0, none⟩), .bool rest, .int .i64 e] β σ (fun v σ' => ∃ wv rv dv ev φ ε, FormH β bf md wv rv dv φ ∧ EV what (if rest then note x ⟨#[101, 110, 100]⟩ e else x) ev ε ∧ v = ev ∧ σ' = (bf, cl [.string what, wv, rv, dv, ev] 80) :: (ε ++ φ)) := by
  refine Tr.perm ?_
  obtain ⟨wv, rv, dv, ev, φ, ε, hF, hE, rfl⟩ := hf
  cases rest
  · have htr := trivial
    refine Tr.of_body Tryd.tt (args := [.pointer (some ⟨bf, 0, none⟩), .bool false, .int .i64 e]) (fr := [(0, true, .pointer (some ⟨bf, 0, none⟩)), (1, true, .bool false), (2, true, .int .i64 e)]) Tryd.func30 rfl (by decide) rfl Tryd.ntmps30 rfl rfl ?_
    intro E hE'
    subst hE'
    repeat' (first | refine KW.seq ?_ | refine KW.region ?_ | refine KO.nil ?_ | refine At.then_normal ?_ | refine KW.skip ?_ | refine KW.ret ?_ | refine KW.cond_f rfl (by first | with_reducible rfl ) ?_ | ((first | apply KO.val rfl rfl rfl ?kq ?_); (case kq => ((first | apply qt_ev rfl ?hi | ((first | apply qt_load1 rfl rfl ?hi rfl rfl ?hm ?hc ); (case hm => repeat (first | exact List.Mem.head _ )); (case hc => rfl)) ); (case hi => (intro h; (repeat' (first | with_reducible exact alln | with_reducible refine allc ?_ ?_ )); all_goals (first | with_reducible rfl )))))) | fail)
    ((first | apply At.done_ret ); (focus (repeat' (first | exact ResVs.nil' | apply ResVs.cons' | exact ResV.tmp' rfl ))); dsimp only [resVal])
    exact ⟨_, List.Perm.refl _, wv, rv, dv, ev, φ, ε, hF, hE, rfl, rfl⟩
  · have htr := trivial
    refine Tr.of_body Tryd.tt (args := [.pointer (some ⟨bf, 0, none⟩), .bool true, .int .i64 e]) (fr := [(0, true, .pointer (some ⟨bf, 0, none⟩)), (1, true, .bool true), (2, true, .int .i64 e)]) Tryd.func30 rfl (by decide) rfl Tryd.ntmps30 rfl rfl ?_
    intro E hE'
    subst hE'
    repeat' (first | refine KW.seq ?_ | refine KW.region ?_ | refine KO.nil ?_ | refine At.then_normal ?_ | refine KW.cond_t rfl (by first | with_reducible rfl ) ?_ | ((first | apply KO.val rfl rfl rfl ?kq ?_); (case kq => ((first | apply qt_ev rfl ?hi ); (case hi => (intro h; (repeat' (first | with_reducible exact alln | with_reducible refine allc ?_ ?_ )); all_goals (first | with_reducible rfl )))))) | fail)
    refine KO.callF ((bf, cl [.string what, wv, rv, dv, ev] 80) :: (ε ++ φ)) [] (by classical exact List.perm_iff_count.2 (fun _ => by first | (simp only [List.count_append, List.count_cons, List.count_nil, List.append_assoc, List.cons_append, List.nil_append]; omega))) rfl rfl rfl rfl rfl rfl rfl (wrong_p _ bf ⟨#[101, 110, 100]⟩ what e wv rv dv ev x ε φ hE) ?_
    rintro _ _ ⟨ev', ε', hE', rfl⟩
    repeat' (first | refine KW.seq ?_ | refine KW.region ?_ | refine KO.nil ?_ | refine At.then_normal ?_ | refine KW.ret ?_ | ((first | apply KO.val rfl rfl rfl ?kq ?_); (case kq => ((first | apply qt_ev rfl ?hi | ((first | apply qt_load1 rfl rfl ?hi rfl rfl ?hm ?hc ); (case hm => repeat (first | exact List.Mem.head _ )); (case hc => rfl)) ); (case hi => (intro h; (repeat' (first | with_reducible exact alln | with_reducible refine allc ?_ ?_ )); all_goals (first | with_reducible rfl )))))) | fail)
    ((first | apply At.done_ret ); (focus (repeat' (first | exact ResVs.nil' | apply ResVs.cons' | exact ResV.tmp' rfl ))); dsimp only [resVal])
    exact ⟨_, by rw [List.append_nil], wv, rv, dv, ev', φ, ε', hF, hE', rfl, rfl⟩
end Go.Proofs.YtnaclkdjchnbpaaDoor
end

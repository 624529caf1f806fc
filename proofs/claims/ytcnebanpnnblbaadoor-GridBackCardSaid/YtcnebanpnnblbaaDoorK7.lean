/- The program logic, seventh part: rows that grow. -/
import Derived.Test.YtcnebanpnnblbaaDoorKD
import Derived.ArgAppend
namespace Go.K
open Go Go.RowKit

/-- A slice of one's own, m elements of n cells each, xs in all, and the block that bears it. -/
def Vec (e n m : Nat) (xs : List Value) (v : Value) (φ : Heap) : Prop :=
  xs.length = m * n ∧ ((v = .slice none 0 0 ∧ m = 0 ∧ φ = []) ∨ ∃ g cap sp, v = .slice (some ⟨g, 0, none⟩) m cap ∧ φ = [(g, cl (xs ++ sp) e)] ∧ m ≤ cap ∧ cap ≤ maxLen ∧ (xs ++ sp).length = cap * n)

theorem Vec.nil (e n : Nat) : Vec e n 0 [] (.slice none 0 0) [] := ⟨by simp, .inl ⟨rfl, rfl, rfl⟩⟩
theorem Vec.len {e n m : Nat} {xs : List Value} {v : Value} {φ : Heap} (h : Vec e n m xs v φ) : ∃ p cap, v = .slice p m cap := by
  rcases h.2 with ⟨h1, rfl, _⟩ | ⟨g, cap, sp, h1, _⟩
  · exact ⟨none, 0, h1⟩
  · exact ⟨_, cap, h1⟩

/-- What a cell holds: of a tracked block, or of what is read alone. -/
def Cel (β : Nat → Option Obj) (σ : Heap) (b off : Nat) (u : Value) : Prop := (∃ cs e, (b, cl cs e) ∈ σ ∧ cs[off]? = some u) ∨ Rc β b off u
theorem Cel.ok {E : Env} {σ : Heap} {b off : Nat} {u : Value} {w : World} (h : Cel E.β σ b off u) (hO : Own E σ w) : w.cell? ⟨b, off, none⟩ = some u := by
  rcases h with ⟨cs, e, h1, h2⟩ | h
  · rw [cell_of_cl (hO.has.has _ h1)]; exact h2
  · exact hO.rc h

theorem Has.fresh {σ : Heap} {w : World} (h : Has σ w) : w.heap.size ∉ keys σ := fun hm => Nat.lt_irrefl _ (h.lt _ hm)

/-- The tail of the tracked heap turns. -/
theorem Stp.tail {ρ φ φ' : Heap} {w w' : World} (h : Has (ρ ++ φ) w) (h1 : w'.os = w.os) (h2 : w'.tape = w.tape) (h3 : w'.output = w.output) (h4 : w.heap.size ≤ w'.heap.size)
    (h5 : ∀ b, b < w.heap.size → b ∉ keys φ → w'.heap[b]? = w.heap[b]?) (h6 : Has φ' w') (h7 : ∀ b ∈ keys φ', b ∈ keys φ ∨ w.heap.size ≤ b) : Stp (ρ ++ φ) (ρ ++ φ') w w' := by
  have hnd := h.nodup
  rw [keys_append] at hnd
  obtain ⟨n1, _, n3⟩ := List.nodup_append.1 hnd
  have hρ : ∀ p ∈ ρ, w'.heap[p.1]? = some p.2 := fun p hp => by
    have := h.has p (List.mem_append_left _ hp)
    rw [h5 p.1 (lt_of_get this) (fun hm => n3 p.1 (mem_keys hp) p.1 hm rfl)]
    exact this
  refine ⟨h1, h2, h3, h4, fun b hb hn => h5 b hb (fun hm => hn (by simp [hm])), ⟨fun p hp => ?_, ?_⟩, fun b hb => ?_⟩
  · rcases List.mem_append.1 hp with hp | hp
    · exact hρ p hp
    · exact h6.has p hp
  · rw [keys_append]
    refine List.nodup_append.2 ⟨n1, h6.nodup, fun x hx y hy => ?_⟩
    rintro rfl
    rcases h7 x hy with h8 | h8
    · exact n3 x hx x h8 rfl
    · obtain ⟨p, hp, rfl⟩ := List.mem_map.1 hx
      have := lt_of_get (h.has p (List.mem_append_left _ hp))
      omega
  · rw [keys_append] at hb ⊢
    rcases List.mem_append.1 hb with hb | hb
    · exact .inl (by simp [hb])
    · exact (h7 b hb).imp (fun h8 => by simp [h8]) id

theorem run_append {P : Program} {T : TT P} {t ty e : Nat} {z : Value} {n by' : Nat} {zs : List Value} (ht : T.u t = some (.slice e)) (hz : T.i e = some (z, n, by')) (hzc : vcells z = some zs) (hzl : zs.length = n) (hn0 : 0 < n)
    {m k c : Nat} {xs news : List Value} {v : Value} {ρ φ : Heap} {w : World} {a : Addr} (hv : Vec e n m xs v φ) (hh : Has (ρ ++ φ) w) (hl : news.length = k * n) (hnews : ∀ j u, news[j]? = some u → w.cell? (a.add j) = some u)
    (h1 : news.all Value.oneCell' = true) (hm : m + k ≤ maxLen) (hby : (m + k) * by' ≤ 140737488355328) :
    ∃ v' w' φ', (Builtin.append_ #[t, t] ty #[v, .slice (some a) k c]).run P w = .ok v' w' ∧ Vec e n (m + k) (xs ++ news) v' φ' ∧ Stp (ρ ++ φ) (ρ ++ φ') w w' := by
  obtain ⟨i, hi1, hi2, hi3, hi4⟩ := TT.i_ok hz
  subst hi3 hi4
  have hzs : z.cells.size = i.size := by rw [vcells_ok hzc]; simpa using hzl
  have hm63 : ((m + k : Nat) : Int) ≤ 9223372036854775807 := by have : maxLen = 9223372036854775807 := rfl; omega
  obtain ⟨hxl, hcase⟩ := hv
  rcases hcase with ⟨rfl, rfl, rfl⟩ | ⟨g, cap, sp, rfl, rfl, hmc, hcm, hsl⟩
  · have hxs : xs = [] := by simpa using hxl
    subst hxs
    by_cases hk : k = 0
    · subst hk
      have : news = [] := by simpa using hl
      subst this
      refine ⟨.slice none 0 0, w, [], ?_, ⟨by simp, .inl ⟨rfl, rfl, rfl⟩⟩, Stp.refl hh⟩
      simp [Builtin.append_, run_underlying (TT.u_ok ht), sizeOf, typeInfo, hi1, Builtin.lenOf, Builtin.firstCells, loadCells, loadCellsFrom]
    · have hby1 : k * i.bytes ≤ 140737488355328 := by simpa using hby
      have hr := run_append_nil (P := P) w t ty e i z (TT.u_ok ht) hi1 hi2 a k c news hl hnews (by omega) (by omega) (by omega)
      refine ⟨_, _, [(w.heap.size, cl (news ++ (Builtin.zeroCells z.cells (grownCap w k 0 e - k)).toList) e)], hr, ⟨by simpa using hl, .inr ⟨w.heap.size, grownCap w k 0 e, (Builtin.zeroCells z.cells (grownCap w k 0 e - k)).toList, by simp, by simp, ?_, ?_, ?_⟩⟩, ?_⟩
      · have := grownCap_ge w k 0 e; omega
      · exact grownCap_le_maxLen w k 0 e (by omega)
      · have h2 := grownCap_ge w k 0 e
        have h3 : ((Builtin.zeroCells z.cells (grownCap w k 0 e - k)).toList).length = (grownCap w k 0 e - k) * i.size := by rw [Array.length_toList, size_zeroCells, hzs]
        rw [List.nil_append, List.length_append, h3, hl, ← Nat.add_mul]
        congr 1; omega
      · have hsz : w.drew.heap.size = w.heap.size := rfl
        refine Stp.tail hh rfl rfl rfl (by rw [World.size_alloc, hsz]; omega) (fun b hb _ => Below.heap_alloc w.drew _ b hb) ⟨fun p hp => ?_, by simp⟩ (fun b hb => .inr ?_)
        · simp only [List.mem_singleton] at hp
          subst hp
          have := World.alloc_heap_new w.drew (Obj.cells (news.toArray ++ Builtin.zeroCells z.cells (grownCap w k 0 e - k)) e)
          rw [hsz] at this
          rw [this]
          simp [cl]
        · simp at hb; omega
  · have hb : w.heap[g]? = some (cl (xs ++ sp) e) := hh.has (g, cl (xs ++ sp) e) (by simp)
    by_cases hroom : m + k ≤ cap
    · have hfit : m * i.size + news.length ≤ (xs ++ sp).toArray.size := by
        rw [List.size_toArray, hsl, hl, ← Nat.add_mul]; exact Nat.mul_le_mul_right _ hroom
      have hr := run_append_room (P := P) w t ty e i (TT.u_ok ht) hi1 g m cap (xs ++ sp).toArray hb a k c news hl hnews (fun u hu => List.all_eq_true.1 h1 u hu) hroom hfit
      have hrow : ((xs ++ sp).toArray.toList.take (m * i.size) ++ news ++ (xs ++ sp).toArray.toList.drop (m * i.size + news.length)) = (xs ++ news) ++ sp.drop news.length := by
        have e1 : (xs ++ sp).take (m * i.size) = xs := by rw [← hxl]; simp
        have e2 : (xs ++ sp).drop (m * i.size + news.length) = sp.drop news.length := by rw [← hxl]; simp [List.drop_append]
        show (xs ++ sp).take (m * i.size) ++ news ++ (xs ++ sp).drop (m * i.size + news.length) = _
        rw [e1, e2]
      have hlen : ((xs ++ news) ++ sp.drop news.length).length = cap * i.size := by
        rw [← hrow]
        simp only [List.length_append, List.length_take, List.length_drop, List.size_toArray] at hsl hfit ⊢
        omega
      refine ⟨_, _, [(g, cl ((xs ++ news) ++ sp.drop news.length) e)], hr, ⟨by rw [List.length_append, hxl, hl, Nat.add_mul], .inr ⟨g, cap, sp.drop news.length, rfl, rfl, hroom, hcm, hlen⟩⟩, ?_⟩
      rw [hrow]
      refine Stp.tail hh rfl rfl rfl (by simp [World.setRow]) (fun b hb' hn => ?_) ⟨fun p hp => ?_, by simp⟩ (fun b hb' => .inl (by simpa using hb'))
      · have hne : b ≠ g := by simpa using hn
        simp only [World.setRow, Array.getElem?_modify]
        rw [if_neg (by omega)]
      · simp only [List.mem_singleton] at hp
        subst hp
        simp [World.setRow, Array.getElem?_modify, hb, cl]
    · have hcell : ∀ j u, xs[j]? = some u → w.cell? ((⟨g, 0, none⟩ : Addr).add j) = some u := fun j u hj => by
        rw [Addr.add_lit, cell_of_cl hb, Nat.zero_add]
        have := (List.getElem?_eq_some_iff.1 hj).1
        rw [List.getElem?_append_left this]; exact hj
      obtain ⟨v', w', hr, ho, hg⟩ := run_append_arg_grows (P := P) w t ty e i z i.size i.bytes (TT.u_ok ht) hi1 hi2 rfl rfl hzs hn0 ⟨g, 0, none⟩ m cap xs hxl hcell a k c news hl hnews (by omega) hm hby
      obtain ⟨o1, ⟨rfl, o2⟩ | ⟨g', cap', cur, rfl, o2, o3, o4, o5, o6, o7⟩⟩ := ho
      · omega
      · have hcur : cur = ((xs ++ news) ++ cur.toList.drop ((m + k) * i.size)).toArray := by
          apply Array.ext'
          rw [← o7]; simp
        refine ⟨_, w', [(g', cl ((xs ++ news) ++ cur.toList.drop ((m + k) * i.size)) e)], hr, ⟨o1, .inr ⟨g', cap', cur.toList.drop ((m + k) * i.size), rfl, rfl, o4, o5, ?_⟩⟩, ?_⟩
        · rw [← o6]; conv => rhs; rw [hcur]
          simp
        · refine Stp.tail hh hg.os hg.tape hg.output hg.size (fun b hb' _ => hg.block b hb' (by simp)) ⟨fun p hp => ?_, by simp⟩ (fun b hb' => .inr ?_)
          · simp only [List.mem_singleton] at hp
            subst hp
            rw [o3]
            simp only [cl]
            rw [← hcur]
          · simp only [keys_cons, keys_nil, List.mem_singleton] at hb'
            omega

section
variable {C : Cx} {ops : List Oper} {Q : KQ} {o : Oper} {rest : List Oper} {fr : Fr} {σ : Heap} {d : Nat}

theorem KO.append {s x : Operand} {t e : Nat} {z : Value} {n by' m k c bx ox : Nat} {zs xs news : List Value} {v : Value} (ρ φ : Heap) (hg : guardOf ops (look fr) o = some true) (hd : o.dst = some d) (hn : Nat.blt d C.N = true) (ho : o.op = .call ⟨.builtin .append, #[s, x], #[t, t]⟩)
    (hs : opnd (look fr) s = some (true, v)) (hx : opnd (look fr) x = some (true, .slice (some ⟨bx, ox, none⟩) k c)) (hu : C.T.u t = some (.slice e)) (hz : C.T.i e = some (z, n, by')) (hzc : vcells z = some zs) (hzl : zs.length = n) (hn0 : 0 < n)
    (hσ : σ = ρ ++ φ) (hv : Vec e n m xs v φ) (hl : news.length = k * n) (hnews : ∀ j u, news[j]? = some u → Cel C.E.β σ bx (ox + j) u) (h1 : news.all Value.oneCell' = true) (hm : m + k ≤ maxLen) (hby : (m + k) * by' ≤ 140737488355328)
    (h : ∀ v' φ', Vec e n (m + k) (xs ++ news) v' φ' → KO C ops Q rest ((d, true, v') :: fr) (ρ ++ φ')) : KO C ops Q (o :: rest) fr σ := by
  subst hσ
  refine KO.eff (Post := fun v' σ' => ∃ φ', Vec e n (m + k) (xs ++ news) v' φ' ∧ σ' = ρ ++ φ') hg hd hn (fun a w hL hO => .inl ?_) ?_
  · obtain ⟨v', w', φ', r1, r2, r3⟩ := run_append (ty := o.type) hu hz hzc hzl hn0 hv hO.has hl (fun j u hj => by rw [Addr.add_lit]; exact (hnews j u hj).ok hO) h1 hm hby
    refine ⟨v', w', ?_, ρ ++ φ', ⟨φ', r2, rfl⟩, r3⟩
    simp [execOp, ho, resolve, invoke, builtin, opnd_ev hL hs rfl, opnd_ev hL hx rfl]
    rw [r1]
    simp
  · rintro v' σ' ⟨φ', h2, rfl⟩
    exact h v' φ' h2
end

/-! ### Rows of zeros; slices, built -/
def catL : List Value → List Value → Option (List Value)
  | [], ys => some ys
  | x :: xs, ys => match catL xs ys with
    | some r => some (x :: r)
    | none => none
theorem catL_ok : ∀ {xs ys r : List Value}, catL xs ys = some r → r = xs ++ ys
  | [], ys, r, h => by simp only [catL, Option.some.injEq] at h; simp [h]
  | x :: xs, ys, r, h => by
    unfold catL at h
    split at h
    · rename_i r' h'; simp only [Option.some.injEq] at h; subst h; rw [catL_ok h']; rfl
    · cases h
def repL : Nat → List Value → Option (List Value)
  | 0, _ => some []
  | k + 1, zs => match repL k zs with
    | some r => catL zs r
    | none => none
theorem repL_ok : ∀ {k : Nat} {zs r : List Value}, repL k zs = some r → r = (List.replicate k zs).flatten
  | 0, zs, r, h => by simp only [repL, Option.some.injEq] at h; simp [← h]
  | k + 1, zs, r, h => by
    unfold repL at h
    split at h
    · rename_i r' h'; rw [catL_ok h, repL_ok h', List.replicate_succ, List.flatten_cons]
    · cases h
theorem rep_cells (zs : List Value) (h : 0 < zs.length) : ∀ k : Nat, (List.range (k * zs.length)).map (fun i => zs.toArray[i % zs.length]!) = (List.replicate k zs).flatten
  | 0 => by simp
  | k + 1 => by
    have e1 : (k + 1) * zs.length = zs.length + k * zs.length := by rw [Nat.add_mul]; omega
    rw [e1, List.range_add, List.map_append, List.map_map, List.replicate_succ, List.flatten_cons, ← rep_cells zs h k]
    congr 1
    · apply List.ext_getElem
      · simp
      · intro i h1 h2
        simp at h1
        simp [Nat.mod_eq_of_lt h1, h1]
    · apply List.map_congr_left
      intro i _
      simp
theorem rep_arr {z : Value} {zs : List Value} {n : Nat} (hz : vcells z = some zs) (hl : zs.length = n) (h0 : 0 < n) (k : Nat) : (Array.range (k * n)).map (fun i => z.cells[i % z.cells.size]!) = ((List.replicate k zs).flatten).toArray := by
  subst hl
  rw [vcells_ok hz]
  apply Array.ext'
  rw [Array.toList_map, Array.toList_range]
  simpa using rep_cells zs h0 k

section
variable {C : Cx} {ops : List Oper} {Q : KQ} {o : Oper} {rest : List Oper} {fr : Fr} {σ : Heap} {d : Nat}
theorem KO.buildSlice {t e len n m : Nat} {parts : Array (Nat × Operand)} {gs : List Bool} {vs : List (Nat × Value)} {z : Value} {zs base cs : List Value} (hg : guardOf ops (look fr) o = some true) (hd : o.dst = some d) (hn : Nat.blt d C.N = true) (ho : o.op = .buildSlice t len parts)
    (hx : evParts (look fr) parts.toList = some (gs, vs)) (hgs : gs.all id = true) (hu : C.T.u t = some (.slice e)) (hz : C.T.i e = some (z, n, m)) (hzc : vcells z = some zs) (hzl : lenB n zs = true) (hn0 : Nat.blt 0 (len * n) = true) (hlim : Nat.ble (len * n) 16777216 = true)
    (hb : repL len zs = some base) (hf : fillL (fun i => some (i * n, n)) base vs = some cs) (h : ∀ b, b ∉ keys σ → KO C ops Q rest ((d, true, .slice (some ⟨b, 0, none⟩) len len) :: fr) ((b, cl cs e) :: σ)) : KO C ops Q (o :: rest) fr σ := by
  refine KO.eff (Post := fun v σ' => ∃ b, b ∉ keys σ ∧ v = .slice (some ⟨b, 0, none⟩) len len ∧ σ' = (b, cl cs e) :: σ) hg hd hn (fun a w hL hO => .inl ?_) ?_
  · refine ⟨.slice (some ⟨w.heap.size, 0, none⟩) len len, w.alloc (cl cs e), ?_, _, ⟨w.heap.size, hO.has.fresh, rfl, rfl⟩, Stp.alloc hO.has _⟩
    have hlt : 0 < len * n := Nat.le_of_ble_eq_true hn0
    have hlim' : ¬ (16777216 < len * n) := by have := Nat.le_of_ble_eq_true hlim; omega
    have hn1 : 0 < n := Nat.pos_of_mul_pos_left hlt
    have e1 := rep_arr hzc (lenB_ok hzl) hn1 len
    rw [← repL_ok hb] at e1
    have e2 : (parts.map fun (p : Nat × Operand) => (p.1, a.eval p.2)).toList = vs := by rw [Array.toList_map]; exact evParts_ok hL hx hgs
    have e3 := fill_ok (fun i => some (i * n, n)) vs base cs hf
    have hne : ¬ len * n = 0 := by omega
    simp only [execOp, ho, Instr.buildSlice, Sem.run_bind, run_underlying (TT.u_ok hu), Result.andThen_ok, run_sizeOf hz, Sem.run_ite, if_neg hlim', Sem.run_pure, if_neg hne, run_zero hz, e1, e2, e3]
    simp [newRow, cl, hlim', hne, run_zero hz, e1, e3]
  · rintro v σ' ⟨b, hb, rfl, rfl⟩; exact h b hb
/-- A call that makes what it tells out of new memory. -/
theorem KO.callE {x : Operand} {f : FuncId} {first cap : List Value} {args : Array Operand} {ts : Array TypeId} {gs : List Bool} {vs av : List Value} {R : Value → Heap → Prop}
    (hg : guardOf ops (look fr) o = some true) (hd : o.dst = some d) (hn : Nat.blt d C.N = true) (ho : o.op = .call ⟨.value x, args, ts⟩) (hx : opnd (look fr) x = some (true, .func (.func f) first.toArray cap.toArray))
    (ha : opnds (look fr) args.toList = some (gs, vs)) (hi : gs.all id = true) (hv : av = first ++ vs ++ cap) (hT : Tr C.P f av C.E.β [] R)
    (h : ∀ v σ', R v σ' → KO C ops Q rest ((d, true, v) :: fr) (σ' ++ σ)) : KO C ops Q (o :: rest) fr σ := by
  refine KO.eff (Post := fun v s => ∃ σ', R v σ' ∧ s = σ' ++ σ) hg hd hn (fun a w hL hO => .inr (.inr ?_)) (fun v s ⟨σ', h1, h2⟩ => by subst h2; exact h v σ' h1)
  refine ⟨f, _, run_call hT.1 ho (opnd_ev hL hx rfl) (opnds_ok hL ha hi), ?_⟩
  have e : (first.toArray ++ vs.toArray) ++ cap.toArray = av.toArray := by rw [hv]; simp
  rw [e]
  refine (hT.2 w (fun b o hb => ⟨(hO.ro hb).1, by simp⟩) (Has.nil w)).mono ?_
  rintro e w' ⟨v, σ', h1, h2, h3⟩
  exact ⟨v, h1, σ' ++ σ, ⟨σ', h2, rfl⟩, h3.frame (σ := []) hO.has⟩
theorem Le.sub {fr' : Fr} {σ' : Heap} (hf : FLe fr fr') (hs : List.Sublist σ' σ) : Le C fr σ fr' σ' := fun a w h => h.weak (hf a h.fr) ⟨fun _ hp => hs.subset hp, by
  have := h.own.has.nodup
  exact this.sublist (by unfold keys; exact hs.map _)⟩
/-- Of what is tracked at the end, some alone is told. -/
theorem Tr.sub {P : Program} {f : FuncId} {args : List Value} {β : Nat → Option Obj} {σ : Heap} {R : Value → Heap → Prop} (h : Tr P f args β σ (fun v σ' => ∃ φ, List.Sublist φ σ' ∧ R v φ)) : Tr P f args β σ R :=
  ⟨h.1, fun w hw hh => (h.2 w hw hh).mono fun e w' ⟨v, σ', h1, ⟨φ, h2, h3⟩, h4⟩ => ⟨v, φ, h1, h3, h4.sub ⟨fun _ hp => h2.subset hp, by
    have := h4.has.nodup
    exact this.sublist (by unfold keys; exact h2.map _)⟩⟩⟩
theorem KO.sub {σ' : Heap} {l : List Oper} (hs : Sub σ' σ) (h : KO C ops Q l fr σ') : KO C ops Q l fr σ := fun a w hS => h a w (hS.weak hS.fr hs)
theorem KW.sub {σ' : Heap} {c : Code} (hs : Sub σ' σ) (h : KW C Q c fr σ') : KW C Q c fr σ := fun a w hS => h a w (hS.weak hS.fr hs)
end
end Go.K

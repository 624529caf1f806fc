/- msg.form: what it does with a number, whichever way it goes; msg.form: a word, a number, a cell. -/
import Derived.Test.YtnaclkdjchnbpaaDoorM1
namespace Go.Proofs.YtnaclkdjchnbpaaDoor
open Go Go.K

/-- A form puts bytes, or takes them. -/
inductive Md where
  | put (xs : List Nat)
  | take (l : List Nat)
def Md.fn : Md → Nat
  | .put _ => 51
  | .take _ => 65
def Md.len : Md → Nat
  | .put xs => xs.length
  | .take l => l.length
def Md.step : Md → Nat → Int → Md × Nat × Int
  | .put xs, X, s => (.put (xs ++ putB X s), X, putE X s)
  | .take l, _, s => if wMay s then (if s ≤ (l.length : Int) then (.take (l.drop s.toNat), num (l.take s.toNat), 0) else (.take l, 0, 17)) else (.take l, 0, 1)
/-- How it lies: the parts w, r and does, and what hangs on them. -/
def FormH (β : Nat → Option Obj) (bf : Nat) (md : Md) (wv rv dv : Value) (φ : Heap) : Prop :=
  dv = .func (.func md.fn) #[.pointer (some ⟨bf, 0, none⟩)] #[] ∧ match md with
  | .put xs => Vec 5 1 xs.length (by8 xs) wv φ ∧ rv = .pointer none
  | .take l => wv = .slice none 0 0 ∧ ∃ br p c ψ, rv = .pointer (some ⟨br, 0, none⟩) ∧ φ = (br, cl [.slice p l.length c] 126) :: ψ ∧ Byt l ∧ l.length ≤ c ∧ (p = none → c = 0 ∧ l.length = 0) ∧ SL β ψ 1 l.length (by8 l) p
theorem wr_set {cs : List Value} {o : Nat} {v : Value} (h : o < cs.length) : Wr cs o [v] (cs.set o v) :=
  ⟨by show o + 1 ≤ cs.length; exact h, by rw [List.set_eq_take_append_cons_drop, if_pos h]; simp⟩
theorem set_same {cs : List Value} {o : Nat} {v : Value} (h : cs[o]? = some v) : cs.set o v = cs := by
  apply List.ext_getElem?
  intro i
  by_cases hi : o = i
  · subst hi
    rw [List.getElem?_set_self (List.getElem?_eq_some_iff.1 h).1, h]
  · rw [List.getElem?_set_ne hi]
theorem SL.drop8 {β : Nat → Option Obj} {σ : Heap} {l : List Nat} {p : Option Addr} {c s : Nat} (h : SL β σ 1 l.length (by8 l) p) (hs : s ≤ l.length) (hc : l.length ≤ c) : SL β σ 1 (l.drop s).length (by8 (l.drop s)) (adv 1 p c s) := by
  have h1 := SL.adv (c := c) h hs (Nat.le_refl _) hc
  have e : ((by8 l).drop (s * 1)).take ((l.length - s) * 1) = by8 (l.drop s) := by
    rw [Nat.mul_one, Nat.mul_one, List.take_of_length_le (by rw [List.length_drop, by8_len]; omega)]
    simp only [by8, List.map_drop]
  rw [e] at h1
  rw [List.length_drop]
  exact h1
theorem adv_none {p : Option Addr} {c s : Nat} {l : List Nat} (h : p = none → c = 0 ∧ l.length = 0) : adv 1 p c s = none → c - s = 0 ∧ (l.drop s).length = 0 := by
  intro hn
  have hp : p = none := by
    unfold adv at hn
    split at hn
    · exact hn
    · simpa using hn
  have := h hp
  rw [List.length_drop]
  omega
/-- f.take. -/
theorem take_p (β : Nat → Option Obj) (bf bx br c : Nat) (cs : List Value) (t : TypeId) (ox : Nat) (a wv dv ev : Value) (p : Option Addr) (ψ : Heap) (l : List Nat) (hB : Byt l) (hlc : l.length ≤ c) (hpc : p = none → c = 0 ∧ l.length = 0) (hs : SL β ψ 1 l.length (by8 l) p) (hm : l.length ≤ 1000000) (X : Nat) (size : Int) (hx : ox < cs.length) :
    Go.K.Tr Tryd.prog 65 [.pointer (some ⟨bf, 0, none⟩), .pointer (some ⟨bx, ox, none⟩), .int .i64 size] β ((bf, cl [a, wv, .pointer (some ⟨br, 0, none⟩), dv, ev] 80) :: ((bx, cl cs t) :: ((br, cl [.slice p l.length c] 126) :: ψ))) (fun v' σ' =>
      v' = .int .i64 ((Md.take l).step X size).2.2 ∧ ∃ l' p' c', ((Md.take l).step X size).1 = .take l' ∧ Byt l' ∧ l'.length ≤ c' ∧ (p' = none → c' = 0 ∧ l'.length = 0) ∧ SL β ψ 1 l'.length (by8 l') p' ∧ σ' = (bf, cl [a, wv, .pointer (some ⟨br, 0, none⟩), dv, ev] 80) :: ((bx, cl (cs.set ox (.int .u64 (((Md.take l).step X size).2.1 : Nat))) t) :: ((br, cl [.slice p' l'.length c'] 126) :: ψ))) := by
  refine Tr.perm ?_
  refine Tr.of_body Tryd.tt (args := [.pointer (some ⟨bf, 0, none⟩), .pointer (some ⟨bx, ox, none⟩), .int .i64 size]) (fr := [(0, true, .pointer (some ⟨bf, 0, none⟩)), (1, true, .pointer (some ⟨bx, ox, none⟩)), (2, true, .int .i64 size)]) Tryd.func65 rfl (by decide) rfl Tryd.ntmps65 rfl rfl ?_
  intro E hE
  subst hE
  repeat' (first | refine KW.seq ?_ | refine KW.region ?_ | refine KO.nil ?_ | ((first | apply KO.val rfl rfl rfl ?kq ?_); (case kq => ((first | apply qt_ev rfl ?hi | ((first | apply qt_load1 rfl rfl ?hi rfl rfl ?hm ?hc ); (case hm => repeat (first | exact List.Mem.head _ )); (case hc => rfl)) ); (case hi => (intro h; (repeat' (first | with_reducible exact alln | with_reducible refine allc ?_ ?_ )); all_goals (first | with_reducible rfl )))))) | fail)
  refine KO.callF ((br, cl [.slice p l.length c] 126) :: ψ) [(bf, cl [a, wv, .pointer (some ⟨br, 0, none⟩), dv, ev] 80), (bx, cl cs t)] (by classical exact List.perm_iff_count.2 (fun _ => by first | (simp only [List.count_append, List.count_cons, List.count_nil, List.append_assoc, List.cons_append, List.nil_append]; omega))) rfl rfl rfl rfl rfl rfl rfl (Take_p _ ψ br l.length c l p size rfl hB hlc (hs.mono (fun q hq => List.mem_cons_of_mem _ hq)) (by omega)) ?_
  rintro _ _ (⟨h1, rfl, rfl⟩ | ⟨h1, h2, rfl, rfl⟩ | ⟨h1, h2, rfl, rfl⟩)
  · refine KO.perm (σ' := (bx, cl cs t) :: ((bf, cl [a, wv, .pointer (some ⟨br, 0, none⟩), dv, ev] 80) :: ((br, cl [.slice p l.length c] 126) :: ψ))) (by classical exact List.perm_iff_count.2 (fun _ => by first | (simp only [List.count_append, List.count_cons, List.count_nil, List.append_assoc, List.cons_append, List.nil_append]; omega))) ?_
    repeat' (first | ((first | apply KO.val rfl rfl rfl ?kq ?_); (case kq => ((first | apply qt_ev rfl ?hi ); (case hi => (intro h; (repeat' (first | with_reducible exact alln | with_reducible refine allc ?_ ?_ )); all_goals (first | with_reducible rfl )))))) | fail)
    refine KO.storeW (i := 0) (vs := [_]) (cs' := cs.set ox (.int .u64 ((0 : Nat) : Int))) rfl rfl rfl rfl rfl rfl rfl rfl rfl rfl (wr_set hx) rfl ?_
    repeat' (first | refine KW.seq ?_ | refine KW.region ?_ | refine KO.nil ?_ | refine At.then_normal ?_ | refine KW.ret ?_ | ((first | apply KO.val rfl rfl rfl ?kq ?_); (case kq => ((first | apply qt_ev rfl ?hi ); (case hi => (intro h; (repeat' (first | with_reducible exact alln | with_reducible refine allc ?_ ?_ )); all_goals (first | with_reducible rfl )))))) | fail)
    ((first | apply At.done_ret ); (focus (repeat' (first | exact ResVs.nil' | apply ResVs.cons' | exact ResV.tmp' rfl ))); dsimp only [resVal])
    have e : (Md.take l).step X size = (.take l, 0, 1) := by simp only [Md.step, h1]; rfl
    rw [e]
    exact ⟨_, (by classical exact List.perm_iff_count.2 (fun _ => by first | (simp only [List.count_append, List.count_cons, List.count_nil, List.append_assoc, List.cons_append, List.nil_append]; omega))), rfl, l, p, c, rfl, hB, hlc, hpc, hs, rfl⟩
  · refine KO.perm (σ' := (bx, cl cs t) :: ((bf, cl [a, wv, .pointer (some ⟨br, 0, none⟩), dv, ev] 80) :: ((br, cl [.slice p l.length c] 126) :: ψ))) (by classical exact List.perm_iff_count.2 (fun _ => by first | (simp only [List.count_append, List.count_cons, List.count_nil, List.append_assoc, List.cons_append, List.nil_append]; omega))) ?_
    repeat' (first | ((first | apply KO.val rfl rfl rfl ?kq ?_); (case kq => ((first | apply qt_ev rfl ?hi ); (case hi => (intro h; (repeat' (first | with_reducible exact alln | with_reducible refine allc ?_ ?_ )); all_goals (first | with_reducible rfl )))))) | fail)
    refine KO.storeW (i := 0) (vs := [_]) (cs' := cs.set ox (.int .u64 ((0 : Nat) : Int))) rfl rfl rfl rfl rfl rfl rfl rfl rfl rfl (wr_set hx) rfl ?_
    repeat' (first | refine KW.seq ?_ | refine KW.region ?_ | refine KO.nil ?_ | refine At.then_normal ?_ | refine KW.ret ?_ | ((first | apply KO.val rfl rfl rfl ?kq ?_); (case kq => ((first | apply qt_ev rfl ?hi ); (case hi => (intro h; (repeat' (first | with_reducible exact alln | with_reducible refine allc ?_ ?_ )); all_goals (first | with_reducible rfl )))))) | fail)
    ((first | apply At.done_ret ); (focus (repeat' (first | exact ResVs.nil' | apply ResVs.cons' | exact ResV.tmp' rfl ))); dsimp only [resVal])
    have e : (Md.take l).step X size = (.take l, 0, 17) := by simp only [Md.step, h1, if_true]; rw [if_neg (by omega)]
    rw [e]
    exact ⟨_, (by classical exact List.perm_iff_count.2 (fun _ => by first | (simp only [List.count_append, List.count_cons, List.count_nil, List.append_assoc, List.cons_append, List.nil_append]; omega))), rfl, l, p, c, rfl, hB, hlc, hpc, hs, rfl⟩
  · refine KO.perm (σ' := (bx, cl cs t) :: ((bf, cl [a, wv, .pointer (some ⟨br, 0, none⟩), dv, ev] 80) :: ((br, cl [.slice (adv 1 p c size.toNat) (l.length - size.toNat) (c - size.toNat)] 126) :: ψ))) (by classical exact List.perm_iff_count.2 (fun _ => by first | (simp only [List.count_append, List.count_cons, List.count_nil, List.append_assoc, List.cons_append, List.nil_append]; omega))) ?_
    repeat' (first | ((first | apply KO.val rfl rfl rfl ?kq ?_); (case kq => ((first | apply qt_ev rfl ?hi ); (case hi => (intro h; (repeat' (first | with_reducible exact alln | with_reducible refine allc ?_ ?_ )); all_goals (first | with_reducible rfl )))))) | fail)
    refine KO.storeW (i := 0) (vs := [_]) (cs' := cs.set ox (.int .u64 (num (l.take size.toNat) : Nat))) rfl rfl rfl rfl rfl rfl rfl rfl rfl rfl (wr_set hx) rfl ?_
    repeat' (first | refine KW.seq ?_ | refine KW.region ?_ | refine KO.nil ?_ | refine At.then_normal ?_ | refine KW.ret ?_ | ((first | apply KO.val rfl rfl rfl ?kq ?_); (case kq => ((first | apply qt_ev rfl ?hi ); (case hi => (intro h; (repeat' (first | with_reducible exact alln | with_reducible refine allc ?_ ?_ )); all_goals (first | with_reducible rfl )))))) | fail)
    ((first | apply At.done_ret ); (focus (repeat' (first | exact ResVs.nil' | apply ResVs.cons' | exact ResV.tmp' rfl ))); dsimp only [resVal])
    have e : (Md.take l).step X size = (.take (l.drop size.toNat), num (l.take size.toNat), 0) := by simp only [Md.step, h1, if_true]; rw [if_pos h2]
    rw [e]
    have el : (l.drop size.toNat).length = l.length - size.toNat := List.length_drop
    rw [← el]
    exact ⟨_, (by classical exact List.perm_iff_count.2 (fun _ => by first | (simp only [List.count_append, List.count_cons, List.count_nil, List.append_assoc, List.cons_append, List.nil_append]; omega))), rfl, l.drop size.toNat, adv 1 p c size.toNat, c - size.toNat, rfl, fun x hx => hB x (List.mem_of_mem_drop hx), by rw [el]; omega, adv_none hpc, SL.drop8 hs (by omega) hlc, rfl⟩
/-- f.does. -/
theorem does_p (β : Nat → Option Obj) (bf bx : Nat) (cs : List Value) (t : TypeId) (ox : Nat) (md : Md) (a wv rv dv ev : Value) (φ : Heap) (hf : FormH β bf md wv rv dv φ) (hm : md.len ≤ 1000000) (X : Nat) (size : Int) (hX : X < 18446744073709551616) (hx : cs[ox]? = some (.int .u64 (X : Int))) :
    Go.K.Tr Tryd.prog md.fn [.pointer (some ⟨bf, 0, none⟩), .pointer (some ⟨bx, ox, none⟩), .int .i64 size] β ((bf, cl [a, wv, rv, dv, ev] 80) :: ((bx, cl cs t) :: φ)) (fun v' σ' =>
      v' = .int .i64 (md.step X size).2.2 ∧ ∃ wv' φ', FormH β bf (md.step X size).1 wv' rv dv φ' ∧ σ' = (bf, cl [a, wv', rv, dv, ev] 80) :: ((bx, cl (cs.set ox (.int .u64 ((md.step X size).2.1 : Nat))) t) :: φ')) := by
  have hlt : ox < cs.length := (List.getElem?_eq_some_iff.1 hx).1
  cases md with
  | put xs =>
    obtain ⟨rfl, hv, rfl⟩ := hf
    refine (put_p β bf xs.length bx cs t ox a _ _ ev wv φ xs rfl hv hm X size hX hx).mono ?_
    rintro v' s ⟨rfl, u, φ', hu, rfl⟩
    refine ⟨rfl, u, φ', ⟨rfl, ?_, rfl⟩, ?_⟩
    · show Vec 5 1 (xs ++ putB X size).length _ _ _
      rw [List.length_append]
      exact hu
    · show _ = _ :: ((bx, cl (cs.set ox (.int .u64 (X : Int))) t) :: φ')
      rw [set_same hx]
  | take l =>
    obtain ⟨rfl, rfl, br, p, c, ψ, rfl, rfl, hB, hlc, hpc, hs⟩ := hf
    refine (take_p β bf bx br c cs t ox a _ _ ev p ψ l hB hlc hpc hs hm X size hlt).mono ?_
    rintro v' s ⟨rfl, l', p', c', e, hB', hlc', hpc', hs', rfl⟩
    refine ⟨rfl, .slice none 0 0, _, ?_, rfl⟩
    rw [e]
    exact ⟨rfl, rfl, br, p', c', ψ, rfl, rfl, hB', hlc', hpc', hs'⟩

/-- A form, and all that hangs on it. -/
def FormB (β : Nat → Option Obj) (bf : Nat) (what : ByteArray) (md : Md) (x : Option (ByteArray × Int)) (σ : Heap) : Prop :=
  ∃ wv rv dv ev φ ε, FormH β bf md wv rv dv φ ∧ EV what x ev ε ∧ σ = (bf, cl [.string what, wv, rv, dv, ev] 80) :: (ε ++ φ)
/-- A word: the form, what went wrong, and the word, behind it. -/
def stepW (md : Md) (x : Option (ByteArray × Int)) (name : ByteArray) (X : Nat) (size : Int) : Md × Option (ByteArray × Int) × Nat := match x with
  | some y => (md, some y, X)
  | none => ((md.step X size).1, note none name (md.step X size).2.2, (md.step X size).2.1)
theorem word_p (β : Nat → Option Obj) (bf bx : Nat) (cs : List Value) (t : TypeId) (ox : Nat) (what name : ByteArray) (md : Md) (x : Option (ByteArray × Int)) (σ : Heap) (hf : FormB β bf what md x σ) (hm : md.len ≤ 1000000) (X : Nat) (size : Int) (hX : X < 18446744073709551616) (hx : cs[ox]? = some (.int .u64 (X : Int))) :
    Go.K.Tr Tryd.prog 55 [.pointer (some ⟨bf, 0, none⟩), .string name, .pointer (some ⟨bx, ox, none⟩), .int .i64 size] β ((bx, cl cs t) :: σ) (fun _ σ' => ∃ s, FormB β bf what (stepW md x name X size).1 (stepW md x name X size).2.1 s ∧ σ' = (bx, cl (cs.set ox (.int .u64 ((stepW md x name X size).2.2 : Nat))) t) :: s) := by
  refine Tr.perm ?_
  obtain ⟨wv, rv, dv, ev, φ, ε, hF, hE, rfl⟩ := hf
  rcases x with _ | y
  · obtain ⟨rfl, rfl⟩ := hE
    have hF' := hF
    obtain ⟨rfl, _⟩ := hF
    refine Tr.of_body Tryd.tt (args := [.pointer (some ⟨bf, 0, none⟩), .string name, .pointer (some ⟨bx, ox, none⟩), .int .i64 size]) (fr := [(0, true, .pointer (some ⟨bf, 0, none⟩)), (1, true, .string name), (2, true, .pointer (some ⟨bx, ox, none⟩)), (3, true, .int .i64 size)]) Tryd.func55 rfl (by decide) rfl Tryd.ntmps55 rfl rfl ?_
    intro E hE
    subst hE
    repeat' (first | refine KW.seq ?_ | refine KW.region ?_ | refine KO.nil ?_ | refine At.then_normal ?_ | refine KW.cond_t rfl (by first | with_reducible rfl ) ?_ | ((first | apply KO.val rfl rfl rfl ?kq ?_); (case kq => ((first | apply qt_ev rfl ?hi | ((first | apply qt_load1 rfl rfl ?hi rfl rfl ?hm ?hc ); (case hm => repeat (first | exact List.Mem.head _ | apply List.Mem.tail _ )); (case hc => rfl)) | apply qt_eqs rfl rfl rfl ?hi rfl (Or.inr ⟨rfl, rfl, rfl⟩) ); (case hi => (intro h; (repeat' (first | with_reducible exact alln | with_reducible refine allc ?_ ?_ | with_reducible refine andi ?_ ?_)); all_goals (first | with_reducible rfl )))))) | fail)
    refine KO.callF ((bf, cl [.string what, wv, rv, .func (.func md.fn) #[.pointer (some ⟨bf, 0, none⟩)] #[], .nilIface] 80) :: ((bx, cl cs t) :: φ)) [] (by classical exact List.perm_iff_count.2 (fun _ => by first | (simp only [List.count_append, List.count_cons, List.count_nil, List.append_assoc, List.cons_append, List.nil_append]; omega))) rfl rfl rfl rfl rfl rfl rfl (does_p _ bf bx cs t ox md _ _ _ _ _ φ hF' hm X size hX hx) ?_
    rintro _ _ ⟨rfl, wv', φ', hF2, rfl⟩
    repeat' (first | refine KW.seq ?_ | refine KW.region ?_ | refine KO.nil ?_ | refine At.then_normal ?_ | refine KW.skip ?_ | refine KW.ret ?_ | refine At.then_ret ?_ | refine KW.block ?_ | refine KW.exit ?_ | refine At.block_normal ?_ | refine At.block_ret ?_ | refine At.loop_ret ?_ | refine At.then_exit ?_ | refine At.block_here rfl ?_ | refine At.block_there rfl ?_ | refine At.loop_exit ?_ | refine At.cut_ret ?_ | refine At.cutA_ret ?_ | refine At.cutA_exit ?_ | refine At.cut_exit ?_ | (refine At.cut_same ?_; repeat' (first | exact FLe.nil _ | refine FLe.cons rfl rfl ?_)) | refine KW.cond_t rfl (by first | with_reducible rfl | decide) ?_ | refine KW.cond_f rfl (by first | with_reducible rfl | decide) ?_ | refine KW.scope ?_ | refine KW.label ?_ | refine At.scope_normal ?_ | refine At.scope_ret ?_ | refine At.scope_exit ?_ | ((first | apply KO.val rfl rfl rfl ?kq ?_); (case kq => ((first | apply qt_ev rfl ?hi | ((first | apply qt_load1 rfl rfl ?hi rfl rfl ?hm ?hc | apply qt_loadN rfl rfl ?hi rfl rfl rfl ?hm ?hc); (case hm => repeat (first | exact List.Mem.head _ | apply List.Mem.tail _ | apply List.mem_append_right _)); (case hc => rfl)) | apply qt_cap rfl rfl ?hi rfl | apply qt_eqs rfl rfl rfl ?hi rfl (Or.inl rfl) | apply qt_nes rfl rfl rfl ?hi rfl (Or.inl rfl) | apply qt_eqs rfl rfl rfl ?hi rfl (Or.inr ⟨rfl, rfl, rfl⟩) | apply qt_nes rfl rfl rfl ?hi rfl (Or.inr ⟨rfl, rfl, rfl⟩)); (case hi => (intro h; (repeat' (first | with_reducible exact alln | with_reducible refine allc ?_ ?_ | with_reducible refine andi ?_ ?_)); all_goals (first | with_reducible rfl | with_reducible exact h | with_reducible exact andl h | with_reducible exact andr h | with_reducible exact andl (andl h) | (simp only [h, Bool.and_self]; done) | (simp [h]; done) | (simp_all; done))))))) | (refine KW.cond rfl ?_ ?_ <;> (intro hc; try simp only [kBool] at hc)) | exact absurd trivial ‹¬True› | fail)
    refine KO.callF ((bf, cl [.string what, wv', rv, .func (.func md.fn) #[.pointer (some ⟨bf, 0, none⟩)] #[], .nilIface] 80) :: ([] ++ [])) ((bx, cl (cs.set ox (.int .u64 ((md.step X size).2.1 : Nat))) t) :: φ') (by classical exact List.perm_iff_count.2 (fun _ => by first | (simp only [List.count_append, List.count_cons, List.count_nil, List.append_assoc, List.cons_append, List.nil_append]; omega))) rfl rfl rfl rfl rfl rfl rfl (wrong_p _ bf name what _ _ _ _ _ none [] [] ⟨rfl, rfl⟩) ?_
    rintro _ _ ⟨ev', ε', hE', rfl⟩
    repeat' (first | refine KO.nil ?_ | fail)
    refine At.end0 ⟨(bx, cl (cs.set ox (.int .u64 ((md.step X size).2.1 : Nat))) t) :: ((bf, cl [.string what, wv', rv, .func (.func md.fn) #[.pointer (some ⟨bf, 0, none⟩)] #[], ev'] 80) :: (ε' ++ φ')), (by classical exact List.perm_iff_count.2 (fun _ => by first | (simp only [List.count_append, List.count_cons, List.count_nil, List.append_assoc, List.cons_append, List.nil_append]; omega))), _, ⟨wv', rv, _, ev', φ', ε', hF2, hE', rfl⟩, rfl⟩
  · have hE' := hE
    obtain ⟨b, c, rfl, rfl⟩ := hE
    refine Tr.of_body Tryd.tt (args := [.pointer (some ⟨bf, 0, none⟩), .string name, .pointer (some ⟨bx, ox, none⟩), .int .i64 size]) (fr := [(0, true, .pointer (some ⟨bf, 0, none⟩)), (1, true, .string name), (2, true, .pointer (some ⟨bx, ox, none⟩)), (3, true, .int .i64 size)]) Tryd.func55 rfl (by decide) rfl Tryd.ntmps55 rfl rfl ?_
    intro E hE
    subst hE
    repeat' (first | refine KW.seq ?_ | refine KW.region ?_ | refine KO.nil ?_ | refine At.then_normal ?_ | refine KW.skip ?_ | refine KW.cond_f rfl (by first | with_reducible rfl ) ?_ | ((first | apply KO.val rfl rfl rfl ?kq ?_); (case kq => ((first | apply qt_ev rfl ?hi | ((first | apply qt_load1 rfl rfl ?hi rfl rfl ?hm ?hc ); (case hm => repeat (first | exact List.Mem.head _ | apply List.Mem.tail _ )); (case hc => rfl)) | apply qt_eqs rfl rfl rfl ?hi rfl (Or.inl rfl) ); (case hi => (intro h; (repeat' (first | with_reducible exact alln | with_reducible refine allc ?_ ?_ | with_reducible refine andi ?_ ?_)); all_goals (first | with_reducible rfl )))))) | fail)
    refine At.end0 ⟨_, List.Perm.refl _, _, ⟨wv, rv, dv, _, φ, _, hF, hE', rfl⟩, ?_⟩
    show _ = (bx, cl (cs.set ox (.int .u64 (X : Int))) t) :: _
    rw [set_same hx]
/-- An int as a word. -/
def u64 (N : Int) : Nat := (N % 18446744073709551616).toNat
theorem u64_lt (N : Int) : u64 N < 18446744073709551616 := by unfold u64; omega
theorem u64_wrap (N : Int) : IntKind.u64.wrap N = (u64 N : Int) := by
  rw [IntKind.wrap_u64, u64]; omega
def stepN (md : Md) (x : Option (ByteArray × Int)) (name : ByteArray) (N : Int) (size : Int) : Md × Option (ByteArray × Int) × Int :=
  ((stepW md x name (u64 N) size).1, (stepW md x name (u64 N) size).2.1, IntKind.i64.wrap ((stepW md x name (u64 N) size).2.2 : Int))
theorem number_p (β : Nat → Option Obj) (bf bn : Nat) (cs : List Value) (t : TypeId) (on : Nat) (what name : ByteArray) (md : Md) (x : Option (ByteArray × Int)) (σ : Heap) (hf : FormB β bf what md x σ) (hm : md.len ≤ 1000000) (N : Int) (size : Int) (hx : cs[on]? = some (.int .i64 N)) :
    Go.K.Tr Tryd.prog 52 [.pointer (some ⟨bf, 0, none⟩), .string name, .pointer (some ⟨bn, on, none⟩), .int .i64 size] β ((bn, cl cs t) :: σ) (fun _ σ' => ∃ s, FormB β bf what (stepN md x name N size).1 (stepN md x name N size).2.1 s ∧ σ' = (bn, cl (cs.set on (.int .i64 (stepN md x name N size).2.2)) t) :: s) := by
  have hlt : on < cs.length := (List.getElem?_eq_some_iff.1 hx).1
  refine Tr.sub ?_
  refine Tr.of_body Tryd.tt (args := [.pointer (some ⟨bf, 0, none⟩), .string name, .pointer (some ⟨bn, on, none⟩), .int .i64 size]) (fr := [(0, true, .pointer (some ⟨bf, 0, none⟩)), (1, true, .string name), (2, true, .pointer (some ⟨bn, on, none⟩)), (3, true, .int .i64 size)]) Tryd.func52 rfl (by decide) rfl Tryd.ntmps52 rfl rfl ?_
  intro E hE
  subst hE
  have k1 : Cel E.β ((bn, cl cs t) :: σ) bn on (.int .i64 N) := .inl ⟨cs, t, List.Mem.head _, hx⟩
  repeat' (first | refine KW.seq ?_ | refine KW.region ?_ | refine KO.nil ?_ | ((first | apply KO.val rfl rfl rfl ?kq ?_); (case kq => ((first | apply qt_ev rfl ?hi ); (case hi => (intro h; (repeat' (first | with_reducible exact alln | with_reducible refine allc ?_ ?_ )); all_goals (first | with_reducible rfl )))))) | (refine KO.alloc rfl rfl rfl rfl rfl rfl ?_; intro _ _) | (apply KO.store (i := _) rfl rfl rfl rfl rfl rfl rfl rfl ?hl ?sg ?hw ?ho ?hs; (case sg => first | exact (rfl : getI 0 _ = _) ); (case hl => rfl); (case hw => rfl); (case ho => rfl); (case hs => rfl)) | ((first | apply KO.val (g := true) rfl rfl rfl); (first | (apply qt_load1_cel rfl rfl ?hi rfl rfl ?hc; (case hc => first | exact fun _ => (k1)))); (case hi => (first | exact fun _ => rfl ))) | fail)
  rename_i b8 _
  rw [u64_wrap]
  refine KO.callF ((b8, cl [.int .u64 (u64 N : Nat)] 22) :: σ) [(bn, cl cs t)] (by classical exact List.perm_iff_count.2 (fun _ => by first | (simp only [List.count_append, List.count_cons, List.count_nil, List.append_assoc, List.cons_append, List.nil_append]; omega))) rfl rfl rfl rfl rfl rfl rfl (word_p _ bf b8 [.int .u64 (u64 N : Nat)] 22 0 what name md x σ hf hm (u64 N) size (u64_lt N) rfl) ?_
  rintro _ _ ⟨s, hs, rfl⟩
  refine KO.perm (σ' := (bn, cl cs t) :: ((b8, cl [.int .u64 ((stepW md x name (u64 N) size).2.2 : Nat)] 22) :: s)) ?_ ?_
  · show List.Perm ((b8, cl [.int .u64 ((stepW md x name (u64 N) size).2.2 : Nat)] 22) :: s ++ [(bn, cl cs t)]) _
    exact (by classical exact List.perm_iff_count.2 (fun _ => by first | (simp only [List.count_append, List.count_cons, List.count_nil, List.append_assoc, List.cons_append, List.nil_append]; omega)))
  repeat' (first | refine KW.region ?_ | refine KO.nil ?_ | ((first | apply KO.val rfl rfl rfl ?kq ?_); (case kq => ((first | apply qt_ev rfl ?hi | ((first | apply qt_load1 rfl rfl ?hi rfl rfl ?hm ?hc ); (case hm => repeat (first | exact List.Mem.head _ | apply List.Mem.tail _ )); (case hc => rfl)) ); (case hi => (intro h; (repeat' (first | with_reducible exact alln | with_reducible refine allc ?_ ?_ )); all_goals (first | with_reducible rfl )))))) | fail)
  refine KO.storeW (i := 0) (vs := [_]) (cs' := cs.set on (.int .i64 (stepN md x name N size).2.2)) rfl rfl rfl rfl rfl rfl rfl rfl rfl rfl (wr_set hlt) rfl ?_
  repeat' (first | refine KO.nil ?_ | fail)
  refine At.end0 ⟨_, List.Sublist.cons_cons _ (List.Sublist.cons _ (List.Sublist.refl _)), s, hs, rfl⟩
theorem Md.step_len (md : Md) (X : Nat) (size : Int) (hs : size ≤ 8) : (md.step X size).1.len ≤ md.len + 8 := by
  cases md with
  | put xs =>
    show (xs ++ putB X size).length ≤ xs.length + 8
    rw [List.length_append]
    have : (putB X size).length ≤ 8 := by
      unfold putB
      split
      · rw [bes_len]; omega
      · simp
    omega
  | take l =>
    simp only [Md.step]
    split
    · split
      · show (l.drop _).length ≤ l.length + 8
        rw [List.length_drop]; omega
      · show l.length ≤ l.length + 8; omega
    · show l.length ≤ l.length + 8; omega
theorem stepN_len (md : Md) (x : Option (ByteArray × Int)) (name : ByteArray) (N : Int) (size : Int) (hs : size ≤ 8) : (stepN md x name N size).1.len ≤ md.len + 8 := by
  rcases x with _ | y
  · exact Md.step_len md _ size hs
  · show md.len ≤ md.len + 8; omega
def stepC (md : Md) (x : Option (ByteArray × Int)) (name : ByteArray) (X Y : Int) : Md × Option (ByteArray × Int) × Int × Int :=
  let r := stepN md x name X 2
  let q := stepN r.1 r.2.1 name Y 2
  (q.1, q.2.1, r.2.2, q.2.2)
theorem cell_p (β : Nat → Option Obj) (bf bn : Nat) (cs : List Value) (t : TypeId) (on : Nat) (what name : ByteArray) (md : Md) (x : Option (ByteArray × Int)) (σ : Heap) (hf : FormB β bf what md x σ) (hm : md.len ≤ 999990) (X Y : Int) (hx : cs[on]? = some (.int .i64 X)) (hy : cs[on + 1]? = some (.int .i64 Y)) :
    Go.K.Tr Tryd.prog 56 [.pointer (some ⟨bf, 0, none⟩), .string name, .pointer (some ⟨bn, on, none⟩)] β ((bn, cl cs t) :: σ) (fun _ σ' => ∃ s, FormB β bf what (stepC md x name X Y).1 (stepC md x name X Y).2.1 s ∧ σ' = (bn, cl ((cs.set on (.int .i64 (stepC md x name X Y).2.2.1)).set (on + 1) (.int .i64 (stepC md x name X Y).2.2.2)) t) :: s) := by
  refine Tr.perm ?_
  refine Tr.of_body Tryd.tt (args := [.pointer (some ⟨bf, 0, none⟩), .string name, .pointer (some ⟨bn, on, none⟩)]) (fr := [(0, true, .pointer (some ⟨bf, 0, none⟩)), (1, true, .string name), (2, true, .pointer (some ⟨bn, on, none⟩))]) Tryd.func56 rfl (by decide) rfl Tryd.ntmps56 rfl rfl ?_
  intro E hE
  subst hE
  have h2 := stepN_len md x name X 2 (by omega)
  repeat' (first | refine KW.seq ?_ | refine KW.region ?_ | ((first | apply KO.val rfl rfl rfl ?kq ?_); (case kq => ((first | apply qt_ev rfl ?hi ); (case hi => (intro h; (repeat' (first | with_reducible exact alln | with_reducible refine allc ?_ ?_ )); all_goals (first | with_reducible rfl )))))) | fail)
  refine KO.callF ((bn, cl cs t) :: σ) [] (by classical exact List.perm_iff_count.2 (fun _ => by first | (simp only [List.count_append, List.count_cons, List.count_nil, List.append_assoc, List.cons_append, List.nil_append]; omega))) rfl rfl rfl rfl rfl rfl rfl (number_p _ bf bn cs t on what name md x σ hf (by omega) X 2 hx) ?_
  rintro _ _ ⟨s, hs, rfl⟩
  repeat' (first | refine KW.region ?_ | refine KO.nil ?_ | ((first | apply KO.val rfl rfl rfl ?kq ?_); (case kq => ((first | apply qt_ev rfl ?hi ); (case hi => (intro h; (repeat' (first | with_reducible exact alln | with_reducible refine allc ?_ ?_ )); all_goals (first | with_reducible rfl )))))) | fail)
  refine KO.callF ((bn, cl (cs.set on (.int .i64 (stepN md x name X 2).2.2)) t) :: s) [] (by classical exact List.perm_iff_count.2 (fun _ => by first | (simp only [List.count_append, List.count_cons, List.count_nil, List.append_assoc, List.cons_append, List.nil_append]; done) )) rfl rfl rfl rfl rfl rfl rfl (number_p _ bf bn _ t (on + 1) what name _ _ s hs (by omega) Y 2 (by rw [List.getElem?_set_ne (by omega)]; exact hy)) ?_
  rintro _ _ ⟨s, hs, rfl⟩
  repeat' (first | refine KO.nil ?_ | fail)
  refine At.end0 ⟨_ :: s, by rw [List.append_nil]; exact List.Perm.refl _, s, hs, rfl⟩
end Go.Proofs.YtnaclkdjchnbpaaDoor

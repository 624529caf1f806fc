/- Errors: the things that were done (Trail), and the numbers (Codes). -/
import Derived.Test.YtnaclkdjchnbpaaDoorE1
namespace Go.Proofs.YtnaclkdjchnbpaaDoor
open Go Go.K

def ErrT.opOf : ErrT → Option ByteArray
  | .fault _ op _ => some op
  | _ => none
def ErrT.codeOf : ErrT → Option Int
  | .code e => some e
  | _ => none
def sv (l : List ByteArray) : List Value := l.map Value.string
def iv (l : List Int) : List Value := l.map (Value.int .i64)
theorem sv_len (l : List ByteArray) : (sv l).length = l.length := by simp [sv]
theorem iv_len (l : List Int) : (iv l).length = l.length := by simp [iv]
theorem sv_append (a b : List ByteArray) : sv (a ++ b) = sv a ++ sv b := by simp [sv]
theorem iv_append (a b : List Int) : iv (a ++ b) = iv a ++ iv b := by simp [iv]
/-- The first 32 things that were done. -/
def ops32 (l : List ErrT) : List ByteArray := (l.filterMap ErrT.opOf).take 32
def codes (l : List ErrT) : List Int := l.filterMap ErrT.codeOf
theorem ops32_none {l : List ErrT} {e : ErrT} (h : e.opOf = none) : ops32 (l ++ [e]) = ops32 l := by simp [ops32, h]
theorem ops32_some {l : List ErrT} {e : ErrT} {s : ByteArray} (h : e.opOf = some s) (hl : (ops32 l).length < 32) : ops32 (l ++ [e]) = ops32 l ++ [s] := by
  have h1 : (l.filterMap ErrT.opOf).length < 32 := by
    unfold ops32 at hl; rw [List.length_take] at hl; omega
  unfold ops32
  rw [List.filterMap_append, List.take_of_length_le (by simp [h]; omega), List.take_of_length_le (by omega)]
  simp [h]
theorem ops32_full {l : List ErrT} (e : ErrT) (hl : ¬ (ops32 l).length < 32) : ops32 (l ++ [e]) = ops32 l := by
  have h1 : 32 ≤ (l.filterMap ErrT.opOf).length := by
    unfold ops32 at hl; rw [List.length_take] at hl; omega
  unfold ops32
  rw [List.filterMap_append, List.take_append_of_le_length h1]
theorem ops32_le (l : List ErrT) : (ops32 l).length ≤ 32 := by unfold ops32; rw [List.length_take]; omega
theorem codes_none {l : List ErrT} {e : ErrT} (h : e.codeOf = none) : codes (l ++ [e]) = codes l := by simp [codes, h]
theorem codes_some {l : List ErrT} {e : ErrT} {s : Int} (h : e.codeOf = some s) : codes (l ++ [e]) = codes l ++ [s] := by simp [codes, h]
def PT (bo : Nat) (l : List ErrT) (σ : Heap) : Prop := ∃ z φ, Vec 9 1 (ops32 l).length (sv (ops32 l)) z φ ∧ σ = (bo, cl [z] 92) :: φ
theorem TrailS_p (β : Nat → Option Obj) (bo : Nat) (l : List ErrT) (σ : Heap) (e : ErrT) (hP : PT bo l σ) (he : e.Lies β []) :
    Go.K.Tr Tryd.prog 60 [e.val, .pointer (some ⟨bo, 0, none⟩)] β σ (fun v σ' => v = .tuple #[] ∧ PT bo (l ++ [e]) σ') := by
  obtain ⟨z, φ, hz, rfl⟩ := hP
  obtain ⟨p, c, rfl⟩ := hz.len
  have hle := ops32_le l
  match e, he with
  | .fault b op t, he =>
    show Go.K.Tr Tryd.prog 60 [.iface 100 (.pointer (some ⟨b, 0, none⟩)), .pointer (some ⟨bo, 0, none⟩)] β _ _
    refine Tr.sub ?_
    refine Tr.of_body Tryd.tt (args := [.iface 100 (.pointer (some ⟨b, 0, none⟩)), .pointer (some ⟨bo, 0, none⟩)]) (fr := [(0, true, .iface 100 (.pointer (some ⟨b, 0, none⟩))), (1, true, .pointer (some ⟨bo, 0, none⟩))]) Tryd.func60 rfl (by decide) rfl Tryd.ntmps60 rfl rfl ?_
    intro E hE
    subst hE
    repeat' (first | refine KW.seq ?_ | refine KW.region ?_ | refine KO.nil ?_ | refine At.then_normal ?_ | refine KW.skip ?_ | refine KW.drawM (id := 2) [0, 0, 0, 0, 0, 2] [] (by decide +kernel) rfl rfl rfl ?_ | refine KDH.mid2 ?_ | refine KDH.done ?_ | refine KDM.head0 ?_ | refine KDM.fin ?_ | ((first | refine KDM.eo2f rfl rfl rfl (eo_buildSlice rfl rfl rfl rfl rfl rfl rfl rfl rfl rfl rfl) ?_ ); rintro _ _ ⟨_, _, rfl, rfl⟩; refine ⟨?sub, ?_⟩; (case sub => (intro _ hp; first | (repeat (first | exact hp | apply List.mem_cons_of_mem )) ))) | ((first | apply KO.val rfl rfl rfl ?kq ?_ | apply KDH.val0 rfl rfl rfl ?kq ?_ ); (try (case ksub => (intro _ hp; first | exact hp | (cases hp; done) | (repeat (first | exact hp | apply List.mem_cons_of_mem | apply List.mem_append_right)) | (simp_all; done)))); (case kq => ((first | apply qt_ev rfl ?hi | ((first | apply qt_load1 rfl rfl ?hi rfl rfl ?hm ?hc ); (case hm => repeat (first | exact List.Mem.head _ )); (case hc => rfl)) | refine qt_ta rfl rfl ?hi (taF1 _ _) | apply qt_pick_t rfl rfl (by first | with_reducible rfl ) rfl ?hi ); (case hi => (intro h; (repeat' (first | with_reducible exact alln | with_reducible refine allc ?_ ?_ | with_reducible refine andi ?_ ?_)); all_goals (first | with_reducible rfl )))))) | (refine KW.cond rfl ?_ ?_ <;> (intro hc; try simp only [kBool] at hc)) | ((first | apply KDH.val0 (g := true) rfl rfl rfl ); (first | (apply qt_load1_cel rfl rfl ?hi rfl rfl ?hc; (case hc => first | exact fun _ => (he.1.mono (fun _ hq => by cases hq))))); (case hi => (first | exact fun _ => rfl ))) | fail)
    · rename_i bS _
      have hlt : (ops32 l).length < 32 := by omega
      refine KO.appendF (k := 1) (news := [.string op]) ((bS, cl [.string op] 9) :: (bo, cl [.slice p (ops32 l).length c] 92) :: []) φ (by classical exact List.perm_iff_count.2 (fun _ => by first | (simp only [List.count_append, List.count_cons, List.count_nil, List.append_assoc, List.cons_append, List.nil_append]; done) )) rfl rfl rfl rfl rfl rfl rfl rfl rfl rfl (by decide) hz rfl (fun j u hj => .inl ⟨_, _, List.Mem.head _, by simpa using hj⟩) rfl (by simp only [maxLen]; omega) (by omega) ?_
      intro v' φ' hv'
      obtain ⟨pw', cw', rfl⟩ := hv'.len
      repeat' (first | refine KO.nil ?_ | (apply KO.store (i := _) rfl rfl rfl rfl rfl rfl rfl rfl ?hl ?sg ?hw ?ho ?hs; (case sg => first | exact (rfl : getI 1 _ = _) ); (case hl => rfl); (case hw => rfl); (case ho => rfl); (case hs => rfl)) | fail)
      ((first | apply At.done_normal); (focus (repeat' (first | exact ResVs.nil' ))); dsimp only [resVal])
      refine ⟨_, List.Sublist.cons _ (List.Sublist.refl _), rfl, ?_⟩
      unfold PT
      rw [ops32_some (e := .fault b op t) rfl hlt, sv_append, List.length_append]
      exact ⟨_, φ', hv', rfl⟩
    · ((first | apply At.done_normal); (focus (repeat' (first | exact ResVs.nil' ))); dsimp only [resVal])
      refine ⟨_, List.Sublist.refl _, rfl, ?_⟩
      unfold PT
      rw [ops32_full _ (by omega)]
      exact ⟨_, φ, hz, rfl⟩
  | .pair b t r, he =>
    show Go.K.Tr Tryd.prog 60 [.iface 141 (.pointer (some ⟨b, 0, none⟩)), .pointer (some ⟨bo, 0, none⟩)] β _ _
    refine Tr.of_body Tryd.tt (args := [.iface 141 (.pointer (some ⟨b, 0, none⟩)), .pointer (some ⟨bo, 0, none⟩)]) (fr := [(0, true, .iface 141 (.pointer (some ⟨b, 0, none⟩))), (1, true, .pointer (some ⟨bo, 0, none⟩))]) Tryd.func60 rfl (by decide) rfl Tryd.ntmps60 rfl rfl ?_
    intro E hE
    subst hE
    repeat' (first | refine KW.seq ?_ | refine KW.region ?_ | refine KO.nil ?_ | refine At.then_normal ?_ | refine KW.skip ?_ | refine KW.cond_f rfl (by first | with_reducible rfl ) ?_ | refine KO.skip' rfl (by first | with_reducible rfl ) rfl rfl ?_ | ((first | apply KO.val rfl rfl rfl ?kq ?_ ); (try (case ksub => (intro _ hp; first | exact hp | (cases hp; done) | (repeat (first | exact hp | apply List.mem_cons_of_mem | apply List.mem_append_right)) | (simp_all; done)))); (case kq => ((first | apply qt_ev rfl ?hi | (refine qt_ta rfl rfl ?hi (taF0 ?hT _ _); (case hT => decide)) | apply qt_pick_f rfl rfl (by first | with_reducible rfl ) rfl ?hi ); (case hi => (intro h; (repeat' (first | with_reducible exact alln | with_reducible refine allc ?_ ?_ | with_reducible refine andi ?_ ?_)); all_goals (first | with_reducible rfl )))))) | fail)
    ((first | apply At.done_normal); (focus (repeat' (first | exact ResVs.nil' ))); dsimp only [resVal])
    exact ⟨rfl, by unfold PT; rw [ops32_none (e := .pair b t r) rfl]; exact ⟨_, φ, hz, rfl⟩⟩
  | .code e, he =>
    show Go.K.Tr Tryd.prog 60 [.iface 32 (.int .i64 e), .pointer (some ⟨bo, 0, none⟩)] β _ _
    refine Tr.of_body Tryd.tt (args := [.iface 32 (.int .i64 e), .pointer (some ⟨bo, 0, none⟩)]) (fr := [(0, true, .iface 32 (.int .i64 e)), (1, true, .pointer (some ⟨bo, 0, none⟩))]) Tryd.func60 rfl (by decide) rfl Tryd.ntmps60 rfl rfl ?_
    intro E hE
    subst hE
    repeat' (first | refine KW.seq ?_ | refine KW.region ?_ | refine KO.nil ?_ | refine At.then_normal ?_ | refine KW.skip ?_ | refine KW.cond_f rfl (by first | with_reducible rfl ) ?_ | refine KO.skip' rfl (by first | with_reducible rfl ) rfl rfl ?_ | ((first | apply KO.val rfl rfl rfl ?kq ?_ ); (try (case ksub => (intro _ hp; first | exact hp | (cases hp; done) | (repeat (first | exact hp | apply List.mem_cons_of_mem | apply List.mem_append_right)) | (simp_all; done)))); (case kq => ((first | apply qt_ev rfl ?hi | (refine qt_ta rfl rfl ?hi (taF0 ?hT _ _); (case hT => decide)) | apply qt_pick_f rfl rfl (by first | with_reducible rfl ) rfl ?hi ); (case hi => (intro h; (repeat' (first | with_reducible exact alln | with_reducible refine allc ?_ ?_ | with_reducible refine andi ?_ ?_)); all_goals (first | with_reducible rfl )))))) | fail)
    ((first | apply At.done_normal); (focus (repeat' (first | exact ResVs.nil' ))); dsimp only [resVal])
    exact ⟨rfl, by unfold PT; rw [ops32_none (e := .code e) rfl]; exact ⟨_, φ, hz, rfl⟩⟩
def ErrT.trail (t : ErrT) : List ByteArray := ops32 t.pre
def ErrT.codes (t : ErrT) : List Int := Go.Proofs.YtnaclkdjchnbpaaDoor.codes t.pre
theorem Trail_p (β : Nat → Option Obj) (t : ErrT) (ht : t.Lies β []) : Go.K.Tr Tryd.prog 37 [t.val] β [] (fun z σ => Vec 9 1 t.trail.length (sv t.trail) z σ) := by
  refine Tr.sub ?_
  refine Tr.of_body Tryd.tt (args := [t.val]) (fr := [(0, true, t.val)]) Tryd.func37 rfl (by decide) rfl Tryd.ntmps37 rfl rfl ?_
  intro E hE
  subst hE
  repeat' (first | refine KW.seq ?_ | refine KW.region ?_ | refine KO.nil ?_ | ((first | apply KO.val rfl rfl rfl ?kq ?_); (case kq => ((first | apply qt_ev rfl ?hi ); (case hi => (intro h; (repeat' (first | with_reducible exact alln | with_reducible refine allc ?_ ?_ )); all_goals (first | with_reducible rfl | (simp [h]; done) )))))) | (refine KO.alloc rfl rfl rfl rfl rfl rfl ?_; intro _ _) | fail)
  rename_i bo _
  refine KO.callF [(bo, cl [.slice none 0 0] 92)] [] (by simp) rfl rfl rfl rfl rfl rfl rfl (walk_p E.β 60 bo t.pre.length (PT bo) (fun l σ e hl hP he => TrailS_p _ bo l σ e hP he) t ht [] _ (by simp) ⟨_, [], Vec.nil _ 1, rfl⟩) ?_
  rintro _ σ1 ⟨rfl, h1⟩
  rw [List.append_nil]
  obtain ⟨z, φ, hz, rfl⟩ := h1
  rw [List.nil_append] at hz
  obtain ⟨p, c, rfl⟩ := hz.len
  repeat' (first | refine KW.seq ?_ | refine KW.region ?_ | refine KO.nil ?_ | refine At.then_normal ?_ | refine KW.ret ?_ | ((first | apply KO.val rfl rfl rfl ?kq ?_); (case kq => ((first | apply qt_ev rfl ?hi | ((first | apply qt_load1 rfl rfl ?hi rfl rfl ?hm ?hc ); (case hm => repeat (first | exact List.Mem.head _ )); (case hc => rfl)) ); (case hi => (intro h; (repeat' (first | with_reducible exact alln | with_reducible refine allc ?_ ?_ )); all_goals (first | with_reducible rfl )))))) | fail)
  ((first | apply At.done_ret ); (focus (repeat' (first | exact ResVs.nil' | apply ResVs.cons' | exact ResV.tmp' rfl ))); dsimp only [resVal])
  exact ⟨φ, List.sublist_cons_self _ _, hz⟩
end Go.Proofs.YtnaclkdjchnbpaaDoor

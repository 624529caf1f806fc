/- msg.form: moves put. -/
import Derived.Test.YtnaclkdjchnbpaaDoorP1
namespace Go.Proofs.YtnaclkdjchnbpaaDoor
open Go Go.K

theorem note_some (y : ByteArray × Int) (n : ByteArray) (e : Int) : note (some y) n e = some y := rfl
set_option maxHeartbeats 8000000 in
theorem movesP_p (β : Nat → Option Obj) (bf bn : Nat) (cs : List Value) (t : TypeId) (on : Nat) (what name : ByteArray) (z : List Nat × Flt) (σ : Heap) (hf : FormP β bf what z σ) (ms : List Nat) (p : Option Addr) (n c : Nat) (hn : ms.length = n) (hB : Byt ms) (hp : SL β [] 1 n (by8 ms) p) (hm : z.1.length + n ≤ 900000) (hx : cs[on]? = some (.slice p n c)) :
    Go.K.Tr Tryd.prog 72 [.pointer (some ⟨bf, 0, none⟩), .string name, .pointer (some ⟨bn, on, none⟩)] β ((bn, cl cs t) :: σ) (fun _ σ' => ∃ τ, FormP β bf what (movF z name ms) τ ∧ σ' = (bn, cl cs t) :: τ) := by
  refine Tr.sub ?_
  obtain ⟨wv, rv, dv, ev, φ, ε, hF, hE0, rfl⟩ := hf
  have hF0 := hF
  obtain ⟨rfl, hv, rfl⟩ := hF
  refine Tr.of_body Tryd.tt (args := [.pointer (some ⟨bf, 0, none⟩), .string name, .pointer (some ⟨bn, on, none⟩)]) (fr := [(0, true, .pointer (some ⟨bf, 0, none⟩)), (1, true, .string name), (2, true, .pointer (some ⟨bn, on, none⟩))]) Tryd.func72 rfl (by decide) rfl Tryd.ntmps72 rfl rfl ?_
  intro E hE
  subst hE
  obtain ⟨dv, hdv⟩ : ∃ dv, dv = Value.func (.func (Md.put z.1).fn) #[.pointer (some ⟨bf, 0, none⟩)] #[] := ⟨_, rfl⟩
  rw [← hdv] at hF0 ⊢
  have kx : ∀ σ', (bn, cl cs t) ∈ σ' → Cel E.β σ' bn on (.slice p n c) := fun σ' h => .inl ⟨cs, t, h, hx⟩
  have kf4 : ∀ σ' ev, (bf, cl [.string what, wv, .pointer none, dv, ev] 80) ∈ σ' → Cel E.β σ' bf 4 ev := fun σ' ev h => .inl ⟨_, _, h, rfl⟩
  have hn64 : I64 (n : Int) := by unfold I64; omega
  have hu64 : u64 (n : Int) = n := u64_of (by omega)
  by_cases hbig : 65535 < n
  · have htr := trivial
    repeat' (first | refine KW.seq ?_ | refine KW.region ?_ | refine KO.nil ?_ | refine At.then_normal ?_ | refine KW.skip ?_ | ((first | apply KO.val rfl rfl rfl ?kq ?_ ); (try (case ksub => (intro _ hp; first | exact hp | (cases hp; done) | (repeat (first | exact hp | apply List.mem_cons_of_mem | apply List.mem_append_right)) | (simp_all; done)))); (case kq => ((first | apply qt_ev rfl ?hi | ((first | apply qt_load1 rfl rfl ?hi rfl rfl ?hm ?hc ); (case hm => repeat (first | exact List.Mem.head _ | apply List.Mem.tail _ )); (case hc => rfl)) | apply qt_pick_t rfl rfl (by first | decide) rfl ?hi | apply qt_eqs rfl rfl rfl ?hi rfl (Or.inl rfl) ); (case hi => (intro h; (repeat' (first | with_reducible exact alln | with_reducible refine allc ?_ ?_ | with_reducible refine andi ?_ ?_)); all_goals (first | with_reducible rfl | with_reducible exact h | (simp [h]; done) )))))) | (refine KO.alloc rfl rfl rfl rfl rfl rfl ?_; intro _ _) | (apply KO.store (i := _) rfl rfl rfl rfl rfl rfl rfl rfl ?hl ?sg ?hw ?ho ?hs; (case sg => first | exact (rfl : getI 0 _ = _) ); (case hl => rfl); (case hw => rfl); (case ho => rfl); (case hs => rfl)) | (refine KW.cond rfl ?_ ?_ <;> (intro hc; try simp only [kBool] at hc)) | ((first | apply KO.val (g := true) rfl rfl rfl ); (first | (apply qt_load1_cel rfl rfl ?hi rfl rfl ?hc; (case hc => first | exact fun _ => (kx _ (by simp))))); (case hi => (first | exact fun _ => rfl ))) | (exfalso; omega) | fail)
    rename_i b6 _
    refine KO.callF ((bf, cl [.string what, wv, .pointer none, dv, ev] 80) :: (ε ++ φ)) [(b6, cl [.int .i64 (n : Int)] 3), (bn, cl cs t)] (by classical exact List.perm_iff_count.2 (fun _ => by first | (simp only [List.count_append, List.count_cons, List.count_nil, List.append_assoc, List.cons_append, List.nil_append]; omega))) rfl rfl rfl rfl rfl rfl rfl (wrong_p _ bf name what 12 wv (.pointer none) dv ev z.2 ε φ hE0) ?_
    rintro _ _ ⟨ev1, ε1, hE1, rfl⟩
    obtain ⟨y, hy⟩ : ∃ y, note z.2 name 12 = some y := by
      rcases z.2 with _ | y
      · exact ⟨(name, 12), rfl⟩
      · exact ⟨y, rfl⟩
    rw [hy] at hE1
    have hf1 : FormP E.β bf what (z.1, some y) ((bf, cl [.string what, wv, .pointer none, dv, ev1] 80) :: (ε1 ++ φ)) := ⟨_, _, _, _, _, _, hF0, hE1, rfl⟩
    repeat' (first | refine KW.seq ?_ | refine KW.region ?_ | refine KO.nil ?_ | ((first | apply KO.val rfl rfl rfl ?kq ?_ ); (try (case ksub => (intro _ hp; first | exact hp | (cases hp; done) | (repeat (first | exact hp | apply List.mem_cons_of_mem | apply List.mem_append_right)) | (simp_all; done)))); (case kq => ((first | apply qt_ev rfl ?hi ); (case hi => (intro h; (repeat' (first | with_reducible exact alln | with_reducible refine allc ?_ ?_ )); all_goals (first | with_reducible rfl )))))) | fail)
    refine KO.callF ((b6, cl [.int .i64 (n : Int)] 3) :: ((bf, cl [.string what, wv, .pointer none, dv, ev1] 80) :: (ε1 ++ φ))) [(bn, cl cs t)] (by classical exact List.perm_iff_count.2 (fun _ => by first | (simp only [List.count_append, List.count_cons, List.count_nil, List.append_assoc, List.cons_append, List.nil_append]; omega))) rfl rfl rfl rfl rfl rfl rfl (numberP_p _ bf b6 [.int .i64 (n : Int)] 3 0 what name (z.1, some y) _ hf1 (by dsimp only; omega) 4 (by omega) (by omega) hn64 rfl) ?_
    rintro _ _ ⟨τ, hτ, rfl⟩
    have hτ2 : FormP E.β bf what (z.1, some y) τ := hτ
    have hτ3 := hτ2
    obtain ⟨wv2, rv2, dv2, ev2, φ2, ε2, hF2, hE2, rfl⟩ := hτ2
    obtain ⟨b, c2, rfl, rfl⟩ := hE2
    obtain ⟨rfl, hv2, rfl⟩ := hF2
    have hmov : movF z name ms = (z.1, some y) := by
      unfold movF
      rw [hn, if_pos hbig, hy]
      rfl
    refine KO.perm (σ' := (b6, cl [.int .i64 (n : Int)] 3) :: (bn, cl cs t) :: ((bf, cl [.string what, wv2, .pointer none, .func (.func (Md.put z.1).fn) #[.pointer (some ⟨bf, 0, none⟩)] #[], .iface 100 (.pointer (some ⟨b, 0, none⟩))] 80) :: ([(b, cl [.string what, .iface 100 (.pointer (some ⟨c2, 0, none⟩))] 108), (c2, cl [.string y.1, .iface 32 (.int .i64 y.2)] 108)] ++ φ2))) (by classical exact List.perm_iff_count.2 (fun _ => by first | (simp only [List.count_append, List.count_cons, List.count_nil, List.append_assoc, List.cons_append, List.nil_append]; omega))) ?_
    repeat' (first | refine KW.seq ?_ | refine KW.region ?_ | refine KO.nil ?_ | refine At.then_normal ?_ | refine KW.skip ?_ | refine KW.ret ?_ | refine At.then_ret ?_ | refine KW.cond_t rfl (by first | decide) ?_ | ((first | apply KO.val rfl rfl rfl ?kq ?_ ); (try (case ksub => (intro _ hp; first | exact hp | (cases hp; done) | (repeat (first | exact hp | apply List.mem_cons_of_mem | apply List.mem_append_right)) | (simp_all; done)))); (case kq => ((first | apply qt_ev rfl ?hi | ((first | apply qt_load1 rfl rfl ?hi rfl rfl ?hm ?hc ); (case hm => repeat (first | exact List.Mem.head _ | apply List.Mem.tail _ )); (case hc => rfl)) | apply qt_nes rfl rfl rfl ?hi rfl (Or.inl rfl) ); (case hi => (intro h; (repeat' (first | with_reducible exact alln | with_reducible refine allc ?_ ?_ | with_reducible refine andi ?_ ?_)); all_goals (first | with_reducible rfl )))))) | (refine KW.cond rfl ?_ ?_ <;> (intro hc; try simp only [kBool] at hc)) | (exfalso; omega) | fail)
    refine KO.callF ((bf, cl [.string what, wv2, .pointer none, (.func (.func (Md.put z.1).fn) #[.pointer (some ⟨bf, 0, none⟩)] #[]), .iface 100 (.pointer (some ⟨b, 0, none⟩))] 80) :: ([(b, cl [.string what, .iface 100 (.pointer (some ⟨c2, 0, none⟩))] 108), (c2, cl [.string y.1, .iface 32 (.int .i64 y.2)] 108)] ++ φ2)) [(b6, cl [.int .i64 (n : Int)] 3), (bn, cl cs t)] (by classical exact List.perm_iff_count.2 (fun _ => by first | (simp only [List.count_append, List.count_cons, List.count_nil, List.append_assoc, List.cons_append, List.nil_append]; omega))) rfl rfl rfl rfl rfl rfl rfl (wrong_p _ bf name what 12 wv2 (.pointer none) _ _ (some y) _ φ2 ⟨b, c2, rfl, rfl⟩) ?_
    rintro _ _ ⟨ev3, ε3, hE3, rfl⟩
    obtain ⟨b', c', rfl, rfl⟩ := hE3
    refine KO.permS (σ' := (bn, cl cs t) :: ((bf, cl [.string what, wv2, .pointer none, (.func (.func (Md.put z.1).fn) #[.pointer (some ⟨bf, 0, none⟩)] #[]), .iface 100 (.pointer (some ⟨b', 0, none⟩))] 80) :: ([(b', cl [.string what, .iface 100 (.pointer (some ⟨c', 0, none⟩))] 108), (c', cl [.string y.1, .iface 32 (.int .i64 y.2)] 108)] ++ φ2))) (φ := [(b6, cl [.int .i64 (n : Int)] 3)]) (by classical exact List.perm_iff_count.2 (fun _ => by first | (simp only [List.count_append, List.count_cons, List.count_nil, List.append_assoc, List.cons_append, List.nil_append]; omega))) ?_
    repeat' (first | refine KW.seq ?_ | refine KW.region ?_ | refine KO.nil ?_ | refine At.then_normal ?_ | refine KW.ret ?_ | refine At.then_ret ?_ | refine KW.cond_t rfl (by first | decide) ?_ | ((first | apply KO.val rfl rfl rfl ?kq ?_ ); (try (case ksub => (intro _ hp; first | exact hp | (cases hp; done) | (repeat (first | exact hp | apply List.mem_cons_of_mem | apply List.mem_append_right)) | (simp_all; done)))); (case kq => ((first | apply qt_ev rfl ?hi | ((first | apply qt_load1 rfl rfl ?hi rfl rfl ?hm ?hc ); (case hm => repeat (first | exact List.Mem.head _ | apply List.Mem.tail _ )); (case hc => rfl)) | apply qt_nes rfl rfl rfl ?hi rfl (Or.inl rfl) ); (case hi => (intro h; (repeat' (first | with_reducible exact alln | with_reducible refine allc ?_ ?_ | with_reducible refine andi ?_ ?_)); all_goals (first | with_reducible rfl )))))) | fail)
    refine At.done_ret [] trivial ⟨_, List.Sublist.refl _, _, ?_, rfl⟩
    rw [hmov]
    exact ⟨_, _, _, _, _, _, ⟨rfl, hv2, rfl⟩, ⟨b', c', rfl, rfl⟩, rfl⟩
  · have htr := trivial
    repeat' (first | refine KW.seq ?_ | refine KW.region ?_ | refine KO.nil ?_ | refine At.then_normal ?_ | refine KW.skip ?_ | ((first | apply KO.val rfl rfl rfl ?kq ?_ ); (try (case ksub => (intro _ hp; first | exact hp | (cases hp; done) | (repeat (first | exact hp | apply List.mem_cons_of_mem | apply List.mem_append_right)) | (simp_all; done)))); (case kq => ((first | apply qt_ev rfl ?hi | ((first | apply qt_load1 rfl rfl ?hi rfl rfl ?hm ?hc ); (case hm => repeat (first | exact List.Mem.head _ | apply List.Mem.tail _ )); (case hc => rfl)) | apply qt_pick_t rfl rfl (by first | decide) rfl ?hi | apply qt_eqs rfl rfl rfl ?hi rfl (Or.inl rfl) ); (case hi => (intro h; (repeat' (first | with_reducible exact alln | with_reducible refine allc ?_ ?_ | with_reducible refine andi ?_ ?_)); all_goals (first | with_reducible rfl | with_reducible exact h | (simp [h]; done) )))))) | (refine KO.alloc rfl rfl rfl rfl rfl rfl ?_; intro _ _) | (apply KO.store (i := _) rfl rfl rfl rfl rfl rfl rfl rfl ?hl ?sg ?hw ?ho ?hs; (case sg => first | exact (rfl : getI 0 _ = _) ); (case hl => rfl); (case hw => rfl); (case ho => rfl); (case hs => rfl)) | (refine KW.cond rfl ?_ ?_ <;> (intro hc; try simp only [kBool] at hc)) | ((first | apply KO.val (g := true) rfl rfl rfl ); (first | (apply qt_load1_cel rfl rfl ?hi rfl rfl ?hc; (case hc => first | exact fun _ => (kx _ (by simp))))); (case hi => (first | exact fun _ => rfl ))) | (exfalso; omega) | fail)
    rename_i b6 _
    have hf0 : FormP E.β bf what z ((bf, cl [.string what, wv, .pointer none, dv, ev] 80) :: (ε ++ φ)) := ⟨_, _, _, _, _, _, hF0, hE0, rfl⟩
    refine KO.callF ((b6, cl [.int .i64 (n : Int)] 3) :: ((bf, cl [.string what, wv, .pointer none, dv, ev] 80) :: (ε ++ φ))) [(bn, cl cs t)] (by classical exact List.perm_iff_count.2 (fun _ => by first | (simp only [List.count_append, List.count_cons, List.count_nil, List.append_assoc, List.cons_append, List.nil_append]; omega))) rfl rfl rfl rfl rfl rfl rfl (numberP_p _ bf b6 [.int .i64 (n : Int)] 3 0 what name z _ hf0 (by omega) 4 (by omega) (by omega) hn64 rfl) ?_
    rintro _ _ ⟨τ, hτ, rfl⟩
    rw [hu64] at hτ
    have hq := putF1_len z (name, 4, n)
    have hmov : movF z name ms = (match (putF1 z (name, 4, n)).2 with
        | some _ => putF1 z (name, 4, n)
        | none => if ms.all (fun m => decide (m ≤ 3)) then ((putF1 z (name, 4, n)).1 ++ ms, none) else ((putF1 z (name, 4, n)).1 ++ ms.takeWhile (fun m => decide (m ≤ 3)), some (name, 10))) := by
      unfold movF
      rw [hn, if_neg hbig]; rfl
    rcases hQ : putF1 z (name, 4, n) with ⟨o, x⟩
    rw [hQ] at hτ hq hmov
    dsimp only at hq hmov
    obtain ⟨wv2, rv2, dv2, ev2, φ2, ε2, hF2, hE2, rfl⟩ := hτ
    have hF3 := hF2
    obtain ⟨rfl, hv2, rfl⟩ := hF2
    rcases x with _ | y
    · obtain ⟨rfl, rfl⟩ := hE2
      dsimp only at hmov
      have htr := trivial
      refine KO.perm (σ' := (b6, cl [.int .i64 (n : Int)] 3) :: (bn, cl cs t) :: (bf, cl [.string what, wv2, .pointer none, (.func (.func (Md.put o).fn) #[.pointer (some ⟨bf, 0, none⟩)] #[]), .nilIface] 80) :: φ2) (by classical exact List.perm_iff_count.2 (fun _ => by first | (simp only [List.count_append, List.count_cons, List.count_nil, List.append_assoc, List.cons_append, List.nil_append]; omega))) ?_
      repeat' (first | refine KW.seq ?_ | refine KW.region ?_ | refine KO.nil ?_ | refine At.then_normal ?_ | refine KW.skip ?_ | refine KW.block ?_ | refine KW.cond_f rfl (by first | decide) ?_ | ((first | apply KO.val rfl rfl rfl ?kq ?_ ); (try (case ksub => (intro _ hp; first | exact hp | (cases hp; done) | (repeat (first | exact hp | apply List.mem_cons_of_mem | apply List.mem_append_right)) | (simp_all; done)))); (case kq => ((first | apply qt_ev rfl ?hi | ((first | apply qt_load1 rfl rfl ?hi rfl rfl ?hm ?hc ); (case hm => repeat (first | exact List.Mem.head _ | apply List.Mem.tail _ )); (case hc => rfl)) | apply qt_nes rfl rfl rfl ?hi rfl (Or.inl rfl) | apply qt_nes rfl rfl rfl ?hi rfl (Or.inr ⟨rfl, rfl, rfl⟩)); (case hi => (intro h; (repeat' (first | with_reducible exact alln | with_reducible refine allc ?_ ?_ | with_reducible refine andi ?_ ?_)); all_goals (first | with_reducible rfl )))))) | (refine KW.cond rfl ?_ ?_ <;> (intro hc; try simp only [kBool] at hc)) | ((first | apply KO.val (g := true) rfl rfl rfl ); (first | (apply qt_load1_cel rfl rfl ?hi rfl rfl ?hc; (case hc => first | exact fun _ => (kx _ (by simp))))); (case hi => (first | exact fun _ => rfl ))) | (exfalso; omega) | fail)
      refine KW.loop (fun s : S20 => s.k ≤ n ∧ (ms.take s.k).all (fun m => decide (m ≤ 3)) = true ∧ Vec 5 1 (o.length + s.k) (by8 (o ++ ms.take s.k)) s.v s.φ) (fun s => ([(73, true, .int .i64 (s.k : Int)), (72, true, .int .i64 (n : Int)), (71, true, .slice p n c), (0, true, .pointer (some ⟨bf, 0, none⟩)), (1, true, .string name), (2, true, .pointer (some ⟨bn, on, none⟩))], (bn, cl cs t) :: (bf, cl [.string what, s.v, .pointer none, (.func (.func (Md.put o).fn) #[.pointer (some ⟨bf, 0, none⟩)] #[]), .nilIface] 80) :: s.φ)) (fun s => n - s.k) ⟨0, wv2, φ2⟩
        ⟨Nat.zero_le _, rfl, by simpa using hv2⟩ (Le.permS (φ := [(b6, cl [.int .i64 (n : Int)] 3)]) (by repeat' (first | exact FLe.nil _ | refine FLe.cons rfl rfl ?_)) (by classical exact List.perm_iff_count.2 (fun _ => by first | (simp only [List.count_append, List.count_cons, List.count_nil, List.append_assoc, List.cons_append, List.nil_append]; omega)))) ?_
      rintro ⟨k, u, φ3⟩ ⟨hk, hall, hu⟩
      dsimp only at hk hall hu ⊢
      by_cases hkn : k < n
      · obtain ⟨b1, o1, rfl, h1⟩ := hp.2 (by omega)
        obtain ⟨x, hxx⟩ : ∃ z, ms[k]? = some z := ⟨_, List.getElem?_eq_getElem (by omega)⟩
        have hx256 : x < 256 := hB x (List.mem_of_getElem? hxx)
        repeat' (first | refine KW.seq ?_ | refine KW.region ?_ | refine KO.nil ?_ | refine At.then_normal ?_ | refine KW.skip ?_ | refine KW.block ?_ | refine KW.exit ?_ | refine At.then_exit ?_ | refine At.block_here rfl ?_ | refine At.loop_exit ?_ | refine KW.cond_t rfl (by first | decide) ?_ | ((first | apply KO.val rfl rfl rfl ?kq ?_ ); (try (case ksub => (intro _ hp; first | exact hp | (cases hp; done) | (repeat (first | exact hp | apply List.mem_cons_of_mem | apply List.mem_append_right)) | (simp_all; done)))); (case kq => ((first | ((first | apply qt_convU rfl rfl rfl rfl ?hi ?om | apply qt_indexAddr_slice rfl rfl rfl ?hi rfl rfl ?om ); (case om => (intro hg; first | omega ))) | apply qt_ev rfl ?hi | ((first | apply qt_load1 rfl rfl ?hi rfl rfl ?hm ?hc ); (case hm => repeat (first | exact List.Mem.head _ | apply List.Mem.tail _ )); (case hc => rfl)) | apply qt_eqs rfl rfl rfl ?hi rfl (Or.inl rfl) ); (case hi => (intro h; (repeat' (first | with_reducible exact alln | with_reducible refine allc ?_ ?_ | with_reducible refine andi ?_ ?_)); all_goals (first | with_reducible rfl )))))) | (refine KW.cond rfl ?_ ?_ <;> (intro hc; try simp only [kBool] at hc)) | ((first | apply KO.val (g := true) rfl rfl rfl ); (first | (apply qt_load1_cel rfl rfl ?hi rfl rfl ?hc; (case hc => first | exact fun _ => ((cel8 h1 hxx).mono (fun _ h => by cases h))))); (case hi => (first | exact fun _ => rfl ))) | (exfalso; omega) | fail)
        · have htr := trivial
          have hx3 : 3 < x := by omega
          obtain ⟨hall2, htw⟩ := take_all hall hxx hx3
          refine KO.callF ((bf, cl [.string what, u, .pointer none, (.func (.func (Md.put o).fn) #[.pointer (some ⟨bf, 0, none⟩)] #[]), .nilIface] 80) :: ([] ++ [])) ((bn, cl cs t) :: φ3) (by classical exact List.perm_iff_count.2 (fun _ => by first | (simp only [List.count_append, List.count_cons, List.count_nil, List.append_assoc, List.cons_append, List.nil_append]; omega))) rfl rfl rfl rfl rfl rfl rfl (wrong_p _ bf name what 10 u (.pointer none) _ .nilIface none [] [] ⟨rfl, rfl⟩) ?_
          rintro _ _ ⟨ev3, ε3, hE3, rfl⟩
          rw [show note none name 10 = some (name, 10) by simp [note]] at hE3
          obtain ⟨b', c', rfl, rfl⟩ := hE3
          refine KO.perm (σ' := (bn, cl cs t) :: (bf, cl [.string what, u, .pointer none, (.func (.func (Md.put o).fn) #[.pointer (some ⟨bf, 0, none⟩)] #[]), .iface 100 (.pointer (some ⟨b', 0, none⟩))] 80) :: ([(b', cl [.string what, .iface 100 (.pointer (some ⟨c', 0, none⟩))] 108), (c', cl [.string name, .iface 32 (.int .i64 10)] 108)] ++ φ3)) (by classical exact List.perm_iff_count.2 (fun _ => by first | (simp only [List.count_append, List.count_cons, List.count_nil, List.append_assoc, List.cons_append, List.nil_append]; omega))) ?_
          repeat' (first | refine KO.nil ?_ | refine At.then_normal ?_ | refine KW.ret ?_ | refine At.then_ret ?_ | refine At.block_ret ?_ | refine At.loop_ret ?_ | fail)
          refine At.done_ret [] trivial ⟨_, List.Sublist.refl _, _, ?_, rfl⟩
          rw [hmov, hall2, if_neg Bool.false_ne_true, htw]
          refine ⟨_, _, _, _, φ3, _, ⟨rfl, ?_, rfl⟩, ⟨b', c', rfl, rfl⟩, rfl⟩
          dsimp only
          rw [List.length_append, List.length_take, Nat.min_eq_left (by omega)]
          exact hu
        · have htr := trivial
          have hx3 : x ≤ 3 := by omega
          obtain ⟨hpe, hpb⟩ := put1 hx256
          refine KO.callF ((bf, cl [.string what, u, .pointer none, (.func (.func (Md.put o).fn) #[.pointer (some ⟨bf, 0, none⟩)] #[]), .nilIface] 80) :: φ3) [(bn, cl cs t)] (by classical exact List.perm_iff_count.2 (fun _ => by first | (simp only [List.count_append, List.count_cons, List.count_nil, List.append_assoc, List.cons_append, List.nil_append]; omega))) rfl rfl rfl rfl rfl rfl rfl (PutF_p _ bf (o.length + k) _ _ _ _ u φ3 (o ++ ms.take k) (by rw [List.length_append, List.length_take, Nat.min_eq_left (by omega)]) hu (by omega) x 1 (by omega)) ?_
          rintro _ _ ⟨rfl, u', φ4, hu', rfl⟩
          rw [hpb] at hu'
          repeat' (first | refine KW.region ?_ | refine KO.nil ?_ | ((first | apply KO.val rfl rfl rfl ?kq ?_ ); (try (case ksub => (intro _ hp; first | exact hp | (cases hp; done) | (repeat (first | exact hp | apply List.mem_cons_of_mem | apply List.mem_append_right)) | (simp_all; done)))); (case kq => ((first | ((first | apply qt_add rfl rfl rfl ?hi ?om ); (case om => (intro hg; first | omega ))) | apply qt_ev rfl ?hi ); (case hi => (intro h; (repeat' (first | with_reducible exact alln | with_reducible refine allc ?_ ?_ | with_reducible refine andi ?_ ?_)); all_goals (first | with_reducible rfl )))))) | fail)
          refine At.loop_on ⟨k + 1, u', φ4⟩ ⟨by dsimp only; omega, ?_, ?_⟩ (by dsimp only; omega) (Le.perm (by repeat' (first | exact FLe.nil _ | refine FLe.cons rfl rfl ?_)) (by classical exact List.perm_iff_count.2 (fun _ => by first | (simp only [List.count_append, List.count_cons, List.count_nil, List.append_assoc, List.cons_append, List.nil_append]; omega))))
          · dsimp only
            rw [List.take_add_one, hxx, List.all_append, hall]
            simp [hx3]
          · dsimp only
            rw [List.take_add_one, hxx, ← List.append_assoc]
            exact hu'
      · have hkn2 : k = n := by omega
        repeat' (first | refine KW.seq ?_ | refine KW.region ?_ | refine KO.nil ?_ | refine KW.skip ?_ | refine KW.block ?_ | refine KW.exit ?_ | refine At.then_exit ?_ | refine At.block_here rfl ?_ | refine At.loop_exit ?_ | ((first | apply KO.val rfl rfl rfl ?kq ?_ ); (try (case ksub => (intro _ hp; first | exact hp | (cases hp; done) | (repeat (first | exact hp | apply List.mem_cons_of_mem | apply List.mem_append_right)) | (simp_all; done)))); (case kq => ((first | apply qt_ev rfl ?hi ); (case hi => (intro h; (repeat' (first | with_reducible exact alln | with_reducible refine allc ?_ ?_ )); all_goals (first | with_reducible rfl )))))) | (refine KW.cond rfl ?_ ?_ <;> (intro hc; try simp only [kBool] at hc)) | (exfalso; omega) | fail)
        · refine At.done_normal [] trivial ⟨_, List.Sublist.refl _, _, ?_, rfl⟩
          have hall2 : ms.all (fun m => decide (m ≤ 3)) = true := by rw [← hall, hkn2, ← hn, List.take_length]
          rw [hmov, hall2, if_pos rfl]
          refine ⟨_, _, _, _, φ3, [], ⟨rfl, ?_, rfl⟩, ⟨rfl, rfl⟩, rfl⟩
          dsimp only
          rw [hkn2, List.take_of_length_le (by omega)] at hu
          rw [List.length_append, hn]
          exact hu
    · obtain ⟨b, c2, rfl, rfl⟩ := hE2
      dsimp only at hmov
      have htr := trivial
      refine KO.perm (σ' := (b6, cl [.int .i64 (n : Int)] 3) :: (bn, cl cs t) :: ((bf, cl [.string what, wv2, .pointer none, (.func (.func (Md.put o).fn) #[.pointer (some ⟨bf, 0, none⟩)] #[]), .iface 100 (.pointer (some ⟨b, 0, none⟩))] 80) :: ([(b, cl [.string what, .iface 100 (.pointer (some ⟨c2, 0, none⟩))] 108), (c2, cl [.string y.1, .iface 32 (.int .i64 y.2)] 108)] ++ φ2))) (by classical exact List.perm_iff_count.2 (fun _ => by first | (simp only [List.count_append, List.count_cons, List.count_nil, List.append_assoc, List.cons_append, List.nil_append]; omega))) ?_
      repeat' (first | refine KW.seq ?_ | refine KW.region ?_ | refine KO.nil ?_ | refine At.then_normal ?_ | refine KW.skip ?_ | refine KW.ret ?_ | refine At.then_ret ?_ | refine KW.cond_t rfl (by first | decide) ?_ | ((first | apply KO.val rfl rfl rfl ?kq ?_ ); (try (case ksub => (intro _ hp; first | exact hp | (cases hp; done) | (repeat (first | exact hp | apply List.mem_cons_of_mem | apply List.mem_append_right)) | (simp_all; done)))); (case kq => ((first | apply qt_ev rfl ?hi | ((first | apply qt_load1 rfl rfl ?hi rfl rfl ?hm ?hc ); (case hm => repeat (first | exact List.Mem.head _ | apply List.Mem.tail _ )); (case hc => rfl)) | apply qt_nes rfl rfl rfl ?hi rfl (Or.inl rfl) ); (case hi => (intro h; (repeat' (first | with_reducible exact alln | with_reducible refine allc ?_ ?_ | with_reducible refine andi ?_ ?_)); all_goals (first | with_reducible rfl )))))) | (refine KW.cond rfl ?_ ?_ <;> (intro hc; try simp only [kBool] at hc)) | (exfalso; omega) | fail)
      refine At.done_ret [] trivial ⟨_, List.Sublist.cons _ (List.Sublist.refl _), _, ?_, rfl⟩
      rw [hmov]
      exact ⟨_, _, _, _, _, _, ⟨rfl, hv2, rfl⟩, ⟨b, c2, rfl, rfl⟩, rfl⟩
end Go.Proofs.YtnaclkdjchnbpaaDoor

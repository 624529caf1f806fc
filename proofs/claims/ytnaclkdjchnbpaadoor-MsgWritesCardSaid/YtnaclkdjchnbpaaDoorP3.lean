/- msg.form that puts: a response's body. -/
import Derived.Test.YtnaclkdjchnbpaaDoorP2
namespace Go.Proofs.YtnaclkdjchnbpaaDoor
open Go Go.K

def sAt : ByteArray := ⟨#[97, 116]⟩
def sNew : ByteArray := ⟨#[110, 101, 119]⟩
def sExpl : ByteArray := ⟨#[101, 120, 112, 108, 111, 114, 101, 100]⟩
def sVer : ByteArray := ⟨#[118, 101, 114, 115, 105, 111, 110]⟩
def sHit : ByteArray := ⟨#[104, 105, 116]⟩
def sCost : ByteArray := ⟨#[99, 111, 115, 116]⟩
def sSettled : ByteArray := ⟨#[115, 101, 116, 116, 108, 101, 100]⟩
def sLeft : ByteArray := ⟨#[108, 101, 102, 116]⟩
def sMoves : ByteArray := ⟨#[109, 111, 118, 101, 115]⟩
def sUnits : ByteArray := ⟨#[117, 110, 105, 116, 115]⟩
def sCache : ByteArray := ⟨#[99, 97, 99, 104, 101]⟩
def sSess : ByteArray := ⟨#[115, 101, 115, 115, 105, 111, 110, 115]⟩
/-- What a response may hold. -/
structure Rs.Ok (r : Rs) : Prop where
  st : I64 r.st
  op : I64 r.op
  tok : r.tok < 18446744073709551616
  unit : I64 r.unit
  ax : I64 r.ax
  ay : I64 r.ay
  new : I64 r.new
  expl : I64 r.expl
  ver : I64 r.ver
  cost : r.cost < 18446744073709551616
  settled : I64 r.settled
  left : I64 r.left
  units : I64 r.units
  cache : I64 r.cache
  sess : I64 r.sess
/-- A form that puts, of no more than so many bytes. -/
structure FormQ (β : Nat → Option Obj) (bf : Nat) (what : ByteArray) (z : List Nat × Flt) (B : Nat) (σ : Heap) : Prop where
  f : FormP β bf what z σ
  b : z.1.length ≤ B
theorem FormQ.cast {β : Nat → Option Obj} {bf : Nat} {what : ByteArray} {z z' : List Nat × Flt} {B B' : Nat} {σ : Heap} (h : FormQ β bf what z' B' σ) (e : z = z') (hB : B' ≤ B) : FormQ β bf what z B σ := ⟨e ▸ h.f, by have := h.b; rw [e]; omega⟩
theorem putF1_b {z : List Nat × Flt} {B : Nat} (h : z.1.length ≤ B) (f : ByteArray × Nat × Nat) (h8 : f.2.1 ≤ 8) : (putF1 z f).1.length ≤ B + 8 := by
  have := putF1_len z f
  omega
theorem movF_b (z : List Nat × Flt) (name : ByteArray) (ms : List Nat) {B : Nat} (h : z.1.length ≤ B) : (movF z name ms).1.length ≤ B + 8 + ms.length := by
  have h1 := putF1_b (z := (z.1, if 65535 < ms.length then note z.2 name 12 else z.2)) h (name, 4, ms.length) (by dsimp only; omega)
  have h2 : (ms.takeWhile (fun m => decide (m ≤ 3))).length ≤ ms.length := (List.takeWhile_sublist _).length_le
  unfold movF
  dsimp only
  split
  · omega
  · split
    · rw [List.length_append]; omega
    · rw [List.length_append]; omega
/-- What a response's body is put as. -/
def tellF (r : Rs) (ms : List Nat) (z : List Nat × Flt) : List Nat × Flt :=
  if r.op = 0 then putF1 z (sToken, 8, r.tok)
  else if r.op = 2 then putF1 (putF1 (putF [(sAt, 2, u64 r.ax), (sAt, 2, u64 r.ay)] (putF1 z (sUnit, 1, u64 r.unit))) (sNew, 4, u64 r.new)) (sVer, 4, u64 r.ver)
  else if r.op = 3 then putF1 (putF1 (putF1 z (sNew, 4, u64 r.new)) (sExpl, 4, u64 r.expl)) (sVer, 4, u64 r.ver)
  else if r.op = 4 ∨ r.op = 5 then movF (putF1 (putF1 (putF1 (putF1 z (sHit, 1, bit r.hit)) (sCost, 8, r.cost)) (sSettled, 4, u64 r.settled)) (sLeft, 4, u64 r.left)) sMoves ms
  else if r.op = 6 then putF1 (putF1 (putF1 (putF1 (putF1 (putF1 z (sExpl, 4, u64 r.expl)) (sVer, 4, u64 r.ver)) (sLeft, 4, u64 r.left)) (sUnits, 1, u64 r.units)) (sCache, 1, u64 r.cache)) (sSess, 1, u64 r.sess)
  else z
theorem wordQ_p (β : Nat → Option Obj) (bf bx : Nat) (cs : List Value) (t : TypeId) (ox : Nat) (what name : ByteArray) {z : List Nat × Flt} {B : Nat} {σ : Heap} (X : Nat) (s : Nat) (h1 : 1 ≤ s) (h8 : s ≤ 8) (hX : X < 18446744073709551616) (hx : cs[ox]? = some (.int .u64 (X : Int))) (hf : FormQ β bf what z B σ) (hm : B ≤ 899900) :
    Go.K.Tr Tryd.prog 55 [.pointer (some ⟨bf, 0, none⟩), .string name, .pointer (some ⟨bx, ox, none⟩), .int .i64 (s : Int)] β ((bx, cl cs t) :: σ) (fun _ σ' => ∃ τ, FormQ β bf what (putF1 z (name, s, X)) (B + 8) τ ∧ σ' = (bx, cl cs t) :: τ) := by
  refine (wordP_p β bf bx cs t ox what name z σ hf.f (by have := hf.b; omega) X s h1 h8 hX hx).mono ?_
  rintro _ _ ⟨τ, hτ, rfl⟩
  exact ⟨τ, ⟨hτ, putF1_b hf.b _ h8⟩, rfl⟩
theorem numberQ_p (β : Nat → Option Obj) (bf bx : Nat) (cs : List Value) (t : TypeId) (ox : Nat) (what name : ByteArray) {z : List Nat × Flt} {B : Nat} {σ : Heap} {N : Int} (s : Nat) (h1 : 1 ≤ s) (h8 : s ≤ 8) (hN : I64 N) (hx : cs[ox]? = some (.int .i64 N)) (hf : FormQ β bf what z B σ) (hm : B ≤ 899900) :
    Go.K.Tr Tryd.prog 52 [.pointer (some ⟨bf, 0, none⟩), .string name, .pointer (some ⟨bx, ox, none⟩), .int .i64 (s : Int)] β ((bx, cl cs t) :: σ) (fun _ σ' => ∃ τ, FormQ β bf what (putF1 z (name, s, u64 N)) (B + 8) τ ∧ σ' = (bx, cl cs t) :: τ) := by
  refine (numberP_p β bf bx cs t ox what name z σ hf.f (by have := hf.b; omega) s h1 h8 hN hx).mono ?_
  rintro _ _ ⟨τ, hτ, rfl⟩
  exact ⟨τ, ⟨hτ, putF1_b hf.b _ h8⟩, rfl⟩
theorem cellQ_p (β : Nat → Option Obj) (bf bx : Nat) (cs : List Value) (t : TypeId) (ox : Nat) (what name : ByteArray) {z : List Nat × Flt} {B : Nat} {σ : Heap} {X Y : Int} (hX : I64 X) (hY : I64 Y) (hx : cs[ox]? = some (.int .i64 X)) (hy : cs[ox + 1]? = some (.int .i64 Y)) (hf : FormQ β bf what z B σ) (hm : B ≤ 899900) :
    Go.K.Tr Tryd.prog 56 [.pointer (some ⟨bf, 0, none⟩), .string name, .pointer (some ⟨bx, ox, none⟩)] β ((bx, cl cs t) :: σ) (fun _ σ' => ∃ τ, FormQ β bf what (putF [(name, 2, u64 X), (name, 2, u64 Y)] z) (B + 16) τ ∧ σ' = (bx, cl cs t) :: τ) := by
  refine (cellP_p β bf bx cs t ox what name z σ hf.f (by have := hf.b; omega) hX hY hx hy).mono ?_
  rintro _ _ ⟨τ, hτ, rfl⟩
  exact ⟨τ, ⟨hτ, putF1_b (putF1_b hf.b _ (by dsimp only; omega)) _ (by dsimp only; omega)⟩, rfl⟩
theorem flagQ_p (β : Nat → Option Obj) (bf bx : Nat) (cs : List Value) (t : TypeId) (ox : Nat) (what name : ByteArray) {z : List Nat × Flt} {B : Nat} {σ : Heap} (b : Bool) (hx : cs[ox]? = some (.bool b)) (hf : FormQ β bf what z B σ) (hm : B ≤ 899900) :
    Go.K.Tr Tryd.prog 71 [.pointer (some ⟨bf, 0, none⟩), .string name, .pointer (some ⟨bx, ox, none⟩)] β ((bx, cl cs t) :: σ) (fun _ σ' => ∃ τ, FormQ β bf what (putF1 z (name, 1, bit b)) (B + 8) τ ∧ σ' = (bx, cl cs t) :: τ) := by
  refine (flagP_p β bf bx cs t ox what name z σ hf.f (by have := hf.b; omega) b hx).mono ?_
  rintro _ _ ⟨τ, hτ, rfl⟩
  exact ⟨τ, ⟨hτ, putF1_b hf.b _ (by dsimp only; omega)⟩, rfl⟩
theorem movesQ_p (β : Nat → Option Obj) (bf bx : Nat) (cs : List Value) (t : TypeId) (ox : Nat) (what name : ByteArray) {z : List Nat × Flt} {B : Nat} {σ : Heap} (ms : List Nat) (p : Option Addr) (n c : Nat) (hn : ms.length = n) (hB : Byt ms) (hp : SL β [] 1 n (by8 ms) p) (hx : cs[ox]? = some (.slice p n c)) (hf : FormQ β bf what z B σ) (hm : B + n ≤ 899900) :
    Go.K.Tr Tryd.prog 72 [.pointer (some ⟨bf, 0, none⟩), .string name, .pointer (some ⟨bx, ox, none⟩)] β ((bx, cl cs t) :: σ) (fun _ σ' => ∃ τ, FormQ β bf what (movF z name ms) (B + 8 + n) τ ∧ σ' = (bx, cl cs t) :: τ) := by
  refine (movesP_p β bf bx cs t ox what name z σ hf.f ms p n c hn hB hp (by have := hf.b; omega) hx).mono ?_
  rintro _ _ ⟨τ, hτ, rfl⟩
  exact ⟨τ, ⟨hτ, by have := movF_b z name ms hf.b; omega⟩, rfl⟩
set_option maxHeartbeats 16000000 in
theorem tellP_p (β : Nat → Option Obj) (bf bn : Nat) (what : ByteArray) (z : List Nat × Flt) (B : Nat) (σ : Heap) (hf : FormQ β bf what z B σ) (r : Rs) (hr : r.Ok) (ms : List Nat) (p : Option Addr) (n c : Nat) (hmv : r.mv = .slice p n c) (hn : ms.length = n) (hB : Byt ms) (hp : SL β [] 1 n (by8 ms) p) (hm : B + n ≤ 899000) :
    Go.K.Tr Tryd.prog 62 [.pointer (some ⟨bf, 0, none⟩), .pointer (some ⟨bn, 0, none⟩)] β ((bn, cl r.cells 44) :: σ) (fun _ σ' => ∃ τ, FormQ β bf what (tellF r ms z) (B + 100 + n) τ ∧ σ' = (bn, cl r.cells 44) :: τ) := by
  refine Tr.of_body Tryd.tt (args := [.pointer (some ⟨bf, 0, none⟩), .pointer (some ⟨bn, 0, none⟩)]) (fr := [(0, true, .pointer (some ⟨bf, 0, none⟩)), (1, true, .pointer (some ⟨bn, 0, none⟩))]) Tryd.func62 rfl (by decide) rfl Tryd.ntmps62 rfl rfl ?_
  intro E hE
  subst hE
  obtain ⟨CS, hCS⟩ : ∃ CS, CS = r.cells := ⟨_, rfl⟩
  have h_op : CS[1]? = some (.int .i64 r.op) := by rw [hCS]; rfl
  have h_tok : CS[2]? = some (.int .u64 (r.tok : Int)) := by rw [hCS]; rfl
  have h_unit : CS[3]? = some (.int .i64 r.unit) := by rw [hCS]; rfl
  have h_ax : CS[4]? = some (.int .i64 r.ax) := by rw [hCS]; rfl
  have h_ay : CS[5]? = some (.int .i64 r.ay) := by rw [hCS]; rfl
  have h_new : CS[6]? = some (.int .i64 r.new) := by rw [hCS]; rfl
  have h_expl : CS[7]? = some (.int .i64 r.expl) := by rw [hCS]; rfl
  have h_ver : CS[8]? = some (.int .i64 r.ver) := by rw [hCS]; rfl
  have h_hit : CS[9]? = some (.bool r.hit) := by rw [hCS]; rfl
  have h_cost : CS[10]? = some (.int .u64 (r.cost : Int)) := by rw [hCS]; rfl
  have h_settled : CS[11]? = some (.int .i64 r.settled) := by rw [hCS]; rfl
  have h_left : CS[12]? = some (.int .i64 r.left) := by rw [hCS]; rfl
  have h_mv : CS[13]? = some (.slice p n c) := by rw [hCS, ← hmv]; rfl
  have h_units : CS[14]? = some (.int .i64 r.units) := by rw [hCS]; rfl
  have h_cache : CS[15]? = some (.int .i64 r.cache) := by rw [hCS]; rfl
  have h_sess : CS[16]? = some (.int .i64 r.sess) := by rw [hCS]; rfl
  rw [← hCS]
  have kop : ∀ σ', Cel E.β ((bn, cl CS 44) :: σ') bn (0 + 1) (.int .i64 r.op) := fun σ' => .inl ⟨CS, _, List.Mem.head _, h_op⟩
  repeat' (first | refine KW.seq ?_ | refine KW.region ?_ | refine KO.nil ?_ | refine At.then_normal ?_ | refine KW.skip ?_ | refine KW.block ?_ | refine At.block_normal ?_ | ((first | apply KO.val rfl rfl rfl ?kq ?_); (case kq => ((first | apply qt_ev rfl ?hi ); (case hi => (intro h; (repeat' (first | with_reducible exact alln | with_reducible refine allc ?_ ?_ )); all_goals (first | with_reducible rfl )))))) | (refine KW.cond rfl ?_ ?_ <;> (intro hc; try simp only [kBool] at hc)) | ((first | apply KO.val (g := true) rfl rfl rfl); (first | (apply qt_load1_cel rfl rfl ?hi rfl rfl ?hc; (case hc => first | exact fun _ => (kop _)))); (case hi => (first | exact fun _ => rfl ))) | (refine KO.callF ((bn, cl CS 44) :: _) [] (List.Perm.of_eq (List.append_nil _).symm) rfl rfl rfl rfl rfl rfl rfl (wordQ_p _ bf bn CS 44 2 what sToken r.tok 8 (by omega) (by omega) hr.tok h_tok (by assumption) (by omega)) ?_; rintro _ _ ⟨s, hs, rfl⟩; refine KO.perm (σ' := (bn, cl CS 44) :: s) (List.Perm.of_eq (List.append_nil _)) ?_) | (refine KO.callF ((bn, cl CS 44) :: _) [] (List.Perm.of_eq (List.append_nil _).symm) rfl rfl rfl rfl rfl rfl rfl (wordQ_p _ bf bn CS 44 10 what sCost r.cost 8 (by omega) (by omega) hr.cost h_cost (by assumption) (by omega)) ?_; rintro _ _ ⟨s, hs, rfl⟩; refine KO.perm (σ' := (bn, cl CS 44) :: s) (List.Perm.of_eq (List.append_nil _)) ?_) | (refine KO.callF ((bn, cl CS 44) :: _) [] (List.Perm.of_eq (List.append_nil _).symm) rfl rfl rfl rfl rfl rfl rfl (numberQ_p _ bf bn CS 44 3 what sUnit 1 (by omega) (by omega) hr.unit h_unit (by assumption) (by omega)) ?_; rintro _ _ ⟨s, hs, rfl⟩; refine KO.perm (σ' := (bn, cl CS 44) :: s) (List.Perm.of_eq (List.append_nil _)) ?_) | (refine KO.callF ((bn, cl CS 44) :: _) [] (List.Perm.of_eq (List.append_nil _).symm) rfl rfl rfl rfl rfl rfl rfl (numberQ_p _ bf bn CS 44 6 what sNew 4 (by omega) (by omega) hr.new h_new (by assumption) (by omega)) ?_; rintro _ _ ⟨s, hs, rfl⟩; refine KO.perm (σ' := (bn, cl CS 44) :: s) (List.Perm.of_eq (List.append_nil _)) ?_) | (refine KO.callF ((bn, cl CS 44) :: _) [] (List.Perm.of_eq (List.append_nil _).symm) rfl rfl rfl rfl rfl rfl rfl (numberQ_p _ bf bn CS 44 7 what sExpl 4 (by omega) (by omega) hr.expl h_expl (by assumption) (by omega)) ?_; rintro _ _ ⟨s, hs, rfl⟩; refine KO.perm (σ' := (bn, cl CS 44) :: s) (List.Perm.of_eq (List.append_nil _)) ?_) | (refine KO.callF ((bn, cl CS 44) :: _) [] (List.Perm.of_eq (List.append_nil _).symm) rfl rfl rfl rfl rfl rfl rfl (numberQ_p _ bf bn CS 44 8 what sVer 4 (by omega) (by omega) hr.ver h_ver (by assumption) (by omega)) ?_; rintro _ _ ⟨s, hs, rfl⟩; refine KO.perm (σ' := (bn, cl CS 44) :: s) (List.Perm.of_eq (List.append_nil _)) ?_) | (refine KO.callF ((bn, cl CS 44) :: _) [] (List.Perm.of_eq (List.append_nil _).symm) rfl rfl rfl rfl rfl rfl rfl (numberQ_p _ bf bn CS 44 11 what sSettled 4 (by omega) (by omega) hr.settled h_settled (by assumption) (by omega)) ?_; rintro _ _ ⟨s, hs, rfl⟩; refine KO.perm (σ' := (bn, cl CS 44) :: s) (List.Perm.of_eq (List.append_nil _)) ?_) | (refine KO.callF ((bn, cl CS 44) :: _) [] (List.Perm.of_eq (List.append_nil _).symm) rfl rfl rfl rfl rfl rfl rfl (numberQ_p _ bf bn CS 44 12 what sLeft 4 (by omega) (by omega) hr.left h_left (by assumption) (by omega)) ?_; rintro _ _ ⟨s, hs, rfl⟩; refine KO.perm (σ' := (bn, cl CS 44) :: s) (List.Perm.of_eq (List.append_nil _)) ?_) | (refine KO.callF ((bn, cl CS 44) :: _) [] (List.Perm.of_eq (List.append_nil _).symm) rfl rfl rfl rfl rfl rfl rfl (numberQ_p _ bf bn CS 44 14 what sUnits 1 (by omega) (by omega) hr.units h_units (by assumption) (by omega)) ?_; rintro _ _ ⟨s, hs, rfl⟩; refine KO.perm (σ' := (bn, cl CS 44) :: s) (List.Perm.of_eq (List.append_nil _)) ?_) | (refine KO.callF ((bn, cl CS 44) :: _) [] (List.Perm.of_eq (List.append_nil _).symm) rfl rfl rfl rfl rfl rfl rfl (numberQ_p _ bf bn CS 44 15 what sCache 1 (by omega) (by omega) hr.cache h_cache (by assumption) (by omega)) ?_; rintro _ _ ⟨s, hs, rfl⟩; refine KO.perm (σ' := (bn, cl CS 44) :: s) (List.Perm.of_eq (List.append_nil _)) ?_) | (refine KO.callF ((bn, cl CS 44) :: _) [] (List.Perm.of_eq (List.append_nil _).symm) rfl rfl rfl rfl rfl rfl rfl (numberQ_p _ bf bn CS 44 16 what sSess 1 (by omega) (by omega) hr.sess h_sess (by assumption) (by omega)) ?_; rintro _ _ ⟨s, hs, rfl⟩; refine KO.perm (σ' := (bn, cl CS 44) :: s) (List.Perm.of_eq (List.append_nil _)) ?_) | (refine KO.callF ((bn, cl CS 44) :: _) [] (List.Perm.of_eq (List.append_nil _).symm) rfl rfl rfl rfl rfl rfl rfl (cellQ_p _ bf bn CS 44 4 what sAt hr.ax hr.ay h_ax h_ay (by assumption) (by omega)) ?_; rintro _ _ ⟨s, hs, rfl⟩; refine KO.perm (σ' := (bn, cl CS 44) :: s) (List.Perm.of_eq (List.append_nil _)) ?_) | (refine KO.callF ((bn, cl CS 44) :: _) [] (List.Perm.of_eq (List.append_nil _).symm) rfl rfl rfl rfl rfl rfl rfl (flagQ_p _ bf bn CS 44 9 what sHit r.hit h_hit (by assumption) (by omega)) ?_; rintro _ _ ⟨s, hs, rfl⟩; refine KO.perm (σ' := (bn, cl CS 44) :: s) (List.Perm.of_eq (List.append_nil _)) ?_) | (refine KO.callF ((bn, cl CS 44) :: _) [] (List.Perm.of_eq (List.append_nil _).symm) rfl rfl rfl rfl rfl rfl rfl (movesQ_p _ bf bn CS 44 13 what sMoves ms p n c hn hB hp h_mv (by assumption) (by omega)) ?_; rintro _ _ ⟨s, hs, rfl⟩; refine KO.perm (σ' := (bn, cl CS 44) :: s) (List.Perm.of_eq (List.append_nil _)) ?_) | (exfalso; omega) | fail)
  all_goals (refine At.end0 ⟨_, ?_, rfl⟩; refine FormQ.cast (by assumption) ?_ (by omega); unfold tellF; (repeat' (first | rw [if_pos (by omega)] | rw [if_neg (by omega)])); try rfl)
end Go.Proofs.YtnaclkdjchnbpaaDoor

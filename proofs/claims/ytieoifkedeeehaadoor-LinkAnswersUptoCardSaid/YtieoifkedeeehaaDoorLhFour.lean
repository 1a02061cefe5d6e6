/- LH: a by-value semantics of the translated code, and its soundness. -/
import Derived.Test.YtieoifkedeeehaaDoorLhThree
namespace Go.LH
open Go
/-- An operation's answer, and what comes behind it. -/
def opE (x : Option (Sv × List Entry)) (G : GEnv) (P : Program) (d : Option Nat) (r : List ROper) (K : St → Prop) (s : Slots) : Prop := match x with
  | some (v, L) => VCops G P r K (put ⟨s, L⟩ d v)
  | none => False
def gcE' (x : Option St) (Q : Out → St → Prop) : Prop := match x with
  | some st => Q .normal st
  | none => False
def condE (x : Sv) (G : GEnv) (P : Program) (n0 : Nat) (a b : RC) (Q : Out → St → Prop) (st : St) : Prop := match x with
  | .c (.val (.bool t)) => (t = true → VC G P n0 a Q st) ∧ (t = false → VC G P n0 b Q st)
  | _ => False
def loopE (G : GEnv) (P : Program) (n0 : Nat) (a : RC) (Q : Out → St → Prop) (st : St) : Prop := VC G P n0 (.loop a) Q st
def callE (G : GEnv) (P : Program) (f : FuncId) (args : List Sv) (L : List Entry) (d : Option Nat) (r : List ROper) (K : St → Prop) (s : Slots) : Prop :=
  callR G P f args L fun v L' => VCops G P r K (put ⟨s, L'⟩ d v)
section
variable {G : GEnv} {P : Program} {n0 : Nat} {Q : Out → St → Prop} {s : Slots} {L : List Entry} {st : St}
theorem gc_intro {x : Option St} (h : x = some st) (k : Q .normal st) : gcE' x Q := by rw [h]; exact k
theorem cond_intro {t : Bool} {a b : RC} (h : t = true → VC G P n0 a Q st) (k : t = false → VC G P n0 b Q st) : condE (.c (.val (.bool t))) G P n0 a b Q st := ⟨h, k⟩
theorem cond_true {a b : RC} : condE (.c (.val (.bool true))) G P n0 a b Q st = VC G P n0 a Q st := by simp [condE]
theorem cond_false {a b : RC} : condE (.c (.val (.bool false))) G P n0 a b Q st = VC G P n0 b Q st := by simp [condE]
theorem loop_intro {a : RC} (I : Nat → St → Prop) (n : Nat) (h : I n st) (k : ∀ n st', I n st' → VC G P n0 a (seqQ (fun st' => ∃ m, m < n ∧ I m st') Q) st') : loopE G P n0 a Q st := ⟨I, ⟨n, h⟩, k⟩
section
variable {f : FuncId} {args : List Sv} {d : Option Nat} {r : List ROper} {K : St → Prop}
theorem call_fz {as : List Sv} {L1 : List Entry} {Post : Sv → Prop} (h : fzSL L args = some (as, L1)) (hg : GoodV G P f as Post) (hk : ∀ v, Post v → VCops G P r K (put ⟨s, L1⟩ d v)) : callE G P f args L d r K s := .inl ⟨as, L1, Post, h, hg, hk⟩
theorem call_sn {as : List Sv} {Post : Sv → Prop} (h : snSL L args = some as) (hg : GoodV G P f as Post) (hk : ∀ v, Post v → plainR v = true ∧ VCops G P r K (put ⟨s, L⟩ d v)) : callE G P f args L d r K s := .inr (.inl ⟨as, Post, h, hg, hk⟩)
theorem call_gc {as : List Sv} {ks : Ks} {Lc : List Entry} {Post : Sv → List Entry → Prop} (h : gcArgs args L = some (as, ks, Lc)) (hg : Good G P f as Lc Post) (hk : ∀ v L', Post v L' → VCops G P r K (put ⟨s, lay (back ks L.length) ks L' L⟩ d (renR (back ks L.length) v))) : callE G P f args L d r K s := .inr (.inr ⟨as, ks, Lc, Post, h, hg, hk⟩)
end
theorem vc_skip : VC G P n0 .skip Q ⟨s, L⟩ = Q .normal ⟨s, L⟩ := rfl
theorem vc_ops (l : List ROper) : VC G P n0 (.ops false l) Q ⟨s, L⟩ = VCops G P l (Q .normal) ⟨s, L⟩ := rfl
theorem vc_opsd (l : List ROper) : VC G P n0 (.ops true l) Q ⟨s, L⟩ = VCd G P l (Q .normal) ⟨s, L⟩ := rfl
theorem vc_ops2 (l : List (ROper × Bool × Nat)) : VC G P n0 (.ops2 l) Q ⟨s, L⟩ = VCo G P l 0 [] (Q .normal) ⟨s, L⟩ := rfl
theorem vc_seq (a b : RC) : VC G P n0 (.seq a b) Q ⟨s, L⟩ = VC G P n0 a (seqQ (VC G P n0 b Q) Q) ⟨s, L⟩ := rfl
theorem vc_block (id : Nat) (a : RC) : VC G P n0 (.block id a) Q ⟨s, L⟩ = VC G P n0 a (blockQ id Q) ⟨s, L⟩ := rfl
theorem vc_loop (a : RC) : VC G P n0 (.loop a) Q ⟨s, L⟩ = loopE G P n0 a Q ⟨s, L⟩ := rfl
theorem vc_exit (id : Nat) : VC G P n0 (.exit id) Q ⟨s, L⟩ = Q (.exit id) ⟨s, L⟩ := rfl
theorem vc_ret : VC G P n0 .ret Q ⟨s, L⟩ = Q .ret ⟨s, L⟩ := rfl
theorem vc_keep (l : List Nat) : VC G P n0 (.keep l) Q ⟨s, L⟩ = Q .normal ⟨skeep l s, L⟩ := rfl
theorem vc_gc : VC G P n0 .gc Q ⟨s, L⟩ = gcE' (gc n0 ⟨s, L⟩) Q := rfl
theorem vc_cond (c : Opd) (a b : RC) : VC G P n0 (.cond c a b) Q ⟨s, L⟩ = condE (St.opd ⟨s, L⟩ c) G P n0 a b Q ⟨s, L⟩ := rfl
theorem sq_n (b : St → Prop) : seqQ b Q .normal ⟨s, L⟩ = b ⟨s, L⟩ := rfl
theorem sq_e (b : St → Prop) (i : Nat) : seqQ b Q (.exit i) ⟨s, L⟩ = Q (.exit i) ⟨s, L⟩ := rfl
theorem sq_r (b : St → Prop) : seqQ b Q .ret ⟨s, L⟩ = Q .ret ⟨s, L⟩ := rfl
theorem bq_n (id : Nat) : blockQ id Q .normal ⟨s, L⟩ = Q .normal ⟨s, L⟩ := rfl
theorem bq_e (id i : Nat) : blockQ id Q (.exit i) ⟨s, L⟩ = if i = id then Q .normal ⟨s, L⟩ else Q (.exit i) ⟨s, L⟩ := rfl
theorem bq_r (id : Nat) : blockQ id Q .ret ⟨s, L⟩ = Q .ret ⟨s, L⟩ := rfl
theorem opd_t (i : Nat) : St.opd ⟨s, L⟩ (.t i) = sget s i := rfl
theorem opd_k (x : Sv) : St.opd ⟨s, L⟩ (.k x) = x := rfl
variable {d : Option Nat} {r : List ROper} {K : St → Prop}
theorem ops_nil : VCops G P [] K ⟨s, L⟩ = K ⟨s, L⟩ := rfl
theorem op_some (v : Sv) (j : Nat) : opE (some (v, L)) G P (some j) r K s = VCops G P r K ⟨sset s j v, L⟩ := rfl
theorem op_none (v : Sv) : opE (some (v, L)) G P none r K s = VCops G P r K ⟨s, L⟩ := rfl
theorem so_call (f : FuncId) (args : List Opd) : VCops G P (⟨d, none, .call f args⟩ :: r) K ⟨s, L⟩ = callE G P f (args.map (St.opd ⟨s, L⟩)) L d r K s := rfl
theorem so_mv : ∀ {x}, VCops G P (⟨d, none, .mv x⟩ :: r) K ⟨s, L⟩ = opE (evalOp G ⟨s, L⟩ (.mv x)) G P d r K s := by intros; rfl
theorem so_pick : ∀ {c a b}, VCops G P (⟨d, none, .pick c a b⟩ :: r) K ⟨s, L⟩ = opE (evalOp G ⟨s, L⟩ (.pick c a b)) G P d r K s := by intros; rfl
theorem so_alloc : ∀ {g z e}, VCops G P (⟨d, none, .alloc g z e⟩ :: r) K ⟨s, L⟩ = opE (evalOp G ⟨s, L⟩ (.alloc g z e)) G P d r K s := by intros; rfl
theorem so_box : ∀ {e n x}, VCops G P (⟨d, none, .box e n x⟩ :: r) K ⟨s, L⟩ = opE (evalOp G ⟨s, L⟩ (.box e n x)) G P d r K s := by intros; rfl
theorem so_build : ∀ {z p}, VCops G P (⟨d, none, .build z p⟩ :: r) K ⟨s, L⟩ = opE (evalOp G ⟨s, L⟩ (.build z p)) G P d r K s := by intros; rfl
theorem so_bslice : ∀ {e w n z p}, VCops G P (⟨d, none, .bslice e w n z p⟩ :: r) K ⟨s, L⟩ = opE (evalOp G ⟨s, L⟩ (.bslice e w n z p)) G P d r K s := by intros; rfl
theorem so_load : ∀ {g n x}, VCops G P (⟨d, none, .load g n x⟩ :: r) K ⟨s, L⟩ = opE (evalOp G ⟨s, L⟩ (.load g n x)) G P d r K s := by intros; rfl
theorem so_store : ∀ {n x v}, VCops G P (⟨d, none, .store n x v⟩ :: r) K ⟨s, L⟩ = opE (evalOp G ⟨s, L⟩ (.store n x v)) G P d r K s := by intros; rfl
theorem so_nilchk : ∀ {x}, VCops G P (⟨d, none, .nilchk x⟩ :: r) K ⟨s, L⟩ = opE (evalOp G ⟨s, L⟩ (.nilchk x)) G P d r K s := by intros; rfl
theorem so_bin : ∀ {o x y}, VCops G P (⟨d, none, .bin o x y⟩ :: r) K ⟨s, L⟩ = opE (evalOp G ⟨s, L⟩ (.bin o x y)) G P d r K s := by intros; rfl
theorem so_eqB : ∀ {g x y}, VCops G P (⟨d, none, .eqB g x y⟩ :: r) K ⟨s, L⟩ = opE (evalOp G ⟨s, L⟩ (.eqB g x y)) G P d r K s := by intros; rfl
theorem so_eq : ∀ {g k x y}, VCops G P (⟨d, none, .eq g k x y⟩ :: r) K ⟨s, L⟩ = opE (evalOp G ⟨s, L⟩ (.eq g k x y)) G P d r K s := by intros; rfl
theorem so_un : ∀ {o x}, VCops G P (⟨d, none, .un o x⟩ :: r) K ⟨s, L⟩ = opE (evalOp G ⟨s, L⟩ (.un o x)) G P d r K s := by intros; rfl
theorem so_convI : ∀ {k x}, VCops G P (⟨d, none, .convI k x⟩ :: r) K ⟨s, L⟩ = opE (evalOp G ⟨s, L⟩ (.convI k x)) G P d r K s := by intros; rfl
theorem so_convSame : ∀ {x}, VCops G P (⟨d, none, .convSame x⟩ :: r) K ⟨s, L⟩ = opE (evalOp G ⟨s, L⟩ (.convSame x)) G P d r K s := by intros; rfl
theorem so_bytesToStr : ∀ {x}, VCops G P (⟨d, none, .bytesToStr x⟩ :: r) K ⟨s, L⟩ = opE (evalOp G ⟨s, L⟩ (.bytesToStr x)) G P d r K s := by intros; rfl
theorem so_strToBytes : ∀ {e x}, VCops G P (⟨d, none, .strToBytes e x⟩ :: r) K ⟨s, L⟩ = opE (evalOp G ⟨s, L⟩ (.strToBytes e x)) G P d r K s := by intros; rfl
theorem so_mkif : ∀ {t x}, VCops G P (⟨d, none, .mkif t x⟩ :: r) K ⟨s, L⟩ = opE (evalOp G ⟨s, L⟩ (.mkif t x)) G P d r K s := by intros; rfl
theorem so_mkfn : ∀ {f c}, VCops G P (⟨d, none, .mkfn f c⟩ :: r) K ⟨s, L⟩ = opE (evalOp G ⟨s, L⟩ (.mkfn f c)) G P d r K s := by intros; rfl
theorem so_mksl : ∀ {e w b z l c}, VCops G P (⟨d, none, .mksl e w b z l c⟩ :: r) K ⟨s, L⟩ = opE (evalOp G ⟨s, L⟩ (.mksl e w b z l c)) G P d r K s := by intros; rfl
theorem so_slice : ∀ {w x l h}, VCops G P (⟨d, none, .slice w x l h⟩ :: r) K ⟨s, L⟩ = opE (evalOp G ⟨s, L⟩ (.slice w x l h)) G P d r K s := by intros; rfl
theorem so_sliceS : ∀ {x l h}, VCops G P (⟨d, none, .sliceS x l h⟩ :: r) K ⟨s, L⟩ = opE (evalOp G ⟨s, L⟩ (.sliceS x l h)) G P d r K s := by intros; rfl
theorem so_sliceA : ∀ {n x l h}, VCops G P (⟨d, none, .sliceA n x l h⟩ :: r) K ⟨s, L⟩ = opE (evalOp G ⟨s, L⟩ (.sliceA n x l h)) G P d r K s := by intros; rfl
theorem so_faddr : ∀ {o x}, VCops G P (⟨d, none, .faddr o x⟩ :: r) K ⟨s, L⟩ = opE (evalOp G ⟨s, L⟩ (.faddr o x)) G P d r K s := by intros; rfl
theorem so_field : ∀ {g o n x}, VCops G P (⟨d, none, .field g o n x⟩ :: r) K ⟨s, L⟩ = opE (evalOp G ⟨s, L⟩ (.field g o n x)) G P d r K s := by intros; rfl
theorem so_iaddr : ∀ {w x i}, VCops G P (⟨d, none, .iaddr w x i⟩ :: r) K ⟨s, L⟩ = opE (evalOp G ⟨s, L⟩ (.iaddr w x i)) G P d r K s := by intros; rfl
theorem so_iaddrA : ∀ {l w x i}, VCops G P (⟨d, none, .iaddrA l w x i⟩ :: r) K ⟨s, L⟩ = opE (evalOp G ⟨s, L⟩ (.iaddrA l w x i)) G P d r K s := by intros; rfl
theorem so_idxA : ∀ {g l w x i}, VCops G P (⟨d, none, .idxA g l w x i⟩ :: r) K ⟨s, L⟩ = opE (evalOp G ⟨s, L⟩ (.idxA g l w x i)) G P d r K s := by intros; rfl
theorem so_idxS : ∀ {x i}, VCops G P (⟨d, none, .idxS x i⟩ :: r) K ⟨s, L⟩ = opE (evalOp G ⟨s, L⟩ (.idxS x i)) G P d r K s := by intros; rfl
theorem so_tas : ∀ {t o z x}, VCops G P (⟨d, none, .tas t o z x⟩ :: r) K ⟨s, L⟩ = opE (evalOp G ⟨s, L⟩ (.tas t o z x)) G P d r K s := by intros; rfl
theorem so_extr : ∀ {x i}, VCops G P (⟨d, none, .extr x i⟩ :: r) K ⟨s, L⟩ = opE (evalOp G ⟨s, L⟩ (.extr x i)) G P d r K s := by intros; rfl
theorem so_len : ∀ {x}, VCops G P (⟨d, none, .len x⟩ :: r) K ⟨s, L⟩ = opE (evalOp G ⟨s, L⟩ (.len x)) G P d r K s := by intros; rfl
theorem so_lenS : ∀ {x}, VCops G P (⟨d, none, .lenS x⟩ :: r) K ⟨s, L⟩ = opE (evalOp G ⟨s, L⟩ (.lenS x)) G P d r K s := by intros; rfl
theorem so_lenA : ∀ {n}, VCops G P (⟨d, none, .lenA n⟩ :: r) K ⟨s, L⟩ = opE (evalOp G ⟨s, L⟩ (.lenA n)) G P d r K s := by intros; rfl
theorem so_app : ∀ {e w b x y}, VCops G P (⟨d, none, .app e w b x y⟩ :: r) K ⟨s, L⟩ = opE (evalOp G ⟨s, L⟩ (.app e w b x y)) G P d r K s := by intros; rfl
theorem so_maxmin : ∀ {m xs}, VCops G P (⟨d, none, .maxmin m xs⟩ :: r) K ⟨s, L⟩ = opE (evalOp G ⟨s, L⟩ (.maxmin m xs)) G P d r K s := by intros; rfl
end
end Go.LH

namespace Go.LH
open Go
set_option linter.unusedSimpArgs false
set_option linter.unusedVariables false

mutual
def eqC : Cv → Cv → Bool
  | .val (.int k a), .val (.int k' b) => decide (k = k') && decide (a = b)
  | .val (.bool a), .val (.bool b) => a == b
  | .val (.string a), .val (.string b) => decide (a.data = b.data)
  | .val .nilIface, .val .nilIface => true
  | .val (.pointer none), .val (.pointer none) => true
  | .val (.slice none 0 0), .val (.slice none 0 0) => true
  | .np a b c d, .np a' b' c' d' => decide (a = a' ∧ b = b' ∧ c = c' ∧ d = d')
  | .rs a b c d, .rs a' b' c' d' => decide (a = a' ∧ b = b' ∧ c = c' ∧ d = d')
  | .ca a b c d e, .ca a' b' c' d' e' => decide (a = a' ∧ b = b' ∧ c = c' ∧ d = d' ∧ e = e')
  | .sl w rows, .sl w' rows' => decide (w = w') && eqLL rows rows'
  | .rp l, .rp l' => eqL l l'
  | .ifc t x, .ifc t' x' => decide (t = t') && eqC x x'
  | _, _ => false
def eqL : List Cv → List Cv → Bool
  | [], [] => true
  | a :: r, b :: s => eqC a b && eqL r s
  | _, _ => false
def eqLL : List (List Cv) → List (List Cv) → Bool
  | [], [] => true
  | a :: r, b :: s => eqL a b && eqLL r s
  | _, _ => false
end
def eqS : Sv → Sv → Bool
  | .ud, .ud => true
  | .c a, .c b => eqC a b
  | .agg l, .agg l' => eqL l l'
  | _, _ => false

mutual
theorem eqC_ok : ∀ {a b : Cv}, eqC a b = true → a = b := by
  intro a b h
  unfold eqC at h
  split at h <;> simp_all
  · rename_i a b; cases a; cases b; simp_all
  · exact eqLL_ok h.2
  · exact eqL_ok h
  · exact eqC_ok h.2
theorem eqL_ok : ∀ {a b : List Cv}, eqL a b = true → a = b := by
  intro a b h
  unfold eqL at h
  split at h
  · rfl
  · simp only [Bool.and_eq_true] at h; rw [eqC_ok h.1, eqL_ok h.2]
  · cases h
theorem eqLL_ok : ∀ {a b : List (List Cv)}, eqLL a b = true → a = b := by
  intro a b h
  unfold eqLL at h
  split at h
  · rfl
  · simp only [Bool.and_eq_true] at h; rw [eqL_ok h.1, eqLL_ok h.2]
  · cases h
end
theorem eqS_ok {a b : Sv} (h : eqS a b = true) : a = b := by
  unfold eqS at h
  split at h
  · rfl
  · rw [eqC_ok h]
  · rw [eqL_ok h]
  · cases h

/-- What a run stands on: the codes; which functions are called with plain content shown; answers told from elsewhere. -/
structure RTab where
  code : FuncId → Option RF
  sn : FuncId → Bool
  ext : FuncId → List Sv → Option Sv
  /-- the same over the caller's heap -/
  exth : FuncId → List Sv → List Entry → Option (Sv × List Entry) := fun _ _ _ => none

abbrev CallF := FuncId → List Sv → List Entry → Option (Sv × List Entry)
abbrev BodyF := Nat → RC → St → Option (Out × St)

def runCallSn (body : BodyF) (T : RTab) (G : GEnv) (f : FuncId) (as : List Sv) : Option Sv :=
  match T.ext f as with
  | some r => if plainR r then some r else none
  | none => match T.code f with
    | some rf => if args_ok : as.length ≤ rf.nt then match body 0 rf.body ⟨initS 0 as, []⟩ with
      | some (.exit _, _) => none
      | some (_, st) => match resS G st rf.res with
        | some r => match fzR st.L r with
          | some (x, _) => if plainR x then some x else none
          | none => none
        | none => none
      | none => none
      else none
    | none => none
def runCall (body : BodyF) (T : RTab) (G : GEnv) : CallF := fun f args L =>
  if T.sn f then match snSL L args with
    | some as => match runCallSn body T G f as with
      | some r => some (r, L)
      | none => none
    | none => none
  else match gcArgs args L with
    | some (as, ks, Lc) => match T.exth f as Lc with
      | some (x, L') => some (renR (back ks L.length) x, lay (back ks L.length) ks L' L)
      | none => match T.code f with
      | some rf => if as.length ≤ rf.nt then match body Lc.length rf.body ⟨initS 0 as, Lc⟩ with
        | some (.exit _, _) => none
        | some (_, st) => match resS G st rf.res with
          | some r => match gcRes Lc.length r st.L with
            | some (x, L') => some (renR (back ks L.length) x, lay (back ks L.length) ks L' L)
            | none => none
          | none => none
        | none => none
        else none
      | none => none
    | none => none

def runOp (call : CallF) (ok : FuncId → Bool) (G : GEnv) (o : Rop) (st : St) : Option (Sv × List Entry) :=
  match o with
  | .call f args => call f (args.map st.opd) st.L
  | .callv x args => match st.opd x with
    | .c (.fn (.func f) caps) => if ok f then call f (args.map st.opd ++ caps.map Sv.c) st.L else none
    | _ => none
  | o => evalOp G st o
def runG (call : CallF) (ok : FuncId → Bool) (G : GEnv) (o : ROper) (st : St) : Option St :=
  match o.guard with
  | none => match runOp call ok G o.op st with
    | some (v, L') => some (put ⟨st.s, L'⟩ o.dst v)
    | none => none
  | some (d, want) => match sget st.s d with
    | .ud => some (put st o.dst .ud)
    | .c (.val (.bool t)) => if t = want then match runOp call ok G o.op st with
        | some (v, L') => some (put ⟨st.s, L'⟩ o.dst v)
        | none => none
      else some (put st o.dst .ud)
    | _ => none
def runOps (call : CallF) (ok : FuncId → Bool) (G : GEnv) : List ROper → St → Option St
  | [], st => some st
  | o :: r, st => match runG call ok G o st with
    | some st' => runOps call ok G r st'
    | none => none
/-- Order open: looking alone, and calls of plain content. -/
def runD (csn : FuncId → List Sv → Option Sv) (G : GEnv) (o : Rop) (st : St) : Option Sv :=
  match o with
  | .call f args => match snSL st.L (args.map st.opd) with
    | some as => csn f as
    | none => none
  | o => match evalOp G st o with
    | some (v, _) => some v
    | none => none
def runDG (csn : FuncId → List Sv → Option Sv) (G : GEnv) (o : ROper) (st : St) : Option St :=
  match o.guard with
  | none => match runD csn G o.op st with
    | some v => some (put st o.dst v)
    | none => none
  | some (d, want) => match sget st.s d with
    | .ud => some (put st o.dst .ud)
    | .c (.val (.bool t)) => if t = want then match runD csn G o.op st with
        | some v => some (put st o.dst v)
        | none => none
      else some (put st o.dst .ud)
    | _ => none
def runDs (csn : FuncId → List Sv → Option Sv) (G : GEnv) : List ROper → St → Option St
  | [], st => some st
  | o :: r, st => match runDG csn G o st with
    | some st' => runDs csn G r st'
    | none => none
def runQ (G : GEnv) (o : ROper) (st : St) : Option Sv :=
  match o.guard with
  | none => match evalOp G st o.op with
    | some (v, _) => some v
    | none => none
  | some (d, want) => match sget st.s d with
    | .ud => some .ud
    | .c (.val (.bool t)) => if t = want then match evalOp G st o.op with
        | some (v, _) => some v
        | none => none
      else some .ud
    | _ => none
def runAgain (G : GEnv) (e : Nat) (L : List Entry) : List (Nat × Slots × ROper × Sv) → Bool
  | [] => true
  | (hi, s, o, v) :: r => (if Nat.ble e hi then match runQ G o ⟨s, L⟩ with | some v' => eqS v' v | none => false else true) && runAgain G e L r
def runO (call : CallF) (ok : FuncId → Bool) (G : GEnv) : List (ROper × Bool × Nat) → Nat → List (Nat × Slots × ROper × Sv) → St → Option St
  | [], _, _, st => some st
  | (o, main, hi) :: r, e, pend, st =>
    if main then match runG call ok G o st with
      | some st' => if runAgain G (e + 1) st'.L pend then runO call ok G r (e + 1) pend st' else none
      | none => none
    else match runQ G o st with
      | some v => runO call ok G r e (if Nat.blt e hi then (hi, st.s, o, v) :: pend else pend) (put st o.dst v)
      | none => none

def run (T : RTab) (ok : FuncId → Bool) (G : GEnv) : Nat → BodyF
  | 0, _, _, _ => none
  | n + 1, n0, rc, st => match rc with
    | .skip => some (.normal, st)
    | .ops d l => if d then match runDs (runCallSn (run T ok G n) T G) G l st with
        | some st' => some (.normal, st')
        | none => none
      else match runOps (runCall (run T ok G n) T G) ok G l st with
        | some st' => some (.normal, st')
        | none => none
    | .ops2 l => match runO (runCall (run T ok G n) T G) ok G l 0 [] st with
      | some st' => some (.normal, st')
      | none => none
    | .seq a b => match run T ok G n n0 a st with
      | some (.normal, st') => run T ok G n n0 b st'
      | x => x
    | .cond c a b => match st.opd c with
      | .c (.val (.bool true)) => run T ok G n n0 a st
      | .c (.val (.bool false)) => run T ok G n n0 b st
      | _ => none
    | .block id a => match run T ok G n n0 a st with
      | some (.exit i, st') => if i = id then some (.normal, st') else some (.exit i, st')
      | x => x
    | .loop a => match run T ok G n n0 a st with
      | some (.normal, st') => run T ok G n n0 (.loop a) st'
      | x => x
    | .exit id => some (.exit id, st)
    | .ret => some (.ret, st)
    | .keep l => some (.normal, ⟨skeep l st.s, st.L⟩)
    | .gc => match gc n0 st with
      | some st' => some (.normal, st')
      | none => none

/-- The table is the program's. -/
structure RunOK (P : Program) (G : GEnv) (T : RTab) (ok : FuncId → Bool) : Prop where
  code : ∀ f rf, T.code f = some rf → ∃ fc fn, P.funcs[f]? = some fn ∧ compX fc P fn = some rf
  ok : ∀ f, ok f = true → callable P f = true
  ext : ∀ f as r, T.ext f as = some r → GoodV G P f as (fun x => x = r)
  exth : ∀ f as L r L', T.exth f as L = some (r, L') → Good G P f as L (fun x Lx => x = r ∧ Lx = L')

section
variable {P : Program} {G : GEnv} {T : RTab} {ok : FuncId → Bool}

def BodyOK (P : Program) (G : GEnv) (body : BodyF) : Prop := ∀ n0 rc st out st', body n0 rc st = some (out, st') → ∀ Q : Out → St → Prop, Q out st' → VC G P n0 rc Q st

theorem callSn_ok {body : BodyF} (hT : RunOK P G T ok) (hb : BodyOK P G body) {f : FuncId} {as : List Sv} {r : Sv} (h : runCallSn body T G f as = some r) : plainR r = true ∧ GoodV G P f as (fun x => x = r) := by
  unfold runCallSn at h
  split at h
  · rename_i r' hr
    split at h
    · obtain rfl := Option.some.inj h; exact ⟨by assumption, hT.ext _ _ _ hr⟩
    · cases h
  · split at h
    · rename_i rf hrf
      split at h
      · rename_i hle
        obtain ⟨fc, fn, h1, h2⟩ := hT.code _ _ hrf
        split at h
        · cases h
        · rename_i out st' hx hrun
          split at h
          · rename_i r' hr'
            split at h
            · rename_i x L' hfz
              split at h
              · rename_i hp
                obtain rfl := Option.some.inj h
                refine ⟨hp, goodV_of_vc h1 h2 hle (hb _ _ _ _ _ hrun _ ?_)⟩
                cases out with
                | exit i => exact (hx i rfl).elim
                | normal => simp only [endV, hr', hfz]
                | ret => simp only [endV, hr', hfz]
              · cases h
            · cases h
          · cases h
        · cases h
      · cases h
    · cases h

theorem call_ok {body : BodyF} (hT : RunOK P G T ok) (hb : BodyOK P G body) {f : FuncId} {args : List Sv} {L L' : List Entry} {r : Sv} (h : runCall body T G f args L = some (r, L')) {K : Sv → List Entry → Prop} (hk : K r L') : callR G P f args L K := by
  unfold runCall at h
  split at h
  · split at h
    · rename_i as has
      split at h
      · rename_i r' hr'
        simp only [Option.some.injEq, Prod.mk.injEq] at h
        obtain ⟨rfl, rfl⟩ := h
        obtain ⟨h1, h2⟩ := callSn_ok hT hb hr'
        exact .inr (.inl ⟨as, _, has, h2, fun x hx => by rw [hx]; exact ⟨h1, hk⟩⟩)
      · cases h
    · cases h
  · split at h
    · rename_i as ks Lc hgc
      split at h
      · rename_i x0 L0 hx0
        simp only [Option.some.injEq, Prod.mk.injEq] at h
        obtain ⟨rfl, rfl⟩ := h
        exact .inr (.inr ⟨as, ks, Lc, _, hgc, hT.exth _ _ _ _ _ hx0, by rintro v Lx ⟨rfl, rfl⟩; exact hk⟩)
      split at h
      · rename_i rf hrf
        obtain ⟨fc, fn, h1, h2⟩ := hT.code _ _ hrf
        split at h
        · rename_i hle
          split at h
          · cases h
          · rename_i out st' hx hrun
            split at h
            · rename_i r' hr'
              split at h
              · rename_i x L1 hgr
                simp only [Option.some.injEq, Prod.mk.injEq] at h
                obtain ⟨rfl, rfl⟩ := h
                refine .inr (.inr ⟨as, ks, Lc, fun v Lx => v = x ∧ Lx = L1, hgc, good_of_vc h1 h2 hle (hb _ _ _ _ _ hrun _ ?_), ?_⟩)
                · cases out with
                  | exit i => exact (hx i rfl).elim
                  | normal => simp only [endQ, hr', hgr, and_self]
                  | ret => simp only [endQ, hr', hgr, and_self]
                · rintro v Lx ⟨rfl, rfl⟩; exact hk
              · cases h
            · cases h
          · cases h
        · cases h
      · cases h
    · cases h

theorem op_ok {body : BodyF} (hT : RunOK P G T ok) (hb : BodyOK P G body) {o : Rop} {st : St} {v : Sv} {L' : List Entry} (h : runOp (runCall body T G) ok G o st = some (v, L')) {K : Sv → List Entry → Prop} (hk : K v L') : stepOp G P o st K := by
  unfold runOp at h
  split at h
  · exact call_ok hT hb h hk
  · rename_i x args
    split at h
    · rename_i f caps hx
      split at h
      · rename_i hok
        simp only [stepOp, hx]
        exact ⟨hT.ok _ hok, call_ok hT hb h hk⟩
      · cases h
    · cases h
  · rename_i h1 h2
    unfold stepOp
    split
    · cases h
    · exact absurd rfl (h1 _ _)
    · exact absurd rfl (h2 _ _)
    · rw [h]; exact hk

theorem g_ok {body : BodyF} (hT : RunOK P G T ok) (hb : BodyOK P G body) {o : ROper} {st st' : St} (h : runG (runCall body T G) ok G o st = some st') {K : St → Prop} (hk : K st') : stepG G P o st K := by
  unfold runG at h
  unfold stepG
  split at h
  · rename_i hg
    rw [hg]
    split at h
    · rename_i v L' hv
      obtain rfl := Option.some.inj h
      exact op_ok hT hb hv hk
    · cases h
  · rename_i d want hg
    rw [hg]
    simp only
    split at h
    · rename_i hs; rw [hs]; obtain rfl := Option.some.inj h; exact hk
    · rename_i t hs
      rw [hs]
      simp only
      split at h
      · rename_i ht
        split at h
        · rename_i v L' hv
          obtain rfl := Option.some.inj h
          refine ⟨fun _ => op_ok hT hb hv hk, fun h' => ?_⟩
          subst ht; cases t <;> simp at h'
        · cases h
      · rename_i ht
        obtain rfl := Option.some.inj h
        exact ⟨fun h' => absurd h' ht, fun _ => hk⟩
    · cases h

theorem ops_ok {body : BodyF} (hT : RunOK P G T ok) (hb : BodyOK P G body) : ∀ {l : List ROper} {st st' : St}, runOps (runCall body T G) ok G l st = some st' → ∀ {K : St → Prop}, K st' → VCops G P l K st
  | [], st, st', h, K, hk => by simp only [runOps] at h; obtain rfl := Option.some.inj h; exact hk
  | o :: r, st, st', h, K, hk => by
    simp only [runOps] at h
    split at h
    · rename_i st1 h1
      exact g_ok hT hb h1 (ops_ok hT hb h hk)
    · cases h

theorem d_ok {body : BodyF} (hT : RunOK P G T ok) (hb : BodyOK P G body) {o : Rop} {st : St} {v : Sv} (h : runD (runCallSn body T G) G o st = some v) {K : Sv → Prop} (hk : K v) : stepD G P o st K := by
  unfold runD at h
  split at h
  · split at h
    · rename_i as has
      obtain ⟨h1, h2⟩ := callSn_ok hT hb h
      exact ⟨as, v, has, h1, h2, hk⟩
    · cases h
  · rename_i h1
    unfold stepD
    split
    · exact absurd rfl (h1 _ _)
    · split at h
      · rename_i v' L' hv
        obtain rfl := Option.some.inj h
        rw [hv]; exact hk
      · cases h
theorem dg_ok {body : BodyF} (hT : RunOK P G T ok) (hb : BodyOK P G body) {o : ROper} {st st' : St} (h : runDG (runCallSn body T G) G o st = some st') {K : St → Prop} (hk : K st') : stepDG G P o st K := by
  unfold runDG at h
  unfold stepDG
  split at h
  · rename_i hg
    rw [hg]
    split at h
    · rename_i v hv
      obtain rfl := Option.some.inj h
      exact d_ok hT hb hv hk
    · cases h
  · rename_i d want hg
    rw [hg]
    simp only
    split at h
    · rename_i hs; rw [hs]; obtain rfl := Option.some.inj h; exact hk
    · rename_i t hs
      rw [hs]
      simp only
      split at h
      · rename_i ht
        split at h
        · rename_i v hv
          obtain rfl := Option.some.inj h
          refine ⟨fun _ => d_ok hT hb hv hk, fun h' => ?_⟩
          subst ht; cases t <;> simp at h'
        · cases h
      · rename_i ht
        obtain rfl := Option.some.inj h
        exact ⟨fun h' => absurd h' ht, fun _ => hk⟩
    · cases h
theorem ds_ok {body : BodyF} (hT : RunOK P G T ok) (hb : BodyOK P G body) : ∀ {l : List ROper} {st st' : St}, runDs (runCallSn body T G) G l st = some st' → ∀ {K : St → Prop}, K st' → VCd G P l K st
  | [], st, st', h, K, hk => by simp only [runDs] at h; obtain rfl := Option.some.inj h; exact hk
  | o :: r, st, st', h, K, hk => by
    simp only [runDs] at h
    split at h
    · rename_i st1 h1
      exact dg_ok hT hb h1 (ds_ok hT hb h hk)
    · cases h

theorem q_ok {o : ROper} {st : St} {v : Sv} (h : runQ G o st = some v) {K : Sv → Prop} (hk : K v) : stepQ G o st K := by
  unfold runQ at h
  unfold stepQ
  split at h
  · rename_i hg
    rw [hg]
    simp only
    split at h
    · rename_i v' L' hv
      obtain rfl := Option.some.inj h
      rw [hv]; exact hk
    · cases h
  · rename_i d want hg
    rw [hg]
    simp only
    split at h
    · rename_i hs; rw [hs]; obtain rfl := Option.some.inj h; exact hk
    · rename_i t hs
      rw [hs]
      simp only
      split at h
      · rename_i ht
        split at h
        · rename_i v' L' hv
          obtain rfl := Option.some.inj h
          refine ⟨fun _ => by rw [hv]; exact hk, fun h' => ?_⟩
          subst ht; cases t <;> simp at h'
        · cases h
      · rename_i ht
        obtain rfl := Option.some.inj h
        exact ⟨fun h' => absurd h' ht, fun _ => hk⟩
    · cases h
theorem again_ok {e : Nat} {L : List Entry} : ∀ {p : List (Nat × Slots × ROper × Sv)}, runAgain G e L p = true → again G e L p
  | [], _ => trivial
  | (hi, s, o, v) :: r, h => by
    simp only [runAgain, Bool.and_eq_true] at h
    refine ⟨?_, again_ok h.2⟩
    split
    · rename_i hb
      have h1 := h.1
      rw [if_pos hb] at h1
      split at h1
      · rename_i v' hv'; exact q_ok hv' (eqS_ok h1)
      · cases h1
    · trivial
theorem o_ok {body : BodyF} (hT : RunOK P G T ok) (hb : BodyOK P G body) : ∀ {l : List (ROper × Bool × Nat)} {e : Nat} {p : List (Nat × Slots × ROper × Sv)} {st st' : St}, runO (runCall body T G) ok G l e p st = some st' → ∀ {K : St → Prop}, K st' → VCo G P l e p K st
  | [], e, p, st, st', h, K, hk => by simp only [runO] at h; obtain rfl := Option.some.inj h; exact hk
  | (o, main, hi) :: r, e, p, st, st', h, K, hk => by
    simp only [runO] at h
    simp only [VCo]
    split at h
    · rename_i hm
      rw [if_pos hm]
      split at h
      · rename_i st1 h1
        split at h
        · rename_i ha
          exact g_ok hT hb h1 ⟨again_ok ha, o_ok hT hb h hk⟩
        · cases h
      · cases h
    · rename_i hm
      rw [if_neg hm]
      split at h
      · rename_i v hv
        exact q_ok hv (o_ok hT hb h hk)
      · cases h

/-- A run that ends shows the conditions. -/
theorem run_ok (hT : RunOK P G T ok) (n : Nat) : BodyOK P G (run T ok G n) := by
  induction n using Nat.strongRecOn with
  | _ n ihs => ?_
  intro n0 rc st out st' h Q hQ
  cases n with
  | zero => simp [run] at h
  | succ n =>
    have ih := ihs n (Nat.lt_succ_self n)
    cases rc with
    | skip => simp only [run, Option.some.injEq, Prod.mk.injEq] at h; obtain ⟨rfl, rfl⟩ := h; exact hQ
    | ops d l =>
      simp only [run] at h
      simp only [VC]
      split at h
      · rename_i hd
        rw [if_pos hd]
        split at h
        · rename_i st1 h1
          simp only [Option.some.injEq, Prod.mk.injEq] at h; obtain ⟨rfl, rfl⟩ := h
          exact ds_ok hT ih h1 hQ
        · cases h
      · rename_i hd
        rw [if_neg hd]
        split at h
        · rename_i st1 h1
          simp only [Option.some.injEq, Prod.mk.injEq] at h; obtain ⟨rfl, rfl⟩ := h
          exact ops_ok hT ih h1 hQ
        · cases h
    | ops2 l =>
      simp only [run] at h
      simp only [VC]
      split at h
      · rename_i st1 h1
        simp only [Option.some.injEq, Prod.mk.injEq] at h; obtain ⟨rfl, rfl⟩ := h
        exact o_ok hT ih h1 hQ
      · cases h
    | seq a b =>
      simp only [run] at h
      simp only [VC]
      split at h
      · rename_i st1 h1
        exact ih _ _ _ _ _ h1 _ (ih _ _ _ _ _ h _ hQ)
      · rename_i x hx
        refine ih _ _ _ _ _ h _ ?_
        cases out with
        | normal => exact absurd h (hx st')
        | exit i => exact hQ
        | ret => exact hQ
    | cond c a b =>
      simp only [run] at h
      simp only [VC]
      split at h
      · rename_i hc; rw [hc]; exact ⟨fun _ => ih _ _ _ _ _ h _ hQ, fun h' => (nomatch h')⟩
      · rename_i hc; rw [hc]; exact ⟨fun h' => (nomatch h'), fun _ => ih _ _ _ _ _ h _ hQ⟩
      · cases h
    | block id a =>
      simp only [run] at h
      simp only [VC]
      split at h
      · rename_i i st1 h1
        refine ih _ _ _ _ _ h1 _ ?_
        simp only [blockQ]
        split at h
        · rename_i hi
          simp only [Option.some.injEq, Prod.mk.injEq] at h; obtain ⟨rfl, rfl⟩ := h
          rw [if_pos hi]; exact hQ
        · rename_i hi
          simp only [Option.some.injEq, Prod.mk.injEq] at h; obtain ⟨rfl, rfl⟩ := h
          rw [if_neg hi]; exact hQ
      · rename_i x hx
        refine ih _ _ _ _ _ h _ ?_
        cases out with
        | normal => exact hQ
        | exit i => exact absurd h (hx i st')
        | ret => exact hQ
    | loop a =>
      simp only [run] at h
      simp only [VC]
      refine ⟨fun m st1 => m ≤ n ∧ run T ok G (m + 1) n0 (.loop a) st1 = some (out, st'), ⟨n, Nat.le_refl _, by simpa only [run] using h⟩, ?_⟩
      rintro m st1 ⟨hm, hk⟩
      have ihm := ihs m (Nat.lt_succ_of_le hm)
      simp only [run] at hk
      split at hk
      · rename_i st2 h2
        refine ihm _ _ _ _ _ h2 _ ?_
        cases m with
        | zero => simp [run] at hk
        | succ k => exact ⟨k, Nat.lt_succ_self k, by omega, hk⟩
      · rename_i x hx
        refine ihm _ _ _ _ _ hk _ ?_
        cases out with
        | normal => exact absurd hk (hx st')
        | exit i => exact hQ
        | ret => exact hQ
    | exit id => simp only [run, Option.some.injEq, Prod.mk.injEq] at h; obtain ⟨rfl, rfl⟩ := h; exact hQ
    | ret => simp only [run, Option.some.injEq, Prod.mk.injEq] at h; obtain ⟨rfl, rfl⟩ := h; exact hQ
    | keep l => simp only [run, Option.some.injEq, Prod.mk.injEq] at h; obtain ⟨rfl, rfl⟩ := h; exact hQ
    | gc =>
      simp only [run] at h
      simp only [VC]
      split at h
      · rename_i st1 h1
        simp only [Option.some.injEq, Prod.mk.injEq] at h; obtain ⟨rfl, rfl⟩ := h
        rw [h1]; exact hQ
      · cases h
end
end Go.LH

namespace Go.LH
open Go

/-- No call. -/
def Rop.flat : Rop → Bool
  | .call .. => false
  | .callv .. => false
  | .next _ => false
  | _ => true
/-- A guarded operation: ahead of it stands what the guard is. -/
def guardE (x : Sv) (G : GEnv) (P : Program) (d : Option Nat) (want : Bool) (o : Rop) (r : List ROper) (K : St → Prop) (s : Slots) (L : List Entry) : Prop := match x with
  | .ud => VCops G P r K (put ⟨s, L⟩ d .ud)
  | .c (.val (.bool t)) => (t = want → VCops G P (⟨d, none, o⟩ :: r) K ⟨s, L⟩) ∧ (t = !want → VCops G P r K (put ⟨s, L⟩ d .ud))
  | _ => False
def opD (x : Option (Sv × List Entry)) (G : GEnv) (P : Program) (d : Option Nat) (r : List ROper) (K : St → Prop) (s : Slots) (L : List Entry) : Prop := match x with
  | some (v, _) => VCd G P r K (put ⟨s, L⟩ d v)
  | none => False
def guardD (x : Sv) (G : GEnv) (P : Program) (d : Option Nat) (want : Bool) (o : Rop) (r : List ROper) (K : St → Prop) (s : Slots) (L : List Entry) : Prop := match x with
  | .ud => VCd G P r K (put ⟨s, L⟩ d .ud)
  | .c (.val (.bool t)) => (t = want → VCd G P (⟨d, none, o⟩ :: r) K ⟨s, L⟩) ∧ (t = !want → VCd G P r K (put ⟨s, L⟩ d .ud))
  | _ => False
def callD (G : GEnv) (P : Program) (f : FuncId) (args : List Sv) (L : List Entry) (d : Option Nat) (r : List ROper) (K : St → Prop) (s : Slots) : Prop :=
  ∃ (as : List Sv) (v : Sv), snSL L args = some as ∧ plainR v = true ∧ GoodV G P f as (fun x => x = v) ∧ VCd G P r K (put ⟨s, L⟩ d v)
/-- A function value called. -/
def callvE (x : Sv) (G : GEnv) (P : Program) (args : List Sv) (L : List Entry) (d : Option Nat) (r : List ROper) (K : St → Prop) (s : Slots) : Prop := match x with
  | .c (.fn (.func f) caps) => callable P f = true ∧ callE G P f (args ++ caps.map Sv.c) L d r K s
  | _ => False
abbrev Pend := List (Nat × Slots × ROper × Sv)
def opO (x : Option (Sv × List Entry)) (G : GEnv) (P : Program) (d : Option Nat) (r : List (ROper × Bool × Nat)) (e : Nat) (p : Pend) (K : St → Prop) (s : Slots) : Prop := match x with
  | some (v, L') => again G (e + 1) L' p ∧ VCo G P r (e + 1) p K (put ⟨s, L'⟩ d v)
  | none => False
def opL (x : Option (Sv × List Entry)) (o : ROper) (hi : Nat) (G : GEnv) (P : Program) (d : Option Nat) (r : List (ROper × Bool × Nat)) (e : Nat) (p : Pend) (K : St → Prop) (s : Slots) (L : List Entry) : Prop := match x with
  | some (v, _) => VCo G P r e (if Nat.blt e hi then (hi, s, o, v) :: p else p) K (put ⟨s, L⟩ d v)
  | none => False
def callO (G : GEnv) (P : Program) (f : FuncId) (args : List Sv) (L : List Entry) (d : Option Nat) (r : List (ROper × Bool × Nat)) (e : Nat) (p : Pend) (K : St → Prop) (s : Slots) : Prop :=
  callR G P f args L fun v L' => again G (e + 1) L' p ∧ VCo G P r (e + 1) p K (put ⟨s, L'⟩ d v)
def againE (x : Option (Sv × List Entry)) (v : Sv) : Prop := match x with
  | some (v', _) => v' = v
  | none => False
section
variable {G : GEnv} {P : Program} {n0 : Nat} {Q : Out → St → Prop} {s : Slots} {L : List Entry} {d : Option Nat} {r : List ROper} {K : St → Prop}
theorem so_flat {o : Rop} (h : o.flat = true) : VCops G P (⟨d, none, o⟩ :: r) K ⟨s, L⟩ = opE (evalOp G ⟨s, L⟩ o) G P d r K s := by
  cases o <;> first | (exact (rfl)) | (cases h)
theorem so_callv (x : Opd) (args : List Opd) : VCops G P (⟨d, none, .callv x args⟩ :: r) K ⟨s, L⟩ = callvE (St.opd ⟨s, L⟩ x) G P (args.map (St.opd ⟨s, L⟩)) L d r K s := (rfl)
theorem so_guard (g : Nat) (w : Bool) (o : Rop) : VCops G P (⟨d, some (g, w), o⟩ :: r) K ⟨s, L⟩ = guardE (sget s g) G P d w o r K s L := by
  simp only [VCops, stepG, guardE]
  rfl
theorem guard_ud {w : Bool} {o : Rop} : guardE .ud G P d w o r K s L = VCops G P r K (put ⟨s, L⟩ d .ud) := (rfl)
theorem guard_tt {o : Rop} : guardE (.c (.val (.bool true))) G P d true o r K s L = VCops G P (⟨d, none, o⟩ :: r) K ⟨s, L⟩ := by simp [guardE]
theorem guard_ff {o : Rop} : guardE (.c (.val (.bool false))) G P d false o r K s L = VCops G P (⟨d, none, o⟩ :: r) K ⟨s, L⟩ := by simp [guardE]
theorem guard_tf {o : Rop} : guardE (.c (.val (.bool true))) G P d false o r K s L = VCops G P r K (put ⟨s, L⟩ d .ud) := by simp [guardE]
theorem guard_ft {o : Rop} : guardE (.c (.val (.bool false))) G P d true o r K s L = VCops G P r K (put ⟨s, L⟩ d .ud) := by simp [guardE]
theorem guard_intro {t w : Bool} {o : Rop} (h : t = true → guardE (.c (.val (.bool true))) G P d w o r K s L) (k : t = false → guardE (.c (.val (.bool false))) G P d w o r K s L) : guardE (.c (.val (.bool t))) G P d w o r K s L := by
  cases t
  · exact k rfl
  · exact h rfl
theorem put_some (v : Sv) (j : Nat) : put ⟨s, L⟩ (some j) v = ⟨sset s j v, L⟩ := (rfl)
theorem put_none (v : Sv) : put ⟨s, L⟩ none v = ⟨s, L⟩ := (rfl)
theorem opsd_nil : VCd G P [] K ⟨s, L⟩ = K ⟨s, L⟩ := (rfl)
theorem sd_flat {o : Rop} (h : o.flat = true) : VCd G P (⟨d, none, o⟩ :: r) K ⟨s, L⟩ = opD (evalOp G ⟨s, L⟩ o) G P d r K s L := by
  cases o <;> first | (exact (rfl)) | (cases h)
theorem sd_call (f : FuncId) (args : List Opd) : VCd G P (⟨d, none, .call f args⟩ :: r) K ⟨s, L⟩ = callD G P f (args.map (St.opd ⟨s, L⟩)) L d r K s := (rfl)
theorem sd_guard (g : Nat) (w : Bool) (o : Rop) : VCd G P (⟨d, some (g, w), o⟩ :: r) K ⟨s, L⟩ = guardD (sget s g) G P d w o r K s L := by
  simp only [VCd, stepDG, guardD]
  rfl
theorem opd_some (v : Sv) (L' : List Entry) : opD (some (v, L')) G P d r K s L = VCd G P r K (put ⟨s, L⟩ d v) := (rfl)
theorem guardD_ud {w : Bool} {o : Rop} : guardD .ud G P d w o r K s L = VCd G P r K (put ⟨s, L⟩ d .ud) := (rfl)
theorem guardD_tt {o : Rop} : guardD (.c (.val (.bool true))) G P d true o r K s L = VCd G P (⟨d, none, o⟩ :: r) K ⟨s, L⟩ := by simp [guardD]
theorem guardD_ff {o : Rop} : guardD (.c (.val (.bool false))) G P d false o r K s L = VCd G P (⟨d, none, o⟩ :: r) K ⟨s, L⟩ := by simp [guardD]
theorem guardD_tf {o : Rop} : guardD (.c (.val (.bool true))) G P d false o r K s L = VCd G P r K (put ⟨s, L⟩ d .ud) := by simp [guardD]
theorem guardD_ft {o : Rop} : guardD (.c (.val (.bool false))) G P d true o r K s L = VCd G P r K (put ⟨s, L⟩ d .ud) := by simp [guardD]
theorem guardD_intro {t w : Bool} {o : Rop} (h : t = true → guardD (.c (.val (.bool true))) G P d w o r K s L) (k : t = false → guardD (.c (.val (.bool false))) G P d w o r K s L) : guardD (.c (.val (.bool t))) G P d w o r K s L := by
  cases t
  · exact k rfl
  · exact h rfl
theorem op_put (v : Sv) (L' : List Entry) : opE (some (v, L')) G P d r K s = VCops G P r K (put ⟨s, L'⟩ d v) := (rfl)
theorem callv_fn (f : FuncId) (caps : List Cv) (args : List Sv) : callvE (.c (.fn (.func f) caps)) G P args L d r K s = (callable P f = true ∧ callE G P f (args ++ caps.map Sv.c) L d r K s) := (rfl)
section
variable {l : List (ROper × Bool × Nat)} {e hi : Nat} {p : Pend}
theorem vo_nil : VCo G P [] e p K ⟨s, L⟩ = K ⟨s, L⟩ := (rfl)
theorem vo_main {o : Rop} (h : o.flat = true) : VCo G P ((⟨d, none, o⟩, true, hi) :: l) e p K ⟨s, L⟩ = opO (evalOp G ⟨s, L⟩ o) G P d l e p K s := by
  simp only [VCo, if_true, stepG, opO]
  cases d <;> cases o <;> first | (exact (rfl)) | (cases h; done)
theorem vo_call (f : FuncId) (args : List Opd) : VCo G P ((⟨d, none, .call f args⟩, true, hi) :: l) e p K ⟨s, L⟩ = callO G P f (args.map (St.opd ⟨s, L⟩)) L d l e p K s := by
  cases d <;> exact (rfl)
theorem vo_look (o : Rop) : VCo G P ((⟨d, none, o⟩, false, hi) :: l) e p K ⟨s, L⟩ = opL (evalOp G ⟨s, L⟩ o) ⟨d, none, o⟩ hi G P d l e p K s L := by
  simp only [VCo, stepQ, opL]
  rfl
theorem opo_some (v : Sv) (L' : List Entry) : opO (some (v, L')) G P d l e p K s = (again G (e + 1) L' p ∧ VCo G P l (e + 1) p K (put ⟨s, L'⟩ d v)) := (rfl)
theorem opl_some (v : Sv) (L' : List Entry) (o : ROper) : opL (some (v, L')) o hi G P d l e p K s L = VCo G P l e (if Nat.blt e hi then (hi, s, o, v) :: p else p) K (put ⟨s, L⟩ d v) := (rfl)
theorem again_nil : again G e L [] = True := (rfl)
theorem again_cons (o : Rop) (v : Sv) : again G e L ((hi, s, ⟨d, none, o⟩, v) :: p) = ((if Nat.ble e hi then againE (evalOp G ⟨s, L⟩ o) v else True) ∧ again G e L p) := by
  simp only [again, stepQ, againE]
  rfl
theorem againE_some (v v' : Sv) (L' : List Entry) : againE (some (v', L')) v = (v' = v) := (rfl)
end
theorem end_ret (l : List ResR) (Post : Sv → Prop) : endV G l Post .ret ⟨s, L⟩ = (match resS G ⟨s, L⟩ l with
    | some r => match fzR L r with
      | some (x, _) => Post x
      | none => False
    | none => False) := (rfl)
theorem end_nrm (l : List ResR) (Post : Sv → Prop) : endV G l Post .normal ⟨s, L⟩ = (match resS G ⟨s, L⟩ l with
    | some r => match fzR L r with
      | some (x, _) => Post x
      | none => False
    | none => False) := (rfl)
theorem blt_t {a b : Nat} (h : a < b) : Nat.blt a b = true := by simp [Nat.blt_eq, h]

theorem fzC_val {n : Nat} {L : List Entry} {v : Value} : fzC (n + 1) L (.val v) = some (.val v, L) := (rfl)
theorem fzC_sl {n : Nat} {L : List Entry} {wd : Nat} {rows : List (List Cv)} : fzC (n + 1) L (.sl wd rows) = some (.sl wd rows, L) := (rfl)
theorem fzC_rp {n : Nat} {L : List Entry} {l : List Cv} : fzC (n + 1) L (.rp l) = some (.rp l, L) := (rfl)
theorem fzC_ifc {n : Nat} {L : List Entry} {t : TypeId} {x : Cv} : fzC (n + 1) L (.ifc t x) = (match fzC n L x with
      | some (y, L') => some (.ifc t y, L')
      | none => none) := (rfl)
theorem fzC_rs {n : Nat} {L : List Entry} {id gen lo len : Nat} : fzC (n + 1) L (.rs id gen lo len) = (match L[id]? with
      | some e => if e.bx = false ∧ e.gen = gen ∧ lo + len ≤ e.rows.length then some (.sl e.wd ((e.rows.drop lo).take len), L.set id e.retire) else none
      | none => none) := (rfl)
theorem fzC_np {n : Nat} {L : List Entry} {id gen row col : Nat} : fzC (n + 1) L (.np id gen row col) = (match L[id]? with
      | some e => if e.gen = gen then match e.rows[row]? with
        | some r => match fzLw (fzC n) (L.set id e.retire) (r.drop col) with
          | some (cs, L') => some (.rp cs, L')
          | none => none
        | none => none
        else none
      | none => none) := (rfl)
theorem fzC_fn {n : Nat} {L : List Entry} {f : Fn} {caps : List Cv} : fzC (n + 1) L (.fn f caps) = (if isVL caps then some (.fn f caps, L) else none) := (rfl)
theorem nilEq_nn : nilEq (.val .nilIface) (.val .nilIface) = some true := (rfl)
theorem nilEq_in {t : TypeId} {v : Value} : nilEq (.val (.iface t v)) (.val .nilIface) = some false := (rfl)
theorem nilEq_ni {t : TypeId} {v : Value} : nilEq (.val .nilIface) (.val (.iface t v)) = some false := (rfl)
theorem nilEq_fn {t : TypeId} {x : Cv} : nilEq (.ifc t x) (.val .nilIface) = some false := (rfl)
theorem nilEq_nf {t : TypeId} {x : Cv} : nilEq (.val .nilIface) (.ifc t x) = some false := (rfl)
/-- A loop over a heap that stays. -/
theorem loop_slots {σ : Type} {a : RC} (x0 : σ) (μ : σ → Nat) (Inv : σ → Prop) (u : σ → Slots → Slots) (h0 : u x0 s = s) (hI : Inv x0)
    (body : ∀ x, Inv x → VC G P n0 a (seqQ (fun st' => ∃ y, μ y < μ x ∧ Inv y ∧ st' = ⟨u y s, L⟩) Q) ⟨u x s, L⟩) : loopE G P n0 a Q ⟨s, L⟩ := by
  refine ⟨fun n st => ∃ x, n = μ x ∧ Inv x ∧ st = ⟨u x s, L⟩, ⟨μ x0, x0, rfl, hI, by rw [h0]⟩, ?_⟩
  rintro n st ⟨x, rfl, hx, rfl⟩
  have hb := body x hx
  have he : (fun st' => ∃ y, μ y < μ x ∧ Inv y ∧ st' = (⟨u y s, L⟩ : St)) = (fun st' => ∃ m, m < μ x ∧ ∃ y, m = μ y ∧ Inv y ∧ st' = (⟨u y s, L⟩ : St)) := by
    funext st'
    refine propext ⟨?_, ?_⟩
    · rintro ⟨y, h1, h2, h3⟩; exact ⟨_, h1, y, rfl, h2, h3⟩
    · rintro ⟨m, h1, y, rfl, h2, h3⟩; exact ⟨y, h1, h2, h3⟩
  rw [he] at hb
  exact hb
/-- A loop over slots and heap told by x. -/
theorem loop_heap {σ : Type} {a : RC} (x0 : σ) (μ : σ → Nat) (Inv : σ → Prop) (u : σ → Slots → Slots) (uL : σ → List Entry) (h0 : u x0 s = s) (h1 : uL x0 = L) (hI : Inv x0)
    (body : ∀ x, Inv x → VC G P n0 a (seqQ (fun st' => ∃ y, μ y < μ x ∧ Inv y ∧ st' = ⟨u y s, uL y⟩) Q) ⟨u x s, uL x⟩) : loopE G P n0 a Q ⟨s, L⟩ := by
  refine ⟨fun n st => ∃ x, n = μ x ∧ Inv x ∧ st = ⟨u x s, uL x⟩, ⟨μ x0, x0, rfl, hI, by rw [h0, h1]⟩, ?_⟩
  rintro n st ⟨x, rfl, hx, rfl⟩
  have hb := body x hx
  have he : (fun st' => ∃ y, μ y < μ x ∧ Inv y ∧ st' = (⟨u y s, uL y⟩ : St)) = (fun st' => ∃ m, m < μ x ∧ ∃ y, m = μ y ∧ Inv y ∧ st' = (⟨u y s, uL y⟩ : St)) := by
    funext st'
    refine propext ⟨?_, ?_⟩
    · rintro ⟨y, h1, h2, h3⟩; exact ⟨_, h1, y, rfl, h2, h3⟩
    · rintro ⟨m, h1, y, rfl, h2, h3⟩; exact ⟨y, h1, h2, h3⟩
  rw [he] at hb
  exact hb

/-! calls, from contracts whose answer is known -/
/-- The contract of a function whose answer is the one told. -/
abbrev Ans (G : GEnv) (P : Program) (f : FuncId) (as : List Sv) (v : Sv) : Prop := GoodV G P f as (fun x => x = v)
theorem call_eq {f : FuncId} {args as : List Sv} {v : Sv} (hg : Ans G P f as v) (h : snSL L args = some as) (hp : plainR v = true) (hk : VCops G P r K (put ⟨s, L⟩ d v)) : callE G P f args L d r K s :=
  call_sn h hg fun x hx => by subst hx; exact ⟨hp, hk⟩
theorem call_fzeq {f : FuncId} {args as : List Sv} {L1 : List Entry} {v : Sv} (hg : Ans G P f as v) (h : fzSL L args = some (as, L1)) (hk : VCops G P r K (put ⟨s, L1⟩ d v)) : callE G P f args L d r K s :=
  call_fz h hg fun x hx => by subst hx; exact hk
theorem call_d {f : FuncId} {args as : List Sv} {v : Sv} (hg : Ans G P f as v) (h : snSL L args = some as) (hp : plainR v = true) (hk : VCd G P r K (put ⟨s, L⟩ d v)) : callD G P f args L d r K s :=
  ⟨as, v, h, hp, hg, hk⟩
theorem callO_sn {f : FuncId} {args as : List Sv} {Post : Sv → Prop} {l : List (ROper × Bool × Nat)} {e : Nat} {p : Pend} (h : snSL L args = some as) (hg : GoodV G P f as Post)
    (hk : ∀ v, Post v → plainR v = true ∧ again G (e + 1) L p ∧ VCo G P l (e + 1) p K (put ⟨s, L⟩ d v)) : callO G P f args L d l e p K s :=
  .inr (.inl ⟨as, Post, h, hg, hk⟩)
theorem callO_fz {f : FuncId} {args as : List Sv} {L1 : List Entry} {Post : Sv → Prop} {l : List (ROper × Bool × Nat)} {e : Nat} {p : Pend} (h : fzSL L args = some (as, L1)) (hg : GoodV G P f as Post)
    (hk : ∀ v, Post v → again G (e + 1) L1 p ∧ VCo G P l (e + 1) p K (put ⟨s, L1⟩ d v)) : callO G P f args L d l e p K s :=
  .inl ⟨as, L1, Post, h, hg, hk⟩
theorem good_of {T : RTab} {ok : FuncId → Bool} (hT : RunOK P G T ok) {f : FuncId} {rf : RF} {args : List Sv} {Post : Sv → Prop} (hf : T.code f = some rf) (hn : Nat.ble args.length rf.nt = true) (hv : VC G P 0 rf.body (endV G rf.res Post) ⟨initS 0 args, []⟩) : GoodV G P f args Post := by
  obtain ⟨fc, fn, h1, h2⟩ := hT.code _ _ hf
  exact goodV_of_vc h1 h2 (Nat.le_of_ble_eq_true hn) hv
end
attribute [go_sem] vc_skip vc_ops vc_opsd vc_ops2 vc_seq vc_block vc_loop vc_exit vc_ret vc_keep vc_gc vc_cond sq_n sq_e sq_r bq_n bq_e bq_r ops_nil op_some op_none so_call so_mv so_pick so_alloc so_box so_build so_bslice so_load so_store so_nilchk so_bin so_eqB so_eq so_un so_convI so_convSame so_bytesToStr so_strToBytes so_mkif so_mkfn so_mksl so_slice so_sliceS so_sliceA so_faddr so_field so_iaddr so_iaddrA so_idxA so_idxS so_tas so_extr so_len so_lenS so_lenA so_app so_maxmin cond_true cond_false evalOp opd_k opd_t sset skeep sget lenOf binE cellsAt packS cellsOfS putCells initS live?
attribute [go_sem] op_put so_callv so_guard guard_ud guard_tt guard_ff guard_tf guard_ft put_some put_none opsd_nil sd_flat sd_call sd_guard opd_some guardD_ud guardD_tt guardD_ff guardD_tf guardD_ft callv_fn vo_nil vo_main vo_call vo_look opo_some opl_some again_nil again_cons againE_some end_ret end_nrm resS resL resOne fzR fzS fzSL fzC_val fzC_sl fzC_rp fzC_ifc fzC_rs fzC_np fzC_fn fzL fzLw isVL isV unE
attribute [go_sem] eq_self Nat.ble_eq kbase decide_true decide_false Rop.flat cellEq cellsEq nilEq_nn nilEq_in nilEq_ni nilEq_fn nilEq_nf Bool.not_true Bool.not_false fillC fillR rowsOf
attribute [go_sem] Nat.blt_eq List.contains List.elem Bool.false_eq_true List.length_map List.getElem?_nil List.getElem?_cons_zero List.getElem?_cons_succ List.length_nil List.length_cons List.nil_append List.cons_append List.take List.drop List.set ne_eq not_true not_false_eq_true Option.map_some List.map_cons List.map_nil Nat.le_refl beq_self_eq_true Nat.zero_add true_and and_true and_self List.append_eq
end Go.LH

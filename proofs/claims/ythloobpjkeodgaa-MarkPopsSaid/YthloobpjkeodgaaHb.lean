/- The heap logic, part 2: code, frames, calls, rounds of a range over a function: judgements over the abstract heap, sound against the machine. No condition. -/
import Derived.Test.YthloobpjkeodgaaHa
namespace Go.Proofs.Ythloobpjkeodgaa.H
open Go
set_option linter.unusedVariables false

abbrev Env := Nat → Value
def upd (e : Env) (d : Nat) (v : Value) : Env := fun t => bif Nat.beq t d then v else e t
def updO (e : Env) (d : Option Nat) (v : Value) : Env := match d with | some d => upd e d v | none => e
theorem upd_same (e : Env) (d : Nat) (v : Value) : upd e d v d = v := by simp [upd]
theorem upd_ne (e : Env) (d t : Nat) (v : Value) (h : t ≠ d) : upd e d v t = e t := by
  have : Nat.beq t d = false := by
    cases hh : Nat.beq t d with
    | false => rfl
    | true => exact absurd (Nat.eq_of_beq_eq_true hh) h
  simp [upd, this]

def evalE (e : Env) : Operand → Value
  | .tmp t => e t
  | .const v => v
  | .global g => .pointer (some ⟨g, 0, none⟩)
  | .func f => .func (.func f) #[] #[]

def env0 (args : Array Value) : Env := fun t => args.getD t undef

structure EnvOK (tm : Array Value) (N : Nat) (e : Env) : Prop where
  size : tm.size = N
  get : ∀ t, tm.getD t undef = e t

theorem EnvOK.put {tm : Array Value} {N : Nat} {e : Env} (h : EnvOK tm N e) {d : Nat} (hd : d < N) (v : Value) : EnvOK (tm.setIfInBounds d v) N (upd e d v) := by
  refine ⟨by simp [h.size], fun t => ?_⟩
  by_cases ht : t = d
  · subst ht
    rw [upd_same]
    simp [Array.getD, h.size, hd]
  · rw [upd_ne _ _ _ _ ht, ← h.get t]
    simp only [Array.getD_eq_getD_getElem?]
    rw [Array.getElem?_setIfInBounds_ne (Ne.symm ht)]

def mark (r : Nat) : Deferred := { target := .collected r, args := #[] }
def frm (b : Frame) (tm : Array Value) (ds : List Nat) (todo : List Item) : Frame := { b with tmps := tm, todo := todo, defers := ds.map mark, mode := .run }

theorem eval_frm (b : Frame) (tm : Array Value) (ds : List Nat) (todo : List Item) {N : Nat} {e : Env} (h : EnvOK tm N e) : (frm b tm ds todo).eval = evalE e := by
  funext x
  cases x with
  | tmp t => exact h.get t
  | const v => rfl
  | global g => rfl
  | func f => rfl

inductive Lv where
  | fall
  | ret
  | exit (id : Nat)
  | begin (k : List Item)

def AtLeave (todo : List Item) : Lv → Prop
  | .fall => todo = []
  | .ret => ∃ k, todo = .code .ret :: k
  | .exit id => ∃ k, todo = .code (.exit id) :: k ∧ exitTo id k = none
  | .begin k => todo = .beginRound :: k

structure Fr.Le (F F' : Fr) : Prop where
  blocks : ∀ b o, F.blocks b = some o → F'.blocks b = some o
  os : F'.os = F.os
  tape : F'.tape = F.tape
  output : F'.output = F.output
  low : F'.low = F.low

theorem Fr.Le.refl (F : Fr) : F.Le F := ⟨fun _ _ h => h, rfl, rfl, rfl, rfl⟩
theorem Fr.Le.trans {F F' F'' : Fr} (h : F.Le F') (k : F'.Le F'') : F.Le F'' := ⟨fun b o hb => k.blocks b o (h.blocks b o hb), k.os.trans h.os, k.tape.trans h.tape, k.output.trans h.output, k.low.trans h.low⟩
theorem RelO.le {B : RO} {F F' : Fr} {h : Heap} {own : Nat → Option (Nat × Nat)} {w : World} (hF : F.Le F') (R : RelO B F' h own w) : RelO B F h own w :=
  ⟨R.os.trans hF.os, R.tape.trans hF.tape, R.output.trans hF.output, hF.low ▸ R.low, fun b o hb => R.fr b o (hF.blocks b o hb), fun b o hb => ⟨(R.ro b o hb).1, (R.ro b o hb).2.1, (R.ro b o hb).2.2.1, by
    cases hc : F.blocks b with
    | none => rfl
    | some o' => have := hF.blocks b o' hc; rw [(R.ro b o hb).2.2.2] at this; cases this⟩, R.obj, R.owned⟩
theorem Rel.le {B : RO} {F F' : Fr} {h : Heap} {w : World} (hF : F.Le F') : Rel B F' h w → Rel B F h w := fun ⟨own, R⟩ => ⟨own, R.le hF⟩

def Fr.add (F : Fr) (r : Nat) (o : Obj) : Fr := { F with blocks := fun b => if b = r then some o else F.blocks b }
theorem Fr.le_add (F : Fr) {r : Nat} (o : Obj) (hr : F.blocks r = none) : F.Le (F.add r o) :=
  ⟨fun b o' hb => by simp only [Fr.add]; rw [if_neg (fun e => by rw [e, hr] at hb; cases hb)]; exact hb, rfl, rfl, rfl, rfl⟩

def MarksOK (F : Fr) (ds : List Nat) : Prop := ds.Nodup ∧ ∀ r ∈ ds, F.blocks r = some (.deferred (some []))
def MarksTo (F : Fr) (ds : List Nat) (F' : Fr) (ds' : List Nat) : Prop := MarksOK F' ds' ∧ ∀ r ∈ ds', r ∈ ds ∨ F.blocks r = none
theorem MarksTo.refl {F : Fr} {ds : List Nat} (h : MarksOK F ds) : MarksTo F ds F ds := ⟨h, fun _ hr => .inl hr⟩
def RoundOK (F : Fr) (b : Frame) (ds : List Nat) : Prop := ∀ l, b.roundOf = some l → ds = [] ∧ ∃ r, F.blocks l = some (.loop r)

/-- The frame's code is left, sooner or later, in a way that Φ takes. -/
def Run (P : Program) (B : RO) (N : Nat) (todo : List Item) (e : Env) (h : Heap) (Φ : Lv → Env → Heap → Prop) : Prop :=
  ∀ (F : Fr) (w : World) (b : Frame) (cs : List Frame) (tm : Array Value) (ds : List Nat), RoundOK F b ds → MarksOK F ds → Rel B F h w → EnvOK tm N e →
    ∃ (F' : Fr) (j : Lv) (todo' : List Item) (tm' : Array Value) (ds' : List Nat) (w' : World) (e' : Env) (h' : Heap),
      Steps P (lone (frm b tm ds todo) cs w) (lone (frm b tm' ds' todo') cs w') ∧ AtLeave todo' j ∧ RoundOK F' b ds' ∧ MarksTo F ds F' ds' ∧ F.Le F' ∧ Rel B F' h' w' ∧ EnvOK tm' N e' ∧ Φ j e' h'

/-- A call's contract. -/
def Spec (P : Program) (B : RO) (f : FuncId) (args : Array Value) (h : Heap) (Post : Value → Heap → Prop) : Prop :=
  ∀ (F : Fr) (w : World), Rel B F h w → Calls P f args w fun ed w' => ∃ v h', ed = .returned v ∧ Rel B F h' w' ∧ Post v h'

/-- A round's contract: yield is called. -/
def RoundSpec (P : Program) (B : RO) (l : Nat) (f : FuncId) (tmps : Array Value) (assign body : Code) (h : Heap) (K : Value → Heap → Prop) : Prop :=
  ∀ (F : Fr) (w : World) (c : Frame) (cs : List Frame), Rel B F h w →
    ∃ v w' h', Steps P (lone (Frame.round l f tmps assign body .normal) (c :: cs) w) (lone (c.finish v) cs w') ∧ Rel B F h' w' ∧ K v h'

def After (P : Program) (B : RO) : Next → Heap → (Value → Heap → Prop) → Prop
  | .value v, h, K => K v h
  | .skip, h, K => K undef h
  | .enter f args, h, K => Spec P B f args h K
  | .round l f tmps assign body, h, K => RoundSpec P B l f tmps assign body h K
  | _, _, _ => False

theorem Spec.mono {P : Program} {B : RO} {f : FuncId} {args : Array Value} {h : Heap} {Q Q' : Value → Heap → Prop} (hs : Spec P B f args h Q) (hq : ∀ v h', Q v h' → Q' v h') : Spec P B f args h Q' :=
  fun F w R cs => let ⟨e, w', fr, ⟨v, h', a, b, c⟩, r⟩ := hs F w R cs; ⟨e, w', fr, ⟨v, h', a, b, hq _ _ c⟩, r⟩

/-- What one abstract heap tells, another one tells too. -/
def Ent (B : RO) (h h' : Heap) : Prop := (∀ b, h b = none → h' b = none) ∧ ∀ F w, Rel B F h w → Rel B F h' w
theorem Ent.refl (B : RO) (h : Heap) : Ent B h h := ⟨fun _ e => e, fun _ _ r => r⟩
theorem Ent.trans {B : RO} {h h' h'' : Heap} (a : Ent B h h') (b : Ent B h' h'') : Ent B h h'' := ⟨fun c e => b.1 c (a.1 c e), fun F w r => b.2 F w (a.2 F w r)⟩
def Fin (B : RO) (h : Heap) (K : Heap → Prop) : Prop := ∃ h', Ent B h h' ∧ K h'
theorem Fin.of {B : RO} {h : Heap} {K : Heap → Prop} (k : K h) : Fin B h K := ⟨h, Ent.refl B h, k⟩

theorem Spec.ent {P : Program} {B : RO} {f : FuncId} {args : Array Value} {h h' : Heap} {Q : Value → Heap → Prop} (he : Ent B h h') (hs : Spec P B f args h' Q) : Spec P B f args h Q :=
  fun F w R => hs F w (he.2 F w R)
theorem Spec.fin {P : Program} {B : RO} {f : FuncId} {args : Array Value} {h : Heap} {Q : Value → Heap → Prop} (hs : Spec P B f args h (fun v h' => Fin B h' (Q v))) : Spec P B f args h Q :=
  fun F w R cs => let ⟨e, w', fr, ⟨v, h', a, b, h'', hent, hq⟩, r⟩ := hs F w R cs; ⟨e, w', fr, ⟨v, h'', a, hent.2 F w' b, hq⟩, r⟩
theorem Run.ent {P : Program} {B : RO} {N : Nat} {todo : List Item} {e : Env} {h h' : Heap} {Φ : Lv → Env → Heap → Prop} (he : Ent B h h') (hs : Run P B N todo e h' Φ) : Run P B N todo e h Φ :=
  fun F w b cs tm ds r1 r2 R => hs F w b cs tm ds r1 r2 (he.2 F w R)
theorem Run.of_fin {P : Program} {B : RO} {N : Nat} {todo : List Item} {e : Env} {h : Heap} {Φ : Lv → Env → Heap → Prop} (hs : Fin B h (fun h' => Run P B N todo e h' Φ)) : Run P B N todo e h Φ :=
  let ⟨_, he, hr⟩ := hs; hr.ent he

/-! ### Steps of the frame -/
section steps
variable {P : Program} {b : Frame} {tm : Array Value} {ds : List Nat} {k : List Item} {cs : List Frame} {w : World}

theorem step_skip : step P (lone (frm b tm ds (.code .skip :: k)) cs w) = .next (lone (frm b tm ds k) cs w) := step_lone_go (by simp [stepG, stepG.exec, frm])
theorem step_label {l : Nat} : step P (lone (frm b tm ds (.code (.label l) :: k)) cs w) = .next (lone (frm b tm ds k) cs w) := step_lone_go (by simp [stepG, stepG.exec, frm])
theorem step_inBlock {id : Nat} : step P (lone (frm b tm ds (.inBlock id :: k)) cs w) = .next (lone (frm b tm ds k) cs w) := step_lone_go (by simp [stepG, stepG.exec, frm])
theorem step_inScope {c : Code} : step P (lone (frm b tm ds (.inScope c :: k)) cs w) = .next (lone (frm b tm ds k) cs w) := step_lone_go (by simp [stepG, stepG.exec, frm])
theorem step_scope {c : Code} : step P (lone (frm b tm ds (.code (.scope c) :: k)) cs w) = .next (lone (frm b tm ds (.code c :: .inScope c :: k)) cs w) := step_lone_go (by simp [stepG, stepG.exec, frm])
theorem step_seq {x y : Code} : step P (lone (frm b tm ds (.code (.seq x y) :: k)) cs w) = .next (lone (frm b tm ds (.code x :: .code y :: k)) cs w) := step_lone_go (by simp [stepG, stepG.exec, frm])
theorem step_block {id : Nat} {c : Code} : step P (lone (frm b tm ds (.code (.block id c) :: k)) cs w) = .next (lone (frm b tm ds (.code c :: .inBlock id :: k)) cs w) := step_lone_go (by simp [stepG, stepG.exec, frm])
theorem step_loop {c : Code} : step P (lone (frm b tm ds (.code (.loop c) :: k)) cs w) = .next (lone (frm b tm ds (.code c :: .inLoop c :: k)) cs w) := step_lone_go (by simp [stepG, stepG.exec, frm])
theorem step_inLoop {c : Code} : step P (lone (frm b tm ds (.inLoop c :: k)) cs w) = .next (lone (frm b tm ds (.code c :: .inLoop c :: k)) cs w) := step_lone_go (by simp [stepG, stepG.exec, frm])
theorem step_exit {id : Nat} {k' : List Item} (h : exitTo id k = some k') : step P (lone (frm b tm ds (.code (.exit id) :: k)) cs w) = .next (lone (frm b tm ds k') cs w) := step_lone_go (by simp [stepG, stepG.exec, frm, h])
theorem step_cond {c : Operand} {x y : Code} {t : Bool} (h : (frm b tm ds (.code (.cond c x y) :: k)).eval c = .bool t) :
    step P (lone (frm b tm ds (.code (.cond c x y) :: k)) cs w) = .next (lone (frm b tm ds (.code (if t then x else y) :: k)) cs w) :=
  step_lone_go (by
    simp only [frm] at h
    simp [stepG, stepG.exec, frm, h])
theorem step_region {id : Nat} {ops : Array Oper} : step P (lone (frm b tm ds (.code (.region id ops false) :: k)) cs w) = .next (lone (frm b tm ds (.inRegion ops (List.range ops.size) :: k)) cs w) := step_lone_go (by simp [stepG, stepG.exec, frm])
theorem step_region_draw {id : Nat} {ops : Array Oper} : step P (lone (frm b tm ds (.code (.region id ops true) :: k)) cs w) =
    .next (lone (frm b tm ds (.inRegion ops (Region.schedule (P.follows .mixedOrders) ops (w.tape w.drawn (.order b.fn id))) :: k)) cs { w with drawn := w.drawn + 1 }) :=
  step_lone_go (by simp [stepG, stepG.exec, frm, choose, Sem.run, Question.forced, Question.cut])
theorem step_region_end {ops : Array Oper} : step P (lone (frm b tm ds (.inRegion ops [] :: k)) cs w) = .next (lone (frm b tm ds k) cs w) := step_lone_go (by simp [stepG, stepG.exec, frm])

theorem finish_frm (ops : Array Oper) (i : Nat) (rest : List Nat) (v : Value) : (frm b tm ds (.inRegion ops (i :: rest) :: k)).finish v =
    frm b (match (ops[i]?).bind (·.dst) with | some d => tm.setIfInBounds d v | none => tm) ds (.inRegion ops rest :: k) := by
  simp only [Frame.finish, frm]
  cases (ops[i]?).bind (·.dst) <;> rfl
theorem step_op_skip {ops : Array Oper} {i : Nat} {rest : List Nat} (h : ((ops[i]?).map (Region.wanted · (yielded ops tm))).getD false = false) :
    step P (lone (frm b tm ds (.inRegion ops (i :: rest) :: k)) cs w) = .next (lone ((frm b tm ds (.inRegion ops (i :: rest) :: k)).finish undef) cs w) :=
  step_lone_go (by
    have h' := h
    simp only [frm] at *
    simp [stepG, stepG.exec, h'])

theorem stepG_op {ops : Array Oper} {i : Nat} {rest : List Nat} {o : Oper} (ho : ops[i]? = some o) (hw : Region.wanted o (yielded ops tm) = true) (hd : ∀ c, o.op ≠ .defer c) :
    stepG P true { frame := frm b tm ds (.inRegion ops (i :: rest) :: k), callers := cs, status := .running, dying := none } w =
      stepG.apply P true (frm b tm ds (.inRegion ops (i :: rest) :: k)) cs none (execOp (frm b tm ds (.inRegion ops (i :: rest) :: k)).eval o) w := by
  simp only [stepG, stepG.exec, frm, ho, Option.map_some, hw, Option.getD_some, if_true, stepG.oper, Frame.oper?]
  split
  · rename_i l c _ hc; exact absurd hc (hd c)
  · rfl

theorem step_op_value {ops : Array Oper} {i : Nat} {rest : List Nat} {o : Oper} {v : Value} {w' : World} (ho : ops[i]? = some o) (hw : Region.wanted o (yielded ops tm) = true) (hd : ∀ c, o.op ≠ .defer c)
    (hr : (execOp (frm b tm ds (.inRegion ops (i :: rest) :: k)).eval o).run P w = .ok (.value v) w') :
    step P (lone (frm b tm ds (.inRegion ops (i :: rest) :: k)) cs w) = .next (lone ((frm b tm ds (.inRegion ops (i :: rest) :: k)).finish v) cs w') :=
  step_lone_go (by rw [stepG_op ho hw hd]; simp [stepG.apply, Sem.runT_eq, hr, GStep.bare_after])
theorem step_op_none {ops : Array Oper} {i : Nat} {rest : List Nat} {o : Oper} {w' : World} (ho : ops[i]? = some o) (hw : Region.wanted o (yielded ops tm) = true) (hd : ∀ c, o.op ≠ .defer c)
    (hr : (execOp (frm b tm ds (.inRegion ops (i :: rest) :: k)).eval o).run P w = .ok .skip w') :
    step P (lone (frm b tm ds (.inRegion ops (i :: rest) :: k)) cs w) = .next (lone ((frm b tm ds (.inRegion ops (i :: rest) :: k)).finish undef) cs w') :=
  step_lone_go (by rw [stepG_op ho hw hd]; simp [stepG.apply, Sem.runT_eq, hr, GStep.bare_after])
theorem step_op_enter {ops : Array Oper} {i : Nat} {rest : List Nat} {o : Oper} {f : FuncId} {args : Array Value} {w' : World} (ho : ops[i]? = some o) (hw : Region.wanted o (yielded ops tm) = true) (hd : ∀ c, o.op ≠ .defer c)
    (hr : (execOp (frm b tm ds (.inRegion ops (i :: rest) :: k)).eval o).run P w = .ok (.enter f args) w') :
    step P (lone (frm b tm ds (.inRegion ops (i :: rest) :: k)) cs w) = .next (lone (Frame.enter P f args .normal) (frm b tm ds (.inRegion ops (i :: rest) :: k) :: cs) w') :=
  step_lone_go (by
    rw [stepG_op ho hw hd]
    have ht : (frm b tm ds (.inRegion ops (i :: rest) :: k)).todo = .inRegion ops (i :: rest) :: k := rfl
    simp [stepG.apply, Sem.runT_eq, hr, GStep.bare_after, ht])
theorem step_op_round {ops : Array Oper} {i : Nat} {rest : List Nat} {o : Oper} {l : Nat} {f : FuncId} {tmps : Array Value} {assign body : Code} {w' : World} (ho : ops[i]? = some o) (hw : Region.wanted o (yielded ops tm) = true) (hd : ∀ c, o.op ≠ .defer c)
    (hr : (execOp (frm b tm ds (.inRegion ops (i :: rest) :: k)).eval o).run P w = .ok (.round l f tmps assign body) w') :
    step P (lone (frm b tm ds (.inRegion ops (i :: rest) :: k)) cs w) = .next (lone (Frame.round l f tmps assign body .normal) (frm b tm ds (.inRegion ops (i :: rest) :: k) :: cs) w') :=
  step_lone_go (by rw [stepG_op ho hw hd]; simp [stepG.apply, Sem.runT_eq, hr, GStep.bare_after])
end steps

section rules
variable {P : Program} {B : RO} {N : Nat} {e : Env} {h : Heap} {Φ : Lv → Env → Heap → Prop} {k : List Item}

theorem Run.silent {todo todo' : List Item} (hs : ∀ (b : Frame) (tm : Array Value) (ds : List Nat) (cs : List Frame) (w : World), EnvOK tm N e → step P (lone (frm b tm ds todo) cs w) = .next (lone (frm b tm ds todo') cs w))
    (hr : Run P B N todo' e h Φ) : Run P B N todo e h Φ := by
  intro F w b cs tm ds r1 r2 R he
  obtain ⟨F', j, todo'', tm', ds', w', e', h', s, rest⟩ := hr F w b cs tm ds r1 r2 R he
  exact ⟨F', j, todo'', tm', ds', w', e', h', .head (hs b tm ds cs w he) s, rest⟩

theorem Run.skip (hr : Run P B N k e h Φ) : Run P B N (.code .skip :: k) e h Φ := hr.silent (fun _ _ _ _ _ _ => step_skip)
theorem Run.label {l : Nat} (hr : Run P B N k e h Φ) : Run P B N (.code (.label l) :: k) e h Φ := hr.silent (fun _ _ _ _ _ _ => step_label)
theorem Run.inBlock {id : Nat} (hr : Run P B N k e h Φ) : Run P B N (.inBlock id :: k) e h Φ := hr.silent (fun _ _ _ _ _ _ => step_inBlock)
theorem Run.inScope {c : Code} (hr : Run P B N k e h Φ) : Run P B N (.inScope c :: k) e h Φ := hr.silent (fun _ _ _ _ _ _ => step_inScope)
theorem Run.scope {c : Code} (hr : Run P B N (.code c :: .inScope c :: k) e h Φ) : Run P B N (.code (.scope c) :: k) e h Φ := hr.silent (fun _ _ _ _ _ _ => step_scope)
theorem Run.seq {x y : Code} (hr : Run P B N (.code x :: .code y :: k) e h Φ) : Run P B N (.code (.seq x y) :: k) e h Φ := hr.silent (fun _ _ _ _ _ _ => step_seq)
theorem Run.block {id : Nat} {c : Code} (hr : Run P B N (.code c :: .inBlock id :: k) e h Φ) : Run P B N (.code (.block id c) :: k) e h Φ := hr.silent (fun _ _ _ _ _ _ => step_block)
theorem Run.exit {id : Nat} {k' : List Item} (hk : exitTo id k = some k') (hr : Run P B N k' e h Φ) : Run P B N (.code (.exit id) :: k) e h Φ := hr.silent (fun _ _ _ _ _ _ => step_exit hk)
theorem Run.cond {c : Operand} {x y : Code} {t : Bool} (hc : evalE e c = .bool t) (hr : Run P B N (.code (if t then x else y) :: k) e h Φ) : Run P B N (.code (.cond c x y) :: k) e h Φ :=
  hr.silent (fun _ _ _ _ _ he => step_cond (by rw [eval_frm _ _ _ _ he]; exact hc))
theorem Run.cond2 {c : Operand} {x y : Code} {t : Bool} (hc : evalE e c = .bool t) (h1 : t = true → Run P B N (.code x :: k) e h Φ) (h2 : t = false → Run P B N (.code y :: k) e h Φ) : Run P B N (.code (.cond c x y) :: k) e h Φ := by
  refine Run.cond hc ?_
  cases t
  · exact h2 rfl
  · exact h1 rfl

theorem Run.fall (hr : Φ .fall e h) : Run P B N [] e h Φ := fun F w b cs tm ds r1 r2 R he => ⟨F, .fall, [], tm, ds, w, e, h, .refl _ _, rfl, r1, .refl r2, .refl F, R, he, hr⟩
theorem Run.ret (hr : Φ .ret e h) : Run P B N (.code .ret :: k) e h Φ := fun F w b cs tm ds r1 r2 R he => ⟨F, .ret, _, tm, ds, w, e, h, .refl _ _, ⟨k, rfl⟩, r1, .refl r2, .refl F, R, he, hr⟩
theorem Run.out {id : Nat} (hk : exitTo id k = none) (hr : Φ (.exit id) e h) : Run P B N (.code (.exit id) :: k) e h Φ := fun F w b cs tm ds r1 r2 R he => ⟨F, .exit id, _, tm, ds, w, e, h, .refl _ _, ⟨k, rfl, hk⟩, r1, .refl r2, .refl F, R, he, hr⟩
theorem Run.begin (hr : Φ (.begin k) e h) : Run P B N (.beginRound :: k) e h Φ := fun F w b cs tm ds r1 r2 R he => ⟨F, .begin k, _, tm, ds, w, e, h, .refl _ _, rfl, r1, .refl r2, .refl F, R, he, hr⟩

theorem Run.mono {Φ' : Lv → Env → Heap → Prop} {todo : List Item} (hr : Run P B N todo e h Φ) (hq : ∀ j e h, Φ j e h → Φ' j e h) : Run P B N todo e h Φ' := by
  intro F w b cs tm ds r1 r2 R he
  obtain ⟨F', j, todo'', tm', ds', w', e', h', s1, s2, s3, s4, s5, s6, s7, s8⟩ := hr F w b cs tm ds r1 r2 R he
  exact ⟨F', j, todo'', tm', ds', w', e', h', s1, s2, s3, s4, s5, s6, s7, hq _ _ _ s8⟩

theorem Run.inLoop {c : Code} (hr : Run P B N (.code c :: .inLoop c :: k) e h Φ) : Run P B N (.inLoop c :: k) e h Φ := hr.silent (fun _ _ _ _ _ _ => step_inLoop)

theorem Run.loop {σ : Type} {c : Code} (J : σ → Env → Heap → Prop) (μ : σ → Nat) (x0 : σ) (h0 : J x0 e h)
    (hstep : ∀ x e h, J x e h → (∀ x' e' h', J x' e' h' → μ x' < μ x → Run P B N (.inLoop c :: k) e' h' Φ) → Run P B N (.code c :: .inLoop c :: k) e h Φ) : Run P B N (.code (.loop c) :: k) e h Φ := by
  have key : ∀ n x e h, μ x = n → J x e h → Run P B N (.code c :: .inLoop c :: k) e h Φ := by
    intro n
    induction n using Nat.strongRecOn with
    | _ n ih =>
      intro x e h hn hJ
      exact hstep x e h hJ (fun x' e' h' hJ' hlt => Run.inLoop (ih (μ x') (hn ▸ hlt) x' e' h' rfl hJ'))
  exact (key _ x0 e h rfl h0).silent (fun _ _ _ _ _ _ => step_loop)

theorem Run.region {id : Nat} {ops : Array Oper} (hr : Run P B N (.inRegion ops (List.range ops.size) :: k) e h Φ) : Run P B N (.code (.region id ops false) :: k) e h Φ := hr.silent (fun _ _ _ _ _ _ => step_region)
theorem Run.region_draw {id : Nat} {ops : Array Oper} (hr : ∀ t, Run P B N (.inRegion ops (Region.schedule (P.follows .mixedOrders) ops t) :: k) e h Φ) : Run P B N (.code (.region id ops true) :: k) e h Φ := by
  intro F w b cs tm ds r1 r2 R he
  obtain ⟨own, R⟩ := R
  obtain ⟨F', j, todo'', tm', ds', w', e', h', s, rest⟩ := hr _ F { w with drawn := w.drawn + 1 } b cs tm ds r1 r2 ⟨own, R.of_heap_eq rfl rfl rfl rfl⟩ he
  exact ⟨F', j, todo'', tm', ds', w', e', h', .head step_region_draw s, rest⟩
theorem Run.region_end {ops : Array Oper} (hr : Run P B N k e h Φ) : Run P B N (.inRegion ops [] :: k) e h Φ := hr.silent (fun _ _ _ _ _ _ => step_region_end)

/-- What an operation's guard asks, read off the environment. -/
def yieldE (ops : Array Oper) (e : Env) (j : Nat) : Option Bool :=
  match (ops[j]?).bind (·.dst) with
  | some d => match e d with
    | .bool b => some b
    | _ => none
  | none => none

theorem yielded_eq {ops : Array Oper} {tm : Array Value} {e : Env} (he : EnvOK tm N e) (j : Nat) : yielded ops tm j = yieldE ops e j := by
  unfold yielded yieldE
  cases hd : (ops[j]?).bind (·.dst) with
  | none => rfl
  | some d =>
    simp only [Option.bind_some]
    rw [← he.get d]
    by_cases hlt : d < tm.size
    · have h1 : tm[d]? = some tm[d] := Array.getElem?_eq_getElem hlt
      have h2 : tm.getD d undef = tm[d] := by simp [Array.getD, hlt]
      rw [h1, h2]
      cases tm[d] <;> rfl
    · have h1 : tm[d]? = none := Array.getElem?_eq_none (Nat.le_of_not_lt hlt)
      have h2 : tm.getD d undef = undef := by simp [Array.getD, hlt]
      rw [h1, h2]
      rfl

def dstOK (N : Nat) (o : Oper) : Bool := match o.dst with | some d => d < N | none => true
def noDefer (o : Oper) : Bool := match o.op with | .defer _ => false | _ => true

theorem RoundSpec.mono {l : Nat} {f : FuncId} {tmps : Array Value} {assign body : Code} {K K' : Value → Heap → Prop} (hs : RoundSpec P B l f tmps assign body h K) (hq : ∀ v h', K v h' → K' v h') : RoundSpec P B l f tmps assign body h K' :=
  fun F w c cs R => let ⟨v, w', h', a, b, d⟩ := hs F w c cs R; ⟨v, w', h', a, b, hq _ _ d⟩
theorem After.mono {nx : Next} {K K' : Value → Heap → Prop} (hq : ∀ v h', K v h' → K' v h') (hs : After P B nx h K) : After P B nx h K' := by
  cases nx <;> first
    | exact hq _ _ hs
    | exact Spec.mono hs hq
    | exact RoundSpec.mono hs hq
    | exact hs

theorem Run.op {ops : Array Oper} {i : Nat} {idx : List Nat} {o : Oper} (ho : ops[i]? = some o) (hd : dstOK N o = true) (hnd : noDefer o = true)
    (hr : (Region.wanted o (yieldE ops e) = true ∧ semH P B (execOp (evalE e) o) h (fun nx h' => After P B nx h' (fun v h'' => Run P B N (.inRegion ops idx :: k) (updO e o.dst v) h'' Φ))) ∨
     (Region.wanted o (yieldE ops e) = false ∧ Run P B N (.inRegion ops idx :: k) (updO e o.dst undef) h Φ)) : Run P B N (.inRegion ops (i :: idx) :: k) e h Φ := by
  have hfin : ∀ (tm : Array Value) (v : Value) (e : Env), EnvOK tm N e → EnvOK (match (ops[i]?).bind (·.dst) with | some d => tm.setIfInBounds d v | none => tm) N (updO e o.dst v) := by
    intro tm v e he
    simp only [ho, Option.bind_some]
    unfold dstOK at hd
    cases hdst : o.dst with
    | none => exact he
    | some d => rw [hdst] at hd; exact he.put (by simpa using hd) v
  have hdf : ∀ c, o.op ≠ .defer c := fun c hc => by simp [noDefer, hc] at hnd
  intro F w b cs tm ds r1 r2 R he
  have hy : (yielded ops tm) = (yieldE ops e) := funext (yielded_eq he)
  rcases hr with ⟨hw, hsem⟩ | ⟨hw, hr⟩
  · rw [← hy] at hw
    obtain ⟨nx, w1, h1, hrun, R1, hA⟩ := semH_sound hsem R
    have hev := eval_frm b tm ds (.inRegion ops (i :: idx) :: k) he
    rw [← hev] at hrun
    cases nx <;> try exact hA.elim
    case value v =>
      obtain ⟨F', j, todo'', tm', ds', w', e', h', s, rest'⟩ := hA F w1 b cs _ ds r1 r2 R1 (hfin tm v e he)
      exact ⟨F', j, todo'', tm', ds', w', e', h', .head ((step_op_value ho hw hdf hrun).trans (by rw [finish_frm])) s, rest'⟩
    case skip =>
      obtain ⟨F', j, todo'', tm', ds', w', e', h', s, rest'⟩ := hA F w1 b cs _ ds r1 r2 R1 (hfin tm undef e he)
      exact ⟨F', j, todo'', tm', ds', w', e', h', .head ((step_op_none ho hw hdf hrun).trans (by rw [finish_frm])) s, rest'⟩
    case enter f args =>
      obtain ⟨ed, w2, fr, ⟨v, h2, rfl, R2, hK⟩, hsteps, hfn, hleave⟩ := hA F w1 R1 (frm b tm ds (.inRegion ops (i :: idx) :: k) :: cs)
      obtain ⟨F', j, todo'', tm', ds', w', e', h', s, rest'⟩ := hK F w2 b cs _ ds r1 r2 R2 (hfin tm v e he)
      exact ⟨F', j, todo'', tm', ds', w', e', h', .head (step_op_enter ho hw hdf hrun) (Steps.trans hsteps (.head ((step_leave_returned hleave).trans (by rw [finish_frm])) s)), rest'⟩
    case round l f tmps assign body =>
      obtain ⟨v, w2, h2, hsteps, R2, hK⟩ := hA F w1 (frm b tm ds (.inRegion ops (i :: idx) :: k)) cs R1
      obtain ⟨F', j, todo'', tm', ds', w', e', h', s, rest'⟩ := hK F w2 b cs _ ds r1 r2 R2 (hfin tm v e he)
      rw [finish_frm] at hsteps
      exact ⟨F', j, todo'', tm', ds', w', e', h', .head (step_op_round ho hw hdf hrun) (Steps.trans hsteps s), rest'⟩
  · rw [← hy] at hw
    obtain ⟨F', j, todo'', tm', ds', w', e', h', s, rest'⟩ := hr F w b cs _ ds r1 r2 R (hfin tm undef e he)
    exact ⟨F', j, todo'', tm', ds', w', e', h', .head ((step_op_skip (by simp [ho, hw])).trans (by rw [finish_frm])) s, rest'⟩

/-- A row of operations, one behind the other. -/
def RunL (P : Program) (B : RO) (N : Nat) (ops : Array Oper) : List Oper → List Item → Env → Heap → (Lv → Env → Heap → Prop) → Prop
  | [], k, e, h, Φ => Run P B N k e h Φ
  | o :: rest, k, e, h, Φ =>
    dstOK N o = true ∧ noDefer o = true ∧
    ((Region.wanted o (yieldE ops e) = true ∧ semH P B (execOp (evalE e) o) h (fun nx h' => After P B nx h' (fun v h'' => RunL P B N ops rest k (updO e o.dst v) h'' Φ))) ∨
     (Region.wanted o (yieldE ops e) = false ∧ RunL P B N ops rest k (updO e o.dst undef) h Φ))

theorem RunL.sound {ops : Array Oper} : ∀ {l : List Oper} {idx : List Nat} {e : Env} {h : Heap}, idx.map (ops[·]?) = l.map some → RunL P B N ops l k e h Φ → Run P B N (.inRegion ops idx :: k) e h Φ := by
  intro l
  induction l with
  | nil =>
    intro idx e h hi hr
    have : idx = [] := by cases idx <;> simp_all
    subst this
    exact Run.region_end hr
  | cons o rest ih =>
    intro idx e h hi hr
    cases idx with
    | nil => simp at hi
    | cons i idx =>
      simp only [List.map_cons, List.cons.injEq] at hi
      obtain ⟨ho, hi⟩ := hi
      obtain ⟨hd, hnd, hr⟩ := hr
      refine Run.op ho hd hnd ?_
      rcases hr with ⟨hw, hsem⟩ | ⟨hw, hr⟩
      · exact .inl ⟨hw, semH_mono (fun nx h' ha => ha.mono (fun v h'' hk => ih hi hk)) hsem⟩
      · exact .inr ⟨hw, ih hi hr⟩

theorem range_map (l : List Oper) : (List.range l.toArray.size).map (l.toArray[·]?) = l.map some := by
  apply List.ext_getElem?
  intro i
  simp only [List.size_toArray, List.getElem?_map, List.getElem?_toArray]
  by_cases hi : i < l.length
  · simp [hi]
  · simp [hi]

theorem Run.ops {id : Nat} {l : List Oper} (hr : RunL P B N l.toArray l k e h Φ) : Run P B N (.code (.region id l.toArray false) :: k) e h Φ :=
  Run.region (RunL.sound (range_map l) hr)
end rules
end Go.Proofs.Ythloobpjkeodgaa.H

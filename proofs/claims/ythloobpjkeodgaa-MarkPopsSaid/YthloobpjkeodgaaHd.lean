/- The heap logic, part 4: rounds of a range over a function, the statement itself, and owned slices opened and closed. No condition. -/
import Derived.Test.YthloobpjkeodgaaHc
namespace Go.Proofs.Ythloobpjkeodgaa.H
open Go
set_option linter.unusedVariables false

theorem RelO.rehide {B : RO} {F : Fr} {h : Heap} {own : Nat → Option (Nat × Nat)} {w : World} {l : Nat} {o : Obj} (R : RelO B F h own w) (hl : F.blocks l = some o) (o' : Obj) :
    RelO B (F.add l o') h own { w with heap := w.heap.setIfInBounds l o' } := by
  obtain ⟨a1, a2, a3⟩ := R.fr l o hl
  have hg : ∀ c, c ≠ l → (w.heap.setIfInBounds l o')[c]? = w.heap[c]? := fun c hc => Array.getElem?_setIfInBounds_ne (Ne.symm hc)
  refine ⟨R.os, R.tape, R.output, by simpa [Fr.add] using R.low, ?_, ?_, ?_, fun k p hk => by simpa using R.owned k p hk⟩
  · intro c o'' hc
    simp only [Fr.add] at hc
    split at hc
    · rename_i e
      subst e
      cases hc
      exact ⟨Array.getElem?_setIfInBounds_self_of_lt (lt_of_get a1), a2, a3⟩
    · rename_i hne
      obtain ⟨b1, b2, b3⟩ := R.fr c o'' hc
      exact ⟨(hg c hne).trans b1, b2, b3⟩
  · intro c o'' hc
    obtain ⟨b1, b2, b3, b4⟩ := R.ro c o'' hc
    have hne : c ≠ l := fun e => by rw [e, hl] at b4; cases b4
    exact ⟨(hg c hne).trans b1, b2, b3, by simp only [Fr.add, if_neg hne]; exact b4⟩
  · intro c o'' hc
    obtain ⟨b1, b2⟩ := R.obj c o'' hc
    exact ⟨b1, b2.keep (hg c (fun e => by subst e; rw [a2] at hc; cases hc)) (fun k i hk => ⟨hk, hg k (fun e => by subst e; rw [a3] at hk; cases hk)⟩)⟩

section rounds
variable {P : Program} {b : Frame} {tm : Array Value} {ds : List Nat} {k : List Item} {cs : List Frame} {w : World} {l : Nat} {r : Loop}

theorem run_getLoop (hw : w.heap[l]? = some (.loop r)) : (Instr.getLoop l).run P w = .ok r w := by
  show Sem.run P ((getObj l).bind _) w = _
  simp only [getObj, Sem.bind, Sem.run, hw]
  rfl
theorem run_setObj_loop (hw : w.heap[l]? = some (.loop r)) (o : Obj) : (setObj l o).run P w = .ok () { w with heap := w.heap.setIfInBounds l o } := by
  simp only [setObj, Sem.run, hw]
theorem run_beginRound (hw : w.heap[l]? = some (.loop r)) (hs : r.state = .ready) : (Instr.beginRound l).run P w = .ok () { w with heap := w.heap.setIfInBounds l (.loop { r with state := .busy }) } := by
  unfold Instr.beginRound
  rw [Sem.run_bind, run_getLoop hw]
  simp only [Result.andThen]
  rw [Sem.run_bind, run_setObj_loop hw]
  simp only [Result.andThen, hs]
  rfl
theorem run_endRound (hw : w.heap[l]? = some (.loop r)) (j : Option Code) : (Instr.endRound l j).run P w = .ok (.bool j.isNone) { w with heap := w.heap.setIfInBounds l (.loop { r with state := if j.isNone then .ready else .done, pending := j }) } := by
  unfold Instr.endRound
  rw [Sem.run_bind, run_getLoop hw]
  simp only [Result.andThen]
  rw [Sem.run_bind, run_setObj_loop hw]
  rfl
theorem run_endLoop (hw : w.heap[l]? = some (.loop r)) (hs : r.state ≠ .busy) : (Instr.endLoop l).run P w = .ok r.pending { w with heap := w.heap.setIfInBounds l (.loop { r with state := .exhausted }) } := by
  unfold Instr.endLoop
  rw [Sem.run_bind, run_getLoop hw]
  have : (r.state == .busy) = false := by cases hb : r.state <;> simp_all
  simp only [Result.andThen, this, Bool.false_eq_true, if_false]
  rw [Sem.run_bind]
  simp only [pure, Sem.run, Result.andThen]
  rw [run_setObj_loop hw]

theorem step_beginRound {w' : World} (hro : b.roundOf = some l) (hr : (Instr.beginRound l).run P w = .ok () w') :
    step P (lone (frm b tm ds (.beginRound :: k)) cs w) = .next (lone (frm b tm ds k) cs w') := by
  refine step_lone_go ?_
  simp [stepG, stepG.exec, frm, hro, stepG.apply, Sem.runT_eq, hr, Result.andThen, GStep.bare_after, Frame.finish]

def jumpOf : Lv → Option (Option Code)
  | .fall => some none
  | .ret => some (some .ret)
  | .exit id => some (some (.exit id))
  | .begin _ => none

theorem step_round_leave {lv : Lv} {j : Option Code} {todo : List Item} {c : Frame} {v : Value} {w' : World} (hro : b.roundOf = some l) (hk : b.kind = .normal) (hl : AtLeave todo lv) (hj : jumpOf lv = some j) (hr : (Instr.endRound l j).run P w = .ok v w') :
    step P (lone (frm b tm ds todo) (c :: cs) w) = .next (lone (c.finish v) cs w') := by
  refine step_lone_go ?_
  cases lv with
  | fall =>
    cases hj
    rw [show todo = [] from hl]
    simp [stepG, stepG.exec, frm, hro, hk, Sem.runT_eq, hr, doReturn, GStep.bare_after]
  | ret =>
    cases hj
    obtain ⟨k, rfl⟩ := hl
    simp [stepG, stepG.exec, frm, hro, hk, Sem.runT_eq, hr, doReturn, GStep.bare_after]
  | exit id =>
    cases hj
    obtain ⟨k, rfl, hex⟩ := hl
    simp [stepG, stepG.exec, frm, hro, hk, hex, Sem.runT_eq, hr, doReturn, GStep.bare_after]
  | begin k => cases hj
end rounds

theorem RoundSpec.of_run {P : Program} {B : RO} {l : Nat} {f : FuncId} {tmps : Array Value} {assign body : Code} {N : Nat} {e : Env} {h : Heap} {rec : Loop} {K : Value → Heap → Prop} (hl : h l = none) (hB : B l = none) (hst : rec.state = .ready) (he : EnvOK tmps N e)
    (hrun : Run P B N [.code assign, .beginRound, .code body] e h (fun lv e1 h1 => lv = .begin [.code body] ∧ Run P B N [.code body] e1 h1 (fun lv2 e2 h2 =>
      ∃ j, jumpOf lv2 = some j ∧ (h2 l = none → K (.bool j.isNone) (h2.set l (.raw (.loop { rec with state := if j.isNone then .ready else .done, pending := j }))))))) :
    RoundSpec P B l f tmps assign body (h.set l (.raw (.loop rec))) K := by
  rintro F w c cs ⟨own, R⟩
  have hFl : F.blocks l = none := by
    cases hc : F.blocks l with
    | none => rfl
    | some o => have := (R.fr l o hc).2.1; rw [Heap.set_same] at this; cases this
  have R1 := R.hide hl hB
  let b : Frame := { (default : Frame) with fn := f, kind := .normal, roundOf := some l }
  have hro : b.roundOf = some l := rfl
  have hent : Frame.round l f tmps assign body .normal = frm b tmps [] [.code assign, .beginRound, .code body] := by simp [Frame.round, frm, b]
  have hadd : ∀ (G : Fr) (o : Obj), (G.add l o).blocks l = some o := fun G o => by simp [Fr.add]
  obtain ⟨F1, j1, todo1, tm1, ds1, w1, e1, h1, s1, s2, s3, s4, s5, ⟨own1, R6⟩, s7, rfl, hbody⟩ := hrun (F.add l (.loop rec)) w b (c :: cs) tmps [] (fun l' hl' => by cases hl'; exact ⟨rfl, rec, hadd _ _⟩) ⟨by simp, by simp⟩ ⟨own, R1⟩ he
  obtain ⟨rfl, r1, _⟩ := s3 l hro
  rw [show todo1 = .beginRound :: [.code body] from s2] at s1
  have hF1 := s5.blocks l _ (hadd F (.loop rec))
  have hw1 := (R6.fr l _ hF1).1
  have st1 := step_beginRound (P := P) (b := b) (tm := tm1) (ds := []) (k := [.code body]) (cs := c :: cs) hro (run_beginRound (P := P) hw1 hst)
  have R7 := R6.rehide hF1 (.loop { rec with state := .busy })
  obtain ⟨F2, j2, todo2, tm2, ds2, w2, e2, h2, t1, t2, t3, t4, t5, ⟨own2, R8⟩, t7, j, hj, hK⟩ := hbody (F1.add l (.loop { rec with state := .busy })) _ b (c :: cs) tm1 [] (fun l' hl' => by cases hl'; exact ⟨rfl, _, hadd _ _⟩) ⟨by simp, by simp⟩ ⟨own1, R7⟩ s7
  obtain ⟨rfl, r2, _⟩ := t3 l hro
  have hF2 := t5.blocks l _ (hadd F1 (.loop { rec with state := .busy }))
  have hw2 := (R8.fr l _ hF2).1
  have st2 := step_round_leave (P := P) (b := b) (tm := tm2) (ds := []) (cs := cs) (c := c) hro rfl t2 hj (run_endRound (P := P) hw2 j)
  have R9 := R8.rehide hF2 (.loop { rec with state := if j.isNone then .ready else .done, pending := j })
  have hle : F.Le (F2.add l (.loop { rec with state := if j.isNone then .ready else .done, pending := j })) := by
    refine ⟨fun c' o hc => ?_, ?_, ?_, ?_, ?_⟩
    · have hne : c' ≠ l := fun e => by rw [e, hFl] at hc; cases hc
      have h1' := s5.blocks c' o (by simp only [Fr.add, if_neg hne]; exact hc)
      have h2' := t5.blocks c' o (by simp only [Fr.add, if_neg hne]; exact h1')
      simp only [Fr.add, if_neg hne]; exact h2'
    · exact t5.os.trans s5.os
    · exact t5.tape.trans s5.tape
    · exact t5.output.trans s5.output
    · exact t5.low.trans s5.low
  refine ⟨_, _, _, ?_, ⟨own2, R9.unhide hle (hadd _ _) hFl⟩, hK (R8.fr l _ hF2).2.1⟩
  rw [hent]
  exact Steps.trans s1 (.head st1 (Steps.trans t1 (.one st2)))

/-- The function is entered: it has a body of Go. -/
def Goes (P : Program) (g : FuncId) : Prop := ∃ fn, P.funcs[g]? = some fn ∧ (fn.name == "runtime.NumGoroutine") = false ∧ fn.body.isNone = false

theorem run_callFunc {P : Program} {g : FuncId} (hg : Goes P g) (args : Array Value) (w : World) : (callFunc g args).run P w = .ok (.enter g args) w := by
  obtain ⟨fn, h1, h2, h3⟩ := hg
  show Sem.run P ((program).bind _) w = _
  simp only [program, Sem.bind, Sem.run, h1, h2, h3, Bool.false_eq_true, if_false]
  rfl
theorem semH_callFunc {P : Program} {B : RO} {g : FuncId} (hg : Goes P g) {args : Array Value} {h : Heap} {K : Next → Heap → Prop} (hk : K (.enter g args) h) : semH P B (callFunc g args) h K := by
  obtain ⟨fn, h1, h2, h3⟩ := hg
  show semH P B ((program).bind _) h K
  simp only [program, Sem.bind, semH, h1, h2, h3, Bool.false_eq_true, if_false]
  exact hk

/-- The function has no body of Go: the model's own entry answers. -/
def GoesX (P : Program) (g : FuncId) (e : Array Value → Sem Value) : Prop := ∃ fn, P.funcs[g]? = some fn ∧ (fn.name == "runtime.NumGoroutine") = false ∧ fn.body.isNone = true ∧ Extern.findNext fn = none ∧ Extern.find fn = some e
theorem semH_callX {P : Program} {B : RO} {g : FuncId} {e : Array Value → Sem Value} (hg : GoesX P g e) {args : Array Value} {h : Heap} {K : Next → Heap → Prop} (hk : semH P B (e args) h (fun v h' => K (.value v) h')) : semH P B (callFunc g args) h K := by
  obtain ⟨fn, h1, h2, h3, h4, h5⟩ := hg
  show semH P B ((program).bind _) h K
  simp only [program, Sem.bind, semH, h1, h2, h3, h4, h5, Bool.false_eq_true, if_false, if_true]
  show semH P B (Sem.mark _ _) h K
  show semH P B (e args >>= fun v => pure (.value v)) h K
  rw [semH_bind]
  exact hk

section rangeFunc
variable {P : Program} {B : RO} {N : Nat} {e : Env} {h : Heap} {Φ : Lv → Env → Heap → Prop} {k : List Item}

theorem step_rangeFunc {b : Frame} {tm : Array Value} {ds : List Nat} {cs : List Frame} {w : World} {f : Operand} {ps : Array Tmp} {assign body : Code} {l : Nat} {mk : List Nat} {w1 : World} {g : FuncId} {first captured : Array Value}
    (he : (Instr.enterLoop b.fn tm ps assign body b.roundOf).run P w = .ok (l, mk.map mark) w1) (hf : (frm b tm ds k).eval f = .func (.func g) first captured) (hg : Goes P g) :
    step P (lone (frm b tm ds (.code (.rangeFunc f ps assign body) :: k)) cs w) =
      .next (lone (Frame.enter P g (first ++ #[.func (.yield l) #[] #[]] ++ captured) .normal) (frm b tm (mk ++ ds) (.inRangeFunc l :: k) :: cs) w1) := by
  refine step_lone_go ?_
  have hrun : ∀ ρ : Operand → Value, ρ f = .func (.func g) first captured → ρ (.const (.func (.yield l) #[] #[])) = .func (.yield l) #[] #[] →
      (do let d ← resolve ρ { callee := .value f, args := #[.const (.func (.yield l) #[] #[])], argTypes := #[] } 0; invoke d.target d.args).run P w1 =
      .ok (.enter g (first ++ #[.func (.yield l) #[] #[]] ++ captured)) w1 := by
    intro ρ h1 h2
    rw [Sem.run_bind]
    have : resolve ρ { callee := .value f, args := #[.const (.func (.yield l) #[] #[])], argTypes := #[] } 0 = pure { target := .fn (.func g) captured, args := first ++ #[.func (.yield l) #[] #[]] } := by
      simp only [resolve, h1, Deferred.ofValue, List.map_toArray, List.map_cons, List.map_nil, h2]
    rw [this]
    simp only [pure, Sem.run, Result.andThen, invoke]
    exact run_callFunc hg _ _
  have hd : (frm b tm ds (.code (.rangeFunc f ps assign body) :: k)).defers = ds.map mark := rfl
  have hfn : (frm b tm ds (.code (.rangeFunc f ps assign body) :: k)).fn = b.fn := rfl
  have htm : (frm b tm ds (.code (.rangeFunc f ps assign body) :: k)).tmps = tm := rfl
  have hro : (frm b tm ds (.code (.rangeFunc f ps assign body) :: k)).roundOf = b.roundOf := rfl
  have htd : (frm b tm ds (.code (.rangeFunc f ps assign body) :: k)).todo = .code (.rangeFunc f ps assign body) :: k := rfl
  have hmd : (frm b tm ds (.code (.rangeFunc f ps assign body) :: k)).mode = .run := rfl
  simp only [stepG, hmd, stepG.exec, htd, hfn, htm, hro, Sem.runT_eq, he, hd, GStep.bare_after, stepG.apply, if_true]
  rw [hrun _ (by cases f <;> exact hf) rfl]
  simp [frm]

theorem run_enterLoop_none (fn : FuncId) (tm : Array Value) (ps : Array Tmp) (assign body : Code) (w : World) : (Instr.enterLoop fn tm ps assign body none).run P w =
    .ok (w.heap.size + 1, [w.heap.size].map mark) { w with heap := (w.heap.push (.deferred (some []))).push (.loop { state := .ready, pending := none, fn, tmps := tm, params := ps, assign, body, defers := w.heap.size }) } := by
  show Sem.run P ((newObj _).bind _) w = _
  simp only [newObj, Sem.bind, Sem.run]
  show Sem.run P ((newObj _).bind _) _ = _
  simp only [newObj, Sem.bind, Sem.run, Array.size_push]
  rfl
theorem run_enterLoop_some {l0 : Nat} {r0 : Loop} {w : World} (hw : w.heap[l0]? = some (.loop r0)) (fn : FuncId) (tm : Array Value) (ps : Array Tmp) (assign body : Code) : (Instr.enterLoop fn tm ps assign body (some l0)).run P w =
    .ok (w.heap.size, ([] : List Nat).map mark) { w with heap := w.heap.push (.loop { state := .ready, pending := none, fn, tmps := tm, params := ps, assign, body, defers := r0.defers }) } := by
  unfold Instr.enterLoop
  rw [Sem.run_bind, run_getLoop hw]
  rfl

theorem step_endRangeFunc {b : Frame} {tm : Array Value} {ds : List Nat} {cs : List Frame} {w w' : World} {l : Nat} {j : Option Code} (hr : (Instr.endLoop l).run P w = .ok j w') :
    step P (lone (frm b tm ds (.endRangeFunc l :: k)) cs w) = .next (lone (frm b tm ds ((j.map Item.code).toList ++ k)) cs w') :=
  step_lone_go (by simp [stepG, stepG.exec, frm, Sem.runT_eq, hr, GStep.bare_after])

theorem Run.rangeFunc {f : Operand} {ps : Array Tmp} {assign body : Code} {g : FuncId} {first captured : Array Value} (hf : evalE e f = .func (.func g) first captured) (hg : Goes P g)
    (hr : ∀ (l : Nat) (fnid : FuncId) (tm : Array Value) (r : Nat), EnvOK tm N e → h l = none → B l = none →
      Spec P B g (first ++ #[.func (.yield l) #[] #[]] ++ captured) (h.set l (.raw (.loop { state := .ready, pending := none, fn := fnid, tmps := tm, params := ps, assign, body, defers := r })))
        (fun v h1 => ∃ rec hh, hh l = none ∧ h1 = hh.set l (.raw (.loop rec)) ∧ rec.state ≠ .busy ∧ Run P B N ((rec.pending.map Item.code).toList ++ k) e hh Φ)) :
    Run P B N (.code (.rangeFunc f ps assign body) :: k) e h Φ := by
  rintro F w b cs tm ds r1 r2 ⟨own, R⟩ he
  -- the loop's record (and the block for deferred calls) is laid
  obtain ⟨l, mk, w1, F1, rd, hent, hF1, hmk, hro1, R1, hlh, hBl⟩ : ∃ (l : Nat) (mk : List Nat) (w1 : World) (F1 : Fr) (rd : Nat), (Instr.enterLoop b.fn tm ps assign body b.roundOf).run P w = .ok (l, mk.map mark) w1 ∧ F.Le F1 ∧ MarksTo F ds F1 (mk ++ ds) ∧ RoundOK F1 b (mk ++ ds) ∧
      RelO B F1 (h.set l (.raw (.loop { state := .ready, pending := none, fn := b.fn, tmps := tm, params := ps, assign, body, defers := rd }))) own w1 ∧ h l = none ∧ B l = none := by
    cases hro : b.roundOf with
    | none =>
      obtain ⟨f1, f2, f3, f4⟩ := R.fresh
      have Ra := (R.push (.deferred (some []))).hide f1 f2
      obtain ⟨g1, g2, g3, g4⟩ := Ra.fresh
      have Rb := Ra.push (.loop { state := .ready, pending := none, fn := b.fn, tmps := tm, params := ps, assign, body, defers := w.heap.size })
      have hs : (w.heap.push (.deferred (some []))).size = w.heap.size + 1 := by simp
      rw [hs] at g1 g2 Rb
      refine ⟨_, _, _, _, _, run_enterLoop_none b.fn tm ps assign body w, Fr.le_add F _ f4, ⟨⟨?_, ?_⟩, ?_⟩, ?_, Rb, g1, g2⟩
      · refine List.nodup_cons.2 ⟨fun hm => ?_, r2.1⟩
        have := r2.2 _ hm
        rw [f4] at this; cases this
      · intro r hr'
        rcases List.mem_cons.1 hr' with rfl | hr'
        · simp [Fr.add]
        · exact (Fr.le_add F _ f4).blocks r _ (r2.2 r hr')
      · intro r hr'
        rcases List.mem_cons.1 hr' with rfl | hr'
        · exact .inr f4
        · exact .inl hr'
      · intro l' hl'; rw [hro] at hl'; cases hl'
    | some l0 =>
      obtain ⟨rfl, r0, hr0⟩ := r1 l0 hro
      obtain ⟨f1, f2, f3, f4⟩ := R.fresh
      have Rb := R.push (.loop { state := .ready, pending := none, fn := b.fn, tmps := tm, params := ps, assign, body, defers := r0.defers })
      exact ⟨_, _, _, F, _, run_enterLoop_some (R.fr l0 _ hr0).1 b.fn tm ps assign body, Fr.Le.refl F, .refl r2, r1, Rb, f1, f2⟩
  have hev : (frm b tm ds k).eval f = .func (.func g) first captured := by rw [eval_frm _ _ _ _ he]; exact hf
  have st1 := step_rangeFunc (P := P) (k := k) (cs := cs) hent hev hg
  obtain ⟨ed, w2, fr, ⟨v, h1, rfl, ⟨own2, R2⟩, rec, hh, hhl, rfl, hst, hrun⟩, hsteps, hfn, hleave⟩ := hr l b.fn tm rd he hlh hBl F1 w1 ⟨own, R1⟩ (frm b tm (mk ++ ds) (.inRangeFunc l :: k) :: cs)
  obtain ⟨a1, a2⟩ := R2.obj l _ (Heap.set_same _ _ _)
  have hfin : (frm b tm (mk ++ ds) (.inRangeFunc l :: k)).finish v = frm b tm (mk ++ ds) (.endRangeFunc l :: k) := by simp [Frame.finish, frm]
  have st2 : step P (lone fr (frm b tm (mk ++ ds) (.inRangeFunc l :: k) :: cs) w2) = .next (lone (frm b tm (mk ++ ds) (.endRangeFunc l :: k)) cs w2) := (step_leave_returned hleave).trans (by rw [hfin])
  have st3 := step_endRangeFunc (P := P) (k := k) (b := b) (tm := tm) (ds := mk ++ ds) (cs := cs) (run_endLoop (P := P) (w := w2) a2 hst)
  have R3 : RelO B F1 hh own2 { w2 with heap := w2.heap.setIfInBounds l (.loop { rec with state := .exhausted }) } := by
    refine RelO.forget (h := hh.set l (.raw (.loop { rec with state := .exhausted }))) ?_ (fun c o hc => by
      rw [Heap.set_ne _ _ _ _ (fun e => by rw [e, hhl] at hc; cases hc)]; exact hc)
    have := R2.change (w' := { w2 with heap := w2.heap.setIfInBounds l (.loop { rec with state := .exhausted }) }) (b := l) (o := .raw (.loop { rec with state := .exhausted })) (by simp [Heap.set_same]) rfl rfl rfl (by simp)
      (fun c hc _ => by simp only; exact Array.getElem?_setIfInBounds_ne (Ne.symm hc)) (by simp only [RepO]; exact Array.getElem?_setIfInBounds_self_of_lt (lt_of_get a2))
    rwa [Heap.set_set] at this
  obtain ⟨F', j, todo', tm', ds', w', e', h', s1, s2, s3, s4, s5, s6⟩ := hrun F1 _ b cs tm (mk ++ ds) hro1 hmk.1 ⟨own2, R3⟩ he
  refine ⟨F', j, todo', tm', ds', w', e', h', .head st1 (Steps.trans hsteps (.head st2 (.head st3 s1))), s2, s3, ⟨s4.1, ?_⟩, hF1.trans s5, s6⟩
  intro r hr'
  rcases s4.2 r hr' with h0 | h0
  · exact hmk.2 r h0
  · right
    cases hc : F.blocks r with
    | none => rfl
    | some o => rw [hF1.blocks r o hc] at h0; cases h0
end rangeFunc

/-! ### Owned slices: opened, closed -/
/-- The field's slice, seen: its value, and the heap in which its block is told. -/
def Opened (B : RO) (h : Heap) (b : Nat) (t : TypeId) (fs : List Fld) (n i : Nat) (e : TypeId) (sz : Nat) (xs : List Value) (v : Value) (h' : Heap) : Prop :=
  (v = .slice none 0 0 ∧ xs = [] ∧ h' = h.set b (.vec t (fs.set i (.plain v)) n)) ∨
  ∃ k m c nn, h k = none ∧ B k = none ∧ k ≠ b ∧ v = .slice (some ⟨k, 0, none⟩) m c ∧ m * sz = xs.length ∧ m ≤ c ∧ c * sz ≤ nn ∧ xs.length ≤ nn ∧
    h' = (h.set b (.vec t (fs.set i (.plain v)) n)).set k (.vec e (xs.map .plain) nn)

theorem Rel.opened {B : RO} {F : Fr} {h : Heap} {w : World} (R : Rel B F h w) {b : Nat} {t : TypeId} {fs : List Fld} {n i : Nat} {e : TypeId} {sz : Nat} {xs : List Value} (hb : h b = some (.vec t fs n)) (hi : fs[i]? = some (.own e sz xs)) :
    ∃ v h', Opened B h b t fs n i e sz xs v h' ∧ Rel B F h' w := by
  obtain ⟨own, R⟩ := R
  obtain ⟨hob, hle, cs, fr, h1, h2, h3, h4⟩ := R.obj _ _ hb
  have hil := (List.getElem?_eq_some_iff.1 hi).1
  have hlt : i < cs.size := by omega
  have hown := h4 i cs[i] (Array.getElem?_eq_getElem hlt) _ hi
  -- the block itself, its field plain, whatever becomes of the owners but for this field
  have hblk : ∀ (own' : Nat → Option (Nat × Nat)), (∀ k j, j ≠ i → own k = some (b, j) → own' k = some (b, j)) → RepO w own' b (.vec t (fs.set i (.plain cs[i])) n) := by
    intro own' hk
    refine ⟨by simpa using hle, cs, fr, h1, h2, h3, ?_⟩
    intro j v hv f hf
    rw [List.getElem?_set] at hf
    split at hf
    · rename_i e'
      subst e'
      rw [Array.getElem?_eq_getElem hlt] at hv
      simp only [Option.some.injEq] at hf
      cases hv
      subst hf
      rfl
    · rename_i e'
      exact (h4 j v hv f hf).keep (fun k hk' => ⟨hk k j (Ne.symm e') hk', rfl⟩)
  rcases hown with ⟨hv, hx⟩ | ⟨k, m, c, nn, hv, hk, hm, hmc, hc, hxn, hvec⟩
  · rw [hv] at hblk
    refine ⟨.slice none 0 0, _, .inl ⟨rfl, hx, rfl⟩, own, ?_⟩
    exact R.change (by simp [hb]) rfl rfl rfl (Nat.le_refl _) (fun _ _ _ => rfl) (hblk own (fun k j _ hk => hk))
  · rw [hv] at hblk
    have hkb : k ≠ b := fun e' => by rw [e', hob] at hk; cases hk
    have hkh : h k = none := by
      cases hc' : h k with
      | none => rfl
      | some o => have := (R.obj k o hc').1; rw [hk] at this; cases this
    have hkB : B k = none := by
      cases hc' : B k with
      | none => rfl
      | some o => have := (R.ro k o hc').2.2.1; rw [hk] at this; cases this
    refine ⟨_, _, .inr ⟨k, m, c, nn, hkh, hkB, hkb, rfl, hm, hmc, hc, hxn, rfl⟩, fun c' => if c' = k then none else own c', ?_⟩
    have hne : ∀ c' o, h c' = some o → c' ≠ k := fun c' o hc' e' => by rw [e', hkh] at hc'; cases hc'
    refine ⟨R.os, R.tape, R.output, R.low, ?_, ?_, ?_, ?_⟩
    · intro c' o hc'
      obtain ⟨b1, b2, b3⟩ := R.fr c' o hc'
      have hck : c' ≠ k := fun e' => by rw [e', hk] at b3; cases b3
      have hcb : c' ≠ b := fun e' => by rw [e', hb] at b2; cases b2
      exact ⟨b1, by rw [Heap.set_ne _ _ _ _ hck, Heap.set_ne _ _ _ _ hcb]; exact b2, by simp only [if_neg hck]; exact b3⟩
    · intro c' o hc'
      obtain ⟨b1, b2, b3, b4⟩ := R.ro c' o hc'
      have hck : c' ≠ k := fun e' => by rw [e', hk] at b3; cases b3
      have hcb : c' ≠ b := fun e' => by rw [e', hb] at b2; cases b2
      exact ⟨b1, by rw [Heap.set_ne _ _ _ _ hck, Heap.set_ne _ _ _ _ hcb]; exact b2, by simp only [if_neg hck]; exact b3, b4⟩
    · intro c' o hc'
      by_cases hck : c' = k
      · subst hck
        rw [Heap.set_same] at hc'
        cases hc'
        refine ⟨by simp, by simpa using hxn, hvec.imp rfl ?_⟩
        intro j u hu f hf
        rw [List.getElem?_map] at hf
        cases hx : xs[j]? with
        | none => rw [hx] at hf; cases hf
        | some x => rw [hx] at hf; cases hf; exact hu x hx
      · rw [Heap.set_ne _ _ _ _ hck] at hc'
        by_cases hcb : c' = b
        · subst hcb
          rw [Heap.set_same] at hc'
          cases hc'
          refine ⟨by simp only [if_neg hck]; exact hob, hblk _ ?_⟩
          intro k' j hj hk'
          have : k' ≠ k := fun e' => by rw [e', hk] at hk'; cases hk'; exact hj rfl
          simp only [if_neg this]; exact hk'
        · rw [Heap.set_ne _ _ _ _ hcb] at hc'
          obtain ⟨b1, b2⟩ := R.obj c' o hc'
          refine ⟨by simp only [if_neg hck]; exact b1, b2.keep rfl (fun k' j hk' => ⟨?_, rfl⟩)⟩
          have : k' ≠ k := fun e' => by rw [e', hk] at hk'; cases hk'; exact hcb rfl
          simp only [if_neg this]; exact hk'
    · intro k' p hk'
      split at hk'
      · cases hk'
      · exact R.owned k' p hk'

theorem Ent.close {B : RO} {h : Heap} {b k : Nat} {t : TypeId} {fs : List Fld} {n i m c nn : Nat} {e : TypeId} {sz : Nat} {xs : List Value} (hb : h b = some (.vec t fs n)) (hi : fs[i]? = some (.plain (.slice (some ⟨k, 0, none⟩) m c)))
    (hk : h k = some (.vec e (xs.map .plain) nn)) (hne : k ≠ b) (hm : m * sz = xs.length) (hmc : m ≤ c) (hc : c * sz ≤ nn) : Ent B h ((h.del k).set b (.vec t (fs.set i (.own e sz xs)) n)) := by
  refine ⟨fun c' e' => ?_, ?_⟩
  · have hcb : c' ≠ b := fun x => by rw [x, hb] at e'; cases e'
    rw [Heap.set_ne _ _ _ _ hcb]
    by_cases hck : c' = k
    · rw [hck, Heap.del_same]
    · rw [Heap.del_ne _ _ _ hck]; exact e'
  rintro F w ⟨own, R⟩
  obtain ⟨hob, hle, cs, fr, h1, h2, h3, h4⟩ := R.obj _ _ hb
  obtain ⟨hok, hxn, hvec⟩ := R.obj _ _ hk
  have hil := (List.getElem?_eq_some_iff.1 hi).1
  have hlt : i < cs.size := by omega
  have hkl := hvec.lt
  refine ⟨fun c' => if c' = k then some (b, i) else own c', R.os, R.tape, R.output, R.low, ?_, ?_, ?_, ?_⟩
  · intro c' o hc'
    obtain ⟨b1, b2, b3⟩ := R.fr c' o hc'
    have hck : c' ≠ k := fun e' => by rw [e', hk] at b2; cases b2
    have hcb : c' ≠ b := fun e' => by rw [e', hb] at b2; cases b2
    exact ⟨b1, by rw [Heap.set_ne _ _ _ _ hcb, Heap.del_ne _ _ _ hck]; exact b2, by simp only [if_neg hck]; exact b3⟩
  · intro c' o hc'
    obtain ⟨b1, b2, b3, b4⟩ := R.ro c' o hc'
    have hck : c' ≠ k := fun e' => by rw [e', hk] at b2; cases b2
    have hcb : c' ≠ b := fun e' => by rw [e', hb] at b2; cases b2
    exact ⟨b1, by rw [Heap.set_ne _ _ _ _ hcb, Heap.del_ne _ _ _ hck]; exact b2, by simp only [if_neg hck]; exact b3, b4⟩
  · have hkeep : ∀ k' p, own k' = some p → (fun c' => if c' = k then some (b, i) else own c') k' = some p := by
      intro k' p hk'
      have : k' ≠ k := fun e' => by rw [e', hok] at hk'; cases hk'
      simp only [if_neg this]; exact hk'
    intro c' o hc'
    by_cases hcb : c' = b
    · subst hcb
      rw [Heap.set_same] at hc'
      cases hc'
      refine ⟨by simp only [if_neg (Ne.symm hne)]; exact hob, by simpa using hle, cs, fr, h1, h2, h3, ?_⟩
      intro j v hv f hf
      rw [List.getElem?_set] at hf
      split at hf
      · rename_i e'
        subst e'
        rw [Array.getElem?_eq_getElem hlt] at hv
        simp only [Option.some.injEq] at hf
        cases hv
        subst hf
        have hv := h4 i cs[i] (Array.getElem?_eq_getElem hlt) _ hi
        simp only [RepF] at hv
        refine .inr ⟨k, m, c, nn, hv, by simp, hm, hmc, hc, by simpa using hxn, hvec.imp rfl ?_⟩
        intro j u hu x hx
        exact hu (.plain x) (by rw [List.getElem?_map, hx]; rfl)
      · rename_i e'
        exact (h4 j v hv f hf).keep (fun k' hk' => ⟨hkeep k' _ hk', rfl⟩)
    · rw [Heap.set_ne _ _ _ _ hcb] at hc'
      by_cases hck : c' = k
      · subst hck
        rw [Heap.del_same] at hc'
        cases hc'
      · rw [Heap.del_ne _ _ _ hck] at hc'
        obtain ⟨b1, b2⟩ := R.obj c' o hc'
        exact ⟨by simp only [if_neg hck]; exact b1, b2.keep rfl (fun k' j hk' => ⟨hkeep k' _ hk', rfl⟩)⟩
  · intro k' p hk'
    split at hk'
    · rename_i e'; rw [e']; exact hkl
    · exact R.owned k' p hk'

theorem Ent.close_nil {B : RO} {h : Heap} {b : Nat} {t : TypeId} {fs : List Fld} {n i : Nat} {e : TypeId} {sz : Nat} (hb : h b = some (.vec t fs n)) (hi : fs[i]? = some (.plain (.slice none 0 0))) : Ent B h (h.set b (.vec t (fs.set i (.own e sz [])) n)) := by
  refine ⟨fun c' e' => by rw [Heap.set_ne _ _ _ _ (fun x => by rw [x, hb] at e'; cases e')]; exact e', ?_⟩
  rintro F w ⟨own, R⟩
  obtain ⟨hob, hle, cs, fr, h1, h2, h3, h4⟩ := R.obj _ _ hb
  have hil := (List.getElem?_eq_some_iff.1 hi).1
  have hlt : i < cs.size := by omega
  refine ⟨own, R.change (by simp [hb]) rfl rfl rfl (Nat.le_refl _) (fun _ _ _ => rfl) ⟨by simpa using hle, cs, fr, h1, h2, h3, ?_⟩⟩
  intro j v hv f hf
  rw [List.getElem?_set] at hf
  split at hf
  · rename_i e'
    subst e'
    rw [Array.getElem?_eq_getElem hlt] at hv
    simp only [Option.some.injEq] at hf
    cases hv
    subst hf
    have hv := h4 i cs[i] (Array.getElem?_eq_getElem hlt) _ hi
    exact .inl ⟨hv, rfl⟩
  · exact h4 j v hv f hf
end Go.Proofs.Ythloobpjkeodgaa.H

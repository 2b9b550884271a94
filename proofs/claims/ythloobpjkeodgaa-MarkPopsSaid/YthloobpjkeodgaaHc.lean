/- The heap logic, part 3: a function's contract out of its code's run; rounds, and a range over a function; opening and closing of owned slices. No condition. -/
import Derived.Test.YthloobpjkeodgaaHb
namespace Go.Proofs.Ythloobpjkeodgaa.H
open Go
set_option linter.unusedVariables false

/-! ### A function's end -/
section ends
variable {P : Program} {b : Frame} {tm : Array Value} {ds : List Nat} {k : List Item} {cs : List Frame} {w : World}

def done (b : Frame) (tm : Array Value) (dl : List Deferred) (todo : List Item) : Frame := { b with tmps := tm, todo := todo, defers := dl, mode := .returning }

theorem step_leave_fall (hr : b.roundOf = none) : step P (lone (frm b tm ds []) cs w) = .next (lone (done b tm (ds.map mark) []) cs w) :=
  step_lone_go (by simp [stepG, stepG.exec, frm, done, hr])
theorem step_leave_ret (hr : b.roundOf = none) : step P (lone (frm b tm ds (.code .ret :: k)) cs w) = .next (lone (done b tm (ds.map mark) (.code .ret :: k)) cs w) :=
  step_lone_go (by simp [stepG, stepG.exec, frm, done, hr])

theorem step_mark {r : Nat} {dl : List Deferred} (hw : w.heap[r]? = some (.deferred (some []))) :
    step P (lone (done b tm (mark r :: dl) k) cs w) = .next (lone (done b tm dl k) cs { w with heap := w.heap.setIfInBounds r (.deferred none) }) := by
  refine step_lone_go ?_
  have : (Instr.takeDeferred r).run P w = .ok [] { w with heap := w.heap.setIfInBounds r (.deferred none) } := by
    show Sem.run P ((getObj r).bind _) w = _
    simp only [getObj, Sem.bind, Sem.run, hw]
    show Sem.run P ((setObj r _).bind _) w = _
    simp only [setObj, Sem.bind, Sem.run, hw]
    rfl
  simp [stepG, unwind, done, mark, Sem.runT_eq, this, GStep.bare_after]
end ends

theorem unmark {P : Program} {B : RO} {b : Frame} {tm : Array Value} {k : List Item} {cs : List Frame} : ∀ (ds : List Nat) (F F' : Fr) (h : Heap) (w : World), MarksOK F' ds → (∀ r ∈ ds, F.blocks r = none) → F.Le F' → Rel B F' h w →
    ∃ w', Steps P (lone (done b tm (ds.map mark) k) cs w) (lone (done b tm [] k) cs w') ∧ Rel B F h w' := by
  intro ds
  induction ds with
  | nil => intro F F' h w _ _ hle R; exact ⟨w, .refl _ _, R.le hle⟩
  | cons r ds ih =>
    rintro F F' h w ⟨hnd, hm⟩ hn hle ⟨own, R⟩
    have hr := hm r (by simp)
    obtain ⟨a1, a2, a3⟩ := R.fr r _ hr
    rw [List.nodup_cons] at hnd
    have R2 : RelO B { F' with blocks := fun c => if c = r then none else F'.blocks c } h own { w with heap := w.heap.setIfInBounds r (.deferred none) } := by
      have hg : ∀ c, c ≠ r → (w.heap.setIfInBounds r (.deferred none))[c]? = w.heap[c]? := fun c hc => Array.getElem?_setIfInBounds_ne (Ne.symm hc)
      refine ⟨R.os, R.tape, R.output, by simpa using R.low, ?_, ?_, ?_, fun k p hk => by simpa using R.owned k p hk⟩
      · intro c o hc
        simp only at hc
        split at hc
        · cases hc
        · rename_i hne
          obtain ⟨b1, b2, b3⟩ := R.fr c o hc
          exact ⟨(hg c hne).trans b1, b2, b3⟩
      · intro c o hc
        obtain ⟨b1, b2, b3, b4⟩ := R.ro c o hc
        have hne : c ≠ r := fun e => by rw [e, hr] at b4; cases b4
        exact ⟨(hg c hne).trans b1, b2, b3, by simp only [if_neg hne]; exact b4⟩
      · intro c o hc
        obtain ⟨b1, b2⟩ := R.obj c o hc
        exact ⟨b1, b2.keep (hg c (fun e => by subst e; rw [a2] at hc; cases hc)) (fun k i hk => ⟨hk, hg k (fun e => by subst e; rw [a3] at hk; cases hk)⟩)⟩
    obtain ⟨w', hs, R'⟩ := ih F { F' with blocks := fun c => if c = r then none else F'.blocks c } h _ ⟨hnd.2, fun r' hr' => by
        have hne : r' ≠ r := fun e => hnd.1 (e ▸ hr')
        simp only [if_neg hne]
        exact hm r' (by simp [hr'])⟩ (fun r' hr' => hn r' (by simp [hr'])) ⟨fun c o hc => by
          have hne : c ≠ r := fun e => by rw [e, hn r (by simp)] at hc; cases hc
          simp only [if_neg hne]
          exact hle.blocks c o hc, hle.os, hle.tape, hle.output, hle.low⟩ ⟨own, R2⟩
    exact ⟨w', .head (step_mark a1) hs, R'⟩

/-! ### What only reads leaves the world as it was -/
def quietS {α : Type} : Sem α → Prop
  | .pure _ => True
  | .load _ _ k => ∀ v, quietS (k v)
  | .shape _ k => ∀ v, quietS (k v)
  | .frozen _ k => ∀ v, quietS (k v)
  | .getObj _ k => ∀ v, quietS (k v)
  | .program k => ∀ v, quietS (k v)
  | .mark _ k => quietS k
  | .halt _ => True
  | _ => False

theorem quietS_bind {α β : Type} {s : Sem α} {f : α → Sem β} (hs : quietS s) (hf : ∀ a, quietS (f a)) : quietS (s >>= f) := by
  show quietS (s.bind f)
  induction s with
  | pure a => exact hf a
  | load m a k ih => exact fun v => ih v (hs v)
  | shape r k ih => exact fun v => ih v (hs v)
  | frozen r k ih => exact fun v => ih v (hs v)
  | getObj r k ih => exact fun v => ih v (hs v)
  | program k ih => exact fun v => ih v (hs v)
  | mark m k ih => exact ih hs
  | halt x => trivial
  | _ => exact hs.elim

theorem quietS_run {P : Program} {α : Type} {s : Sem α} : ∀ {w w' : World} {a : α}, quietS s → s.run P w = .ok a w' → w' = w := by
  induction s with
  | pure a => intro w w' x _ h; cases h; rfl
  | load m a k ih =>
    intro w w' x hq h
    simp only [Sem.run] at h
    split at h
    · exact ih _ (hq _) h
    · split at h
      · exact ih _ (hq _) h
      · cases h
  | shape r k ih => intro w w' x hq h; exact ih _ (hq _) h
  | frozen r k ih => intro w w' x hq h; exact ih _ (hq _) h
  | getObj r k ih =>
    intro w w' x hq h
    simp only [Sem.run] at h
    split at h
    · cases h
    · exact ih _ (hq _) h
    · cases h
  | program k ih => intro w w' x hq h; exact ih _ (hq _) h
  | mark m k ih => intro w w' x hq h; exact ih hq h
  | halt x => intro w w' x _ h; cases h
  | store m a v k ih => intro w w' x hq; exact hq.elim
  | new o k ih => intro w w' x hq; exact hq.elim
  | freeze a n k ih => intro w w' x hq; exact hq.elim
  | setObj r o k ih => intro w w' x hq; exact hq.elim
  | choose q k ih => intro w w' x hq; exact hq.elim
  | sys c k ih => intro w w' x hq; exact hq.elim

theorem quiet_loadCells (a : Addr) : ∀ (n i : Nat) (acc : Array Value), quietS (loadCellsFrom a i n acc) := by
  intro n
  induction n with
  | zero => intro i acc; trivial
  | succ n ih => intro i acc; exact quietS_bind (fun v => trivial) (fun v => ih _ _)

theorem quiet_underlying (t : TypeId) : quietS (underlying t) := quietS_bind (fun _ => trivial) (fun p => by cases p.underlying t <;> trivial)
theorem quiet_sizeOf (t : TypeId) : quietS (sizeOf t) := quietS_bind (quietS_bind (fun _ => trivial) (fun p => by cases p.info? t <;> trivial)) (fun _ => trivial)
theorem quiet_loadVar (t : TypeId) (a : Addr) : quietS (loadVar t a) := by
  unfold loadVar
  refine quietS_bind (quietS_bind (quiet_underlying t) (fun d => by cases d <;> trivial)) (fun b => ?_)
  cases b
  · exact fun v => trivial
  · exact quietS_bind (quiet_sizeOf t) fun n => quietS_bind (quiet_loadCells a n 0 #[]) (fun _ => trivial)

/-! ### The results -/
def loadH (P : Program) (B : RO) (h : Heap) (t : TypeId) (A : Addr) (v : Value) : Prop := semH P B (loadVar t A) h (fun v' h' => v' = v ∧ h' = h)

def resH (P : Program) (B : RO) (h : Heap) (e : Env) : List ResultVar → (List Value → Prop) → Prop
  | [], K => K []
  | .tmp t :: rs, K => resH P B h e rs (fun vs => K (e t :: vs))
  | .cell a t :: rs, K => ∃ A v, e a = .pointer (some A) ∧ loadH P B h t A v ∧ resH P B h e rs (fun vs => K (v :: vs))

def resSem (tm : Array Value) : ResultVar → Sem Value
  | .tmp t => pure (tm.getD t undef)
  | .cell a t => do loadVar t (← asAddr (tm.getD a undef))

def pack : List Value → Value
  | [v] => v
  | vs => .tuple vs.toArray

theorem pack_eq (vs : List Value) : (if h : vs.toArray.size = 1 then vs.toArray[0] else Value.tuple vs.toArray) = pack vs := by
  match vs with
  | [] => rfl
  | [v] => rfl
  | _ :: _ :: _ => simp [pack]

theorem resH_run {P : Program} {B : RO} {F : Fr} {h : Heap} {e : Env} {w : World} {tm : Array Value} {N : Nat} (he : EnvOK tm N e) (R : Rel B F h w) : ∀ (rs : List ResultVar) (K : List Value → Prop), resH P B h e rs K →
    ∃ vs, (rs.mapM (resSem tm)).run P w = Result.ok vs w ∧ K vs := by
  intro rs
  induction rs with
  | nil => intro K hK; exact ⟨[], rfl, hK⟩
  | cons r rs ih =>
    intro K hK
    cases r with
    | tmp t =>
      obtain ⟨vs, h1, h2⟩ := ih _ hK
      refine ⟨e t :: vs, ?_, h2⟩
      rw [List.mapM_cons]
      simp only [resSem, he.get, pure_bind]
      rw [Sem.run_bind, h1]
      rfl
    | cell a t =>
      obtain ⟨A, v, ha, hl, hK⟩ := hK
      obtain ⟨vs, h1, h2⟩ := ih _ hK
      obtain ⟨v', w', h', hr, _, rfl, _⟩ := semH_sound hl R
      have hw := quietS_run (quiet_loadVar t A) hr
      subst hw
      refine ⟨v' :: vs, ?_, h2⟩
      rw [List.mapM_cons]
      simp only [resSem, he.get, ha]
      have : (asAddr (.pointer (some A)) : Sem Addr) = pure A := rfl
      rw [this]
      simp only [pure_bind]
      rw [Sem.run_bind, hr]
      simp only [Result.andThen]
      rw [Sem.run_bind, h1]
      rfl

theorem results_resH {P : Program} {B : RO} {F : Fr} {h : Heap} {e : Env} {w : World} {tm : Array Value} {N : Nat} (he : EnvOK tm N e) (R : Rel B F h w) {fn : Func} {rs : List ResultVar} (hrs : fn.results = rs.toArray) {K : List Value → Prop}
    (hK : resH P B h e rs K) : ∃ vs, (results fn tm).run P w = .ok (pack vs) w ∧ K vs := by
  obtain ⟨vs, h1, h2⟩ := resH_run he R rs K hK
  refine ⟨vs, ?_, h2⟩
  have hun : results fn tm = (do let vs ← fn.results.mapM (resSem tm); pure (if h : vs.size = 1 then vs[0] else .tuple vs)) := rfl
  rw [hun, hrs, List.mapM_toArray, Sem.run_bind, ← bind_pure_comp, Sem.run_bind, h1]
  simp only [Result.andThen]
  exact congrArg (fun v => Result.ok v w) (pack_eq vs)

theorem Spec.of_run {P : Program} {B : RO} {f : FuncId} {fn : Func} {c : Code} {rs : List ResultVar} {N : Nat} {args : Array Value} {h : Heap} {Post : Value → Heap → Prop} (hf : P.funcs[f]? = some fn) (hc : fn.body = some c) (hrs : fn.results = rs.toArray) (hN : fn.ntmps = N) (hn : args.size ≤ N)
    (hr : Run P B N [.code c] (env0 args) h (fun j e h' => (j = .fall ∨ j = .ret) ∧ resH P B h' e rs (fun vs => Fin B h' (Post (pack vs))))) :
    Spec P B f args h Post := by
  subst hN
  intro F w R cs
  let b : Frame := { (default : Frame) with fn := f, kind := .normal, roundOf := none }
  have hent : Frame.enter P f args .normal = frm b (args ++ Array.replicate (fn.ntmps - args.size) undef) [] [.code c] := by
    simp [Frame.enter, frm, b, hf, hc]
  have he : EnvOK (args ++ Array.replicate (fn.ntmps - args.size) undef) fn.ntmps (env0 args) := by
    refine ⟨by simp; omega, fun t => ?_⟩
    simp only [env0, Array.getD_eq_getD_getElem?]
    by_cases ht : t < args.size
    · rw [Array.getElem?_append_left ht]
    · rw [Array.getElem?_append_right (by omega)]
      have h1 : args[t]? = none := Array.getElem?_eq_none (by omega)
      rw [h1]
      simp only [Array.getElem?_replicate]
      split <;> rfl
  obtain ⟨F', j, todo', tm', ds', w', e', h', s1, s2, s3, s4, s5, R6, s7, hj, hres⟩ := hr F w b cs _ [] (fun l hl => by simp [b] at hl) ⟨by simp, by simp⟩ R he
  have hb : b.roundOf = none := rfl
  have hleave : ∃ k, Steps P (lone (frm b tm' ds' todo') cs w') (lone (done b tm' (ds'.map mark) k) cs w') := by
    rcases hj with rfl | rfl
    · exact ⟨[], by rw [show todo' = [] from s2]; exact .one (step_leave_fall hb)⟩
    · obtain ⟨k, hk⟩ := s2
      exact ⟨_, by rw [hk]; exact .one (step_leave_ret hb)⟩
  obtain ⟨k, hk⟩ := hleave
  have hnew : ∀ r ∈ ds', F.blocks r = none := fun r hr' => (s4.2 r hr').resolve_left (by simp)
  obtain ⟨w2, hu, R2⟩ := unmark (P := P) (b := b) (tm := tm') (k := k) (cs := cs) ds' F F' h' w' s4.1 hnew s5 R6
  obtain ⟨vs, hrun, h4, hent4, hP⟩ := results_resH s7 R2 hrs hres
  refine ⟨.returned (pack vs), w2, done b tm' [] k, ⟨_, h4, rfl, hent4.2 F w2 R2, hP⟩, ?_, rfl, ?_⟩
  · show Steps P _ _
    rw [hent]
    exact Steps.trans s1 (Steps.trans hk hu)
  · exact ⟨rfl, rfl, rfl, fn, hf, hrun⟩

/-! ### Hiding a block, and showing it again -/
theorem RelO.hide {B : RO} {F : Fr} {h : Heap} {own : Nat → Option (Nat × Nat)} {w : World} {r : Nat} {o : Obj} (R : RelO B F (h.set r (.raw o)) own w) (hr : h r = none) (hB : B r = none) : RelO B (F.add r o) h own w := by
  obtain ⟨a1, a2⟩ := R.obj r (.raw o) (Heap.set_same _ _ _)
  refine ⟨R.os, R.tape, R.output, R.low, ?_, ?_, ?_, R.owned⟩
  · intro c o' hc
    simp only [Fr.add] at hc
    split at hc
    · rename_i e
      subst e
      cases hc
      exact ⟨a2, hr, a1⟩
    · rename_i hne
      obtain ⟨b1, b2, b3⟩ := R.fr c o' hc
      exact ⟨b1, by rwa [Heap.set_ne _ _ _ _ hne] at b2, b3⟩
  · intro c o' hc
    obtain ⟨b1, b2, b3, b4⟩ := R.ro c o' hc
    have hne : c ≠ r := fun e => by rw [e, hB] at hc; cases hc
    exact ⟨b1, by rwa [Heap.set_ne _ _ _ _ hne] at b2, b3, by simp only [Fr.add, if_neg hne]; exact b4⟩
  · intro c o' hc
    have hne : c ≠ r := fun e => by rw [e, hr] at hc; cases hc
    exact R.obj c o' (by rw [Heap.set_ne _ _ _ _ hne]; exact hc)

theorem RelO.unhide {B : RO} {F F' : Fr} {h : Heap} {own : Nat → Option (Nat × Nat)} {w : World} {r : Nat} {o : Obj} (R : RelO B F' h own w) (hle : F.Le F') (hr : F'.blocks r = some o) (hF : F.blocks r = none) : RelO B F (h.set r (.raw o)) own w := by
  obtain ⟨a1, a2, a3⟩ := R.fr r o hr
  have R' := R.le hle
  refine ⟨R'.os, R'.tape, R'.output, R'.low, ?_, ?_, ?_, R'.owned⟩
  · intro c o' hc
    have hne : c ≠ r := fun e => by rw [e, hF] at hc; cases hc
    obtain ⟨b1, b2, b3⟩ := R'.fr c o' hc
    exact ⟨b1, by rw [Heap.set_ne _ _ _ _ hne]; exact b2, b3⟩
  · intro c o' hc
    obtain ⟨b1, b2, b3, b4⟩ := R.ro c o' hc
    have hne : c ≠ r := fun e => by rw [e, hr] at b4; cases b4
    exact ⟨b1, by rw [Heap.set_ne _ _ _ _ hne]; exact b2, b3, (R'.ro c o' hc).2.2.2⟩
  · intro c o' hc
    by_cases hne : c = r
    · subst hne
      rw [Heap.set_same] at hc
      cases hc
      exact ⟨a3, a1⟩
    · rw [Heap.set_ne _ _ _ _ hne] at hc
      exact R.obj c o' hc

/-- What is no longer told. -/
theorem RelO.forget {B : RO} {F : Fr} {h h' : Heap} {own : Nat → Option (Nat × Nat)} {w : World} (R : RelO B F h own w) (hh : ∀ c o, h' c = some o → h c = some o) : RelO B F h' own w := by
  have hn : ∀ c, h c = none → h' c = none := fun c hc => by
    cases h1 : h' c with
    | none => rfl
    | some o => rw [hh c o h1] at hc; cases hc
  exact ⟨R.os, R.tape, R.output, R.low, fun c o hc => ⟨(R.fr c o hc).1, hn c (R.fr c o hc).2.1, (R.fr c o hc).2.2⟩, fun c o hc => ⟨(R.ro c o hc).1, hn c (R.ro c o hc).2.1, (R.ro c o hc).2.2⟩, fun c o hc => R.obj c o (hh c o hc), R.owned⟩
theorem Ent.forget {B : RO} {h h' : Heap} (hh : ∀ c o, h' c = some o → h c = some o) : Ent B h h' := ⟨fun c e => (by
    cases e' : h' c with
    | none => rfl
    | some o => rw [hh c o e'] at e; cases e), fun F w ⟨own, R⟩ => ⟨own, R.forget hh⟩⟩
theorem Ent.del (B : RO) (h : Heap) (b : Nat) : Ent B h (h.del b) := Ent.forget fun c o hc => by
  simp only [Heap.del] at hc
  split at hc
  · cases hc
  · exact hc
end Go.Proofs.Ythloobpjkeodgaa.H

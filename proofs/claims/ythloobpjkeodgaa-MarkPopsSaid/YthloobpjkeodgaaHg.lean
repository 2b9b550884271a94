/- The heap logic, part 7: operations that call, make memory, cut, convert, compare. No condition. -/
import Derived.Test.YthloobpjkeodgaaHf
namespace Go.Proofs.Ythloobpjkeodgaa.H
open Go
set_option linter.unusedVariables false

section
variable {P : Program} {B : RO} {h : Heap} {ρ : Operand → Value} {d : Option Nat} {ty : TypeId} {pos : String} {aft : Array Edge} {g : Option (Nat × Bool)} {K : Next → Heap → Prop}

/-! ### Calls -/
theorem sem_callC {fo : Operand} {args : Array Operand} {tys : Array TypeId} {f : FuncId} (first captured vs ws : Array Value) (hg : Goes P f) (hf : ρ fo = .func (.func f) first captured) (ha : args.map ρ = vs) (hw : first ++ vs ++ captured = ws) (k : K (.enter f ws) h) :
    semH P B (execOp ρ ⟨d, .call ⟨.value fo, args, tys⟩, ty, pos, aft, g⟩) h K := by
  subst ha hw
  show semH P B (do let d ← resolve ρ ⟨.value fo, args, tys⟩ ty; invoke d.target d.args) h K
  have : resolve ρ ⟨.value fo, args, tys⟩ ty = pure { target := .fn (.func f) captured, args := first ++ args.map ρ } := by
    simp only [resolve, hf, Deferred.ofValue]
  rw [this, pure_bind]
  exact semH_callFunc hg k
theorem sem_call {f : FuncId} {args : Array Operand} {tys : Array TypeId} (vs : Array Value) (hg : Goes P f) (hf : ρ (.func f) = .func (.func f) #[] #[]) (ha : args.map ρ = vs) (k : K (.enter f vs) h) :
    semH P B (execOp ρ ⟨d, .call ⟨.value (.func f), args, tys⟩, ty, pos, aft, g⟩) h K :=
  sem_callC #[] #[] vs vs hg hf ha (by simp) k
theorem sem_callX {f : FuncId} {e : Array Value → Sem Value} {args : Array Operand} {tys : Array TypeId} (vs : Array Value) (hg : GoesX P f e) (hf : ρ (.func f) = .func (.func f) #[] #[]) (ha : args.map ρ = vs) (hs : semH P B (e vs) h (fun v h' => K (.value v) h')) :
    semH P B (execOp ρ ⟨d, .call ⟨.value (.func f), args, tys⟩, ty, pos, aft, g⟩) h K := by
  subst ha
  show semH P B (do let d ← resolve ρ ⟨.value (.func f), args, tys⟩ ty; invoke d.target d.args) h K
  have : resolve ρ ⟨.value (.func f), args, tys⟩ ty = pure { target := .fn (.func f) #[], args := #[] ++ args.map ρ } := by
    simp only [resolve, hf, Deferred.ofValue]
  rw [this, pure_bind]
  show semH P B (callFunc f (#[] ++ args.map ρ ++ #[])) h K
  rw [Array.empty_append, Array.append_empty]
  exact semH_callX hg hs
theorem sem_yield {fo : Operand} {args : Array Operand} {tys : Array TypeId} {l : Nat} {rec : Loop} (vs : Array Value) (hf : ρ fo = .func (.yield l) #[] #[]) (ha : args.map ρ = vs) (hl : h l = some (.raw (.loop rec))) (hn : vs.size = rec.params.size)
    (k : K (.round l rec.fn ((rec.params.zip vs).foldl (fun tmps (t, a) => tmps.setIfInBounds t a) rec.tmps) rec.assign rec.body) h) :
    semH P B (execOp ρ ⟨d, .call ⟨.value fo, args, tys⟩, ty, pos, aft, g⟩) h K := by
  subst ha
  show semH P B (do let d ← resolve ρ ⟨.value fo, args, tys⟩ ty; invoke d.target d.args) h K
  have : resolve ρ ⟨.value fo, args, tys⟩ ty = pure { target := .fn (.yield l) #[], args := args.map ρ } := by
    simp [resolve, hf, Deferred.ofValue]
  rw [this, pure_bind]
  show semH P B (Instr.yield l (args.map ρ)) h K
  unfold Instr.yield
  rw [semH_bind]
  show semH P B ((getObj l).bind _) h _
  simp only [getObj, Sem.bind]
  refine ⟨_, hl, rfl, ?_⟩
  show semH P B (if (args.map ρ).size ≠ rec.params.size then _ else _) h K
  rw [if_neg (by simpa using hn)]
  exact k

/-! ### New memory -/
def plains (vs : List Value) : List Fld := vs.map .plain
theorem plains_nil : plains [] = [] := rfl
theorem plains_cons (v : Value) (vs : List Value) : plains (v :: vs) = .plain v :: plains vs := rfl
theorem plains_length (vs : List Value) : (plains vs).length = vs.length := by simp [plains]
theorem plains_append (vs ws : List Value) : plains (vs ++ ws) = plains vs ++ plains ws := by simp [plains]
theorem plains_get (vs : List Value) (i : Nat) : (plains vs)[i]? = vs[i]?.map .plain := by simp [plains]
theorem plains_set (vs : List Value) (i : Nat) (v : Value) : (plains vs).set i (.plain v) = plains (vs.set i v) := by simp [plains, List.map_set]
theorem plains_take (vs : List Value) (i : Nat) : (plains vs).take i = plains (vs.take i) := by simp [plains, List.map_take]

theorem semH_newRow {t : TypeId} {cs : Array Value} {α : Type} {f : Addr → Sem α} {K : α → Heap → Prop} (k : ∀ b, h b = none → B b = none → semH P B (f ⟨b, 0, none⟩) (h.set b (.vec t (plains cs.toList) cs.size)) K) : semH P B (newRow t cs >>= f) h K := by
  rw [semH_bind]
  show semH P B ((newObj _).bind _) h _
  simp only [newObj, Sem.bind]
  intro b h1 h2
  exact k b h1 h2
theorem sem_box1 {t : TypeId} {x : Operand} (v : Value) (hx : ρ x = v) (ho : isOne v = true) (k : ∀ b, h b = none → B b = none → K (.value (.pointer (some ⟨b, 0, none⟩))) (h.set b (.vec t [.plain v] 1))) :
    semH P B (execOp ρ ⟨d, .box t x, ty, pos, aft, g⟩) h K := by
  subst hx
  refine semH_value.2 ?_
  simp only [Instr.box, newVar]
  have hc : (ρ x).cells = #[ρ x] := by
    cases hρ : ρ x <;> first
      | rfl
      | (rw [hρ] at ho; simp [isOne] at ho)
  rw [hc]
  exact semH_newRow k
theorem sem_boxN {t : TypeId} {x : Operand} (vs : List Value) (hx : ρ x = .agg vs.toArray) (k : ∀ b, h b = none → B b = none → K (.value (.pointer (some ⟨b, 0, none⟩))) (h.set b (.vec t (plains vs) vs.length))) :
    semH P B (execOp ρ ⟨d, .box t x, ty, pos, aft, g⟩) h K := by
  refine semH_value.2 ?_
  simp only [Instr.box, newVar, hx, Value.cells]
  exact semH_newRow (fun b h1 h2 => by have := k b h1 h2; simpa [semH_pure] using this)
theorem sem_alloc {t : TypeId} (zs : List Value) (hz : zeroB P t = some zs) (k : ∀ b, h b = none → B b = none → K (.value (.pointer (some ⟨b, 0, none⟩))) (h.set b (.vec t (plains zs) zs.length))) :
    semH P B (execOp ρ ⟨d, .alloc t, ty, pos, aft, g⟩) h K := by
  refine semH_value.2 ?_
  unfold Instr.alloc
  refine semH_zero hz fun v hv => ?_
  subst hv
  simp only [newVar]
  exact semH_newRow (fun b h1 h2 => by have := k b h1 h2; simpa [semH_pure] using this)

/-! ### Structs and rows written out -/
theorem sem_buildS {t : TypeId} {parts : Array (Nat × Operand)} {zs : List Value} {pl : List (Nat × Nat)} (vs : List (Nat × Value)) (cs : List Value) (hz : zeroB P t = some zs) (hp : strPlaces P t = some pl) (hv : parts.map (fun p => (p.1, ρ p.2)) = vs.toArray)
    (hc : Instr.fill (fun i => pl[i]?) zs.toArray vs = some cs.toArray) (k : K (.value (.agg cs.toArray)) h) : semH P B (execOp ρ ⟨d, .build t parts, ty, pos, aft, g⟩) h K := by
  refine semH_value.2 ?_
  have e : (parts.map fun x => match x with | (i, x) => (i, ρ x)) = vs.toArray := hv
  show semH P B (Instr.build t (parts.map fun x => match x with | (i, x) => (i, ρ x))) h _
  rw [e]
  unfold Instr.build
  refine semH_zero hz fun v hv' => ?_
  unfold strPlaces at hp
  split at hp
  · rename_i fs hu
    rw [semH_und hu]
    dsimp only
    -- the places, one by one
    have hm : ∀ (l : List Field) (pl : List (Nat × Nat)), l.mapM (fun f => (szB P f.type).map fun n => (f.offset, n)) = some pl → ∀ (K : List (Nat × Nat) → Heap → Prop), K pl h → semH P B (l.mapM (fun f => do pure (f.offset, ← sizeOf f.type))) h K := by
      intro l
      induction l with
      | nil => intro pl hl K hk; simp at hl; subst hl; exact hk
      | cons f l ih =>
        intro pl hl K hk
        rw [List.mapM_cons] at hl
        cases hs : szB P f.type with
        | none => simp [hs] at hl
        | some n =>
          cases hr : l.mapM (fun f => (szB P f.type).map fun n => (f.offset, n)) with
          | none => simp [hs, hr] at hl
          | some r =>
            simp [hs, hr] at hl
            subst hl
            rw [List.mapM_cons, semH_bind, semH_sz hs, semH_pure, semH_bind]
            exact ih r hr _ hk
    rw [semH_bind]
    have e2 : (fs.mapM fun f => (do pure (f.offset, ← sizeOf f.type) : Sem (Nat × Nat))) = List.toArray <$> fs.toList.mapM (fun f => (do pure (f.offset, ← sizeOf f.type) : Sem (Nat × Nat))) := by
      rw [← List.mapM_toArray]
    rw [e2, ← bind_pure_comp, semH_bind]
    refine hm _ _ hp _ ?_
    rw [semH_pure]
    have e3 : (fun i : Nat => pl.toArray[i]?) = (fun i : Nat => pl[i]?) := by funext i; simp
    have e4 : v.cells = zs.toArray := by rw [← hv']
    rw [e3, e4, hc]
    exact k
  · cases hp
theorem sem_buildA {t : TypeId} {parts : Array (Nat × Operand)} {zs : List Value} {n e sz : Nat} {b : Bool} (vs : List (Nat × Value)) (cs : List Value) (hz : zeroB P t = some zs) (hp : arrB P t = some (n, e, sz, b)) (hv : parts.map (fun p => (p.1, ρ p.2)) = vs.toArray)
    (hc : Instr.fill (fun i => some (i * sz, sz)) zs.toArray vs = some cs.toArray) (k : K (.value (.agg cs.toArray)) h) : semH P B (execOp ρ ⟨d, .build t parts, ty, pos, aft, g⟩) h K := by
  refine semH_value.2 ?_
  have e : (parts.map fun x => match x with | (i, x) => (i, ρ x)) = vs.toArray := hv
  show semH P B (Instr.build t (parts.map fun x => match x with | (i, x) => (i, ρ x))) h _
  rw [e]
  unfold Instr.build
  refine semH_zero hz fun v hv' => ?_
  have e4 : v.cells = zs.toArray := by rw [← hv']
  unfold arrB at hp
  split at hp
  · rename_i n' e' hu
    split at hp
    · rename_i s' b' hs hb
      simp only [Option.some.injEq, Prod.mk.injEq] at hp
      obtain ⟨rfl, rfl, rfl, rfl⟩ := hp
      rw [semH_und hu]
      dsimp only
      rw [semH_sz hs, e4, hc]
      exact k
    · cases hp
  · cases hp
theorem sem_buildSlice {t : TypeId} {len : Nat} {parts : Array (Nat × Operand)} {zs : List Value} {e sz bz : Nat} (vs : List (Nat × Value)) (cs : List Value) (ht : slcB P t = some (e, sz, bz)) (hz : zeroB P e = some zs) (hl : len * sz ≤ 16777216) (hl0 : len * sz ≠ 0) (hv : parts.map (fun p => (p.1, ρ p.2)) = vs.toArray)
    (hc : Instr.fill (fun i => some (i * sz, sz)) ((Array.range (len * sz)).map (zs.toArray[· % zs.length]!)) vs = some cs.toArray) (k : ∀ b, h b = none → B b = none → K (.value (.slice (some ⟨b, 0, none⟩) len len)) (h.set b (.vec e (plains cs) cs.length))) :
    semH P B (execOp ρ ⟨d, .buildSlice t len parts, ty, pos, aft, g⟩) h K := by
  refine semH_value.2 ?_
  have e0 : (parts.map fun x => match x with | (i, x) => (i, ρ x)) = vs.toArray := hv
  show semH P B (Instr.buildSlice t len (parts.map fun x => match x with | (i, x) => (i, ρ x))) h _
  rw [e0]
  unfold slcB at ht
  split at ht
  · rename_i e' hu
    cases hin : P.info? e' with
    | none => rw [hin] at ht; cases ht
    | some inf =>
      rw [hin] at ht
      simp only [Option.map_some, Option.some.injEq, Prod.mk.injEq] at ht
      obtain ⟨rfl, rfl, rfl⟩ := ht
      unfold Instr.buildSlice
      rw [semH_und hu]
      dsimp only
      rw [semH_sz (n := inf.size) (by simp [szB, hin])]
      rw [if_neg (by show ¬ (len * inf.size > 2 ^ 24); omega), pure_bind, if_neg hl0]
      refine semH_zero hz fun v hv' => ?_
      have e4 : v.cells = zs.toArray := by rw [← hv']
      simp only [pure_bind, e4, List.size_toArray]
      rw [hc]
      exact semH_newRow (fun b h1 h2 => by have := k b h1 h2; simpa [semH_pure] using this)
  · cases ht
theorem sem_buildSlice0 {t : TypeId} {e sz bz : Nat} (ht : slcB P t = some (e, sz, bz)) (k : ∀ b, h b = none → B b = none → K (.value (.slice (some ⟨b, 0, none⟩) 0 0)) (h.set b (.vec e [] 0))) :
    semH P B (execOp ρ ⟨d, .buildSlice t 0 #[], ty, pos, aft, g⟩) h K := by
  refine semH_value.2 ?_
  have e0 : (Array.map (fun x => match x with | (i, x) => (i, ρ x)) (#[] : Array (Nat × Operand))) = #[] := by simp
  rw [e0]
  unfold slcB at ht
  split at ht
  · rename_i e' hu
    cases hin : P.info? e' with
    | none => rw [hin] at ht; cases ht
    | some inf =>
      rw [hin] at ht
      simp only [Option.map_some, Option.some.injEq, Prod.mk.injEq] at ht
      obtain ⟨rfl, rfl, rfl⟩ := ht
      unfold Instr.buildSlice
      rw [semH_und hu]
      dsimp only
      rw [semH_sz (n := inf.size) (by simp [szB, hin])]
      simp only [Nat.zero_mul, if_true, pure_bind]
      rw [if_neg (by decide)]
      have e1 : (Array.range 0).map (fun x => (#[] : Array Value)[x % (#[] : Array Value).size]!) = #[] := by simp
      rw [e1]
      exact semH_newRow (fun b h1 h2 => by have := k b h1 h2; simpa [semH_pure, plains_nil] using this)
  · cases ht

/-! ### Cuts -/
theorem sliceBounds_eq {isS : Bool} {len cap l hh : Nat} {low high : Option Value} (hl : match low with | some v => ∃ kk, v = .int kk (l : Int) | none => l = 0) (hhi : match high with | some v => ∃ kk, v = .int kk (hh : Int) | none => hh = len) (h1 : l ≤ hh) (h2 : hh ≤ cap) :
    Instr.sliceBounds isS len cap low high none = pure (l, hh, cap) := by
  unfold Instr.sliceBounds
  cases high with
  | none =>
    simp only at hhi
    subst hhi
    cases low with
    | none => simp only at hl; subst hl; rfl
    | some v =>
      obtain ⟨kk, rfl⟩ := hl
      simp only [pure_bind, Instr.sliceBound, asIntOf]
      rw [if_pos ⟨by omega, by omega⟩]
      simp
  | some v =>
    obtain ⟨kk, rfl⟩ := hhi
    simp only [pure_bind, Instr.sliceBound, asIntOf]
    rw [if_pos ⟨by omega, by omega⟩]
    cases low with
    | none => simp only at hl; subst hl; simp
    | some v =>
      obtain ⟨kk, rfl⟩ := hl
      simp only [pure_bind, Int.toNat_natCast]
      rw [if_pos ⟨by omega, by omega⟩]
      simp
theorem sem_sliceStr {t : TypeId} {x : Operand} {lo hi : Option Operand} (s : ByteArray) (l hh : Nat) (hx : ρ x = .string s) (ht : isStr P t = true) (hl : match lo with | some v => ∃ kk, ρ v = .int kk (l : Int) | none => l = 0) (hhi : match hi with | some v => ∃ kk, ρ v = .int kk (hh : Int) | none => hh = s.size) (h1 : l ≤ hh) (h2 : hh ≤ s.size)
    (k : K (.value (.string (s.extract l hh))) h) : semH P B (execOp ρ ⟨d, .slice t x lo hi none, ty, pos, aft, g⟩) h K := by
  unfold isStr at ht
  split at ht
  · rename_i hu
    refine semH_value.2 ?_
    simp only [hx, Instr.sliceAt]
    rw [semH_und hu]
    simp only [Instr.slice]
    rw [semH_und hu]
    have hb := sliceBounds_eq (isS := false) (len := s.size) (cap := s.size) (l := l) (hh := hh) (low := lo.map ρ) (high := hi.map ρ) (by cases lo <;> simpa using hl) (by cases hi <;> simpa using hhi) h1 h2
    simp only [Option.map_none, Option.isSome_none, Bool.false_eq_true, if_false, hb, pure_bind]
    exact k
  · cases ht
theorem sem_sliceSl {t : TypeId} {x : Operand} {lo hi : Option Operand} {e sz bz : Nat} (a : Option Addr) (len cap l hh : Nat) (hx : ρ x = .slice a len cap) (ht : slcB P t = some (e, sz, bz)) (hl : match lo with | some v => ∃ kk, ρ v = .int kk (l : Int) | none => l = 0) (hhi : match hi with | some v => ∃ kk, ρ v = .int kk (hh : Int) | none => hh = len)
    (h1 : l ≤ hh) (h2 : hh ≤ cap) (k : K (.value (.slice (if cap = l then a else a.map (·.add (l * sz))) (hh - l) (cap - l))) h) : semH P B (execOp ρ ⟨d, .slice t x lo hi none, ty, pos, aft, g⟩) h K := by
  unfold slcB at ht
  split at ht
  · rename_i e' hu
    cases hin : P.info? e' with
    | none => rw [hin] at ht; cases ht
    | some inf =>
      rw [hin] at ht
      simp only [Option.map_some, Option.some.injEq, Prod.mk.injEq] at ht
      obtain ⟨rfl, rfl, rfl⟩ := ht
      refine semH_value.2 ?_
      simp only [hx, Instr.sliceAt]
      rw [semH_und hu]
      simp only [Instr.slice]
      rw [semH_und hu]
      have hb := sliceBounds_eq (isS := true) (len := len) (cap := cap) (l := l) (hh := hh) (low := lo.map ρ) (high := hi.map ρ) (by cases lo <;> simpa using hl) (by cases hi <;> simpa using hhi) h1 h2
      simp only [Option.map_none, hb, pure_bind]
      rw [semH_sz (n := inf.size) (by simp [szB, hin])]
      exact k
  · cases ht
/-- 's[:hi:mx]'. -/
theorem sem_slice3 {t : TypeId} {x : Operand} {hi mx : Operand} {e sz bz : Nat} (a : Option Addr) (len cap hh m : Nat) (kk k2 : IntKind) (hx : ρ x = .slice a len cap) (ht : slcB P t = some (e, sz, bz)) (hhi : ρ hi = .int kk (hh : Int)) (hmx : ρ mx = .int k2 (m : Int))
    (h1 : hh ≤ m) (h2 : m ≤ cap) (k : K (.value (.slice (if m = 0 then a else a.map (·.add (0 * sz))) hh m)) h) : semH P B (execOp ρ ⟨d, .slice t x none (some hi) (some mx), ty, pos, aft, g⟩) h K := by
  unfold slcB at ht
  split at ht
  · rename_i e' hu
    cases hin : P.info? e' with
    | none => rw [hin] at ht; cases ht
    | some inf =>
      rw [hin] at ht
      simp only [Option.map_some, Option.some.injEq, Prod.mk.injEq] at ht
      obtain ⟨rfl, rfl, rfl⟩ := ht
      refine semH_value.2 ?_
      simp only [hx, Instr.sliceAt]
      rw [semH_und hu]
      simp only [Instr.slice]
      rw [semH_und hu]
      have hb : Instr.sliceBounds true len cap none (some (.int kk (hh : Int))) (some (.int k2 (m : Int))) = pure (0, hh, m) := by
        unfold Instr.sliceBounds
        simp only [Instr.sliceBound, asIntOf, pure_bind]
        rw [if_pos ⟨by omega, by omega⟩]
        simp only [pure_bind, Int.toNat_natCast]
        rw [if_pos ⟨by omega, by omega⟩]
        simp
      simp only [Option.map_none, Option.map_some, hhi, hmx, hb, pure_bind]
      rw [semH_sz (n := inf.size) (by simp [szB, hin])]
      rw [semH_pure]
      simpa using k
  · cases ht

/-! ### Builtins -/
theorem exec_builtin {b : Builtin} {args : Array Operand} {tys : Array TypeId} (vs : Array Value) (ha : args.map ρ = vs) :
    execOp ρ ⟨d, .call ⟨.builtin b, args, tys⟩, ty, pos, aft, g⟩ = builtin b tys ty (args.map fun | .const _ => true | _ => false) vs := by subst ha; rfl
theorem sem_lenStr {x : Operand} {t : TypeId} (s : ByteArray) (hx : ρ x = .string s) (ht : isStr P t = true) (k : K (.value (.int .i64 s.size)) h) : semH P B (execOp ρ ⟨d, .call ⟨.builtin .len, #[x], #[t]⟩, ty, pos, aft, g⟩) h K := by
  unfold isStr at ht
  split at ht
  · rename_i hu
    rw [exec_builtin #[ρ x] (by simp)]
    show semH P B (do pure (.value (← Builtin.len_ #[t] ty #[ρ x]))) h K
    rw [semH_value, hx]
    simp only [Builtin.len_, List.getElem?_toArray, List.getElem?_cons_zero]
    rw [semH_und hu]
    exact k
  · cases ht
theorem sem_lenSl {x : Operand} {t : TypeId} (a : Option Addr) (n c : Nat) (hx : ρ x = .slice a n c) (ht : slT P t = true) (k : K (.value (.int .i64 n)) h) : semH P B (execOp ρ ⟨d, .call ⟨.builtin .len, #[x], #[t]⟩, ty, pos, aft, g⟩) h K := by
  unfold slT at ht
  split at ht
  · rename_i e hu
    rw [exec_builtin #[ρ x] (by simp)]
    show semH P B (do pure (.value (← Builtin.len_ #[t] ty #[ρ x]))) h K
    rw [semH_value, hx]
    simp only [Builtin.len_, List.getElem?_toArray, List.getElem?_cons_zero]
    rw [semH_und hu]
    exact k
  · cases ht
theorem sem_lenArr {x : Operand} {t : TypeId} {n e sz : Nat} {b : Bool} (ht : arrB P t = some (n, e, sz, b)) (k : K (.value (.int .i64 n)) h) : semH P B (execOp ρ ⟨d, .call ⟨.builtin .len, #[x], #[t]⟩, ty, pos, aft, g⟩) h K := by
  unfold arrB at ht
  split at ht
  · rename_i n' e' hu
    split at ht
    · simp only [Option.some.injEq, Prod.mk.injEq] at ht
      obtain ⟨rfl, rfl, rfl, rfl⟩ := ht
      rw [exec_builtin #[ρ x] (by simp)]
      show semH P B (do pure (.value (← Builtin.len_ #[t] ty #[ρ x]))) h K
      rw [semH_value]
      simp only [Builtin.len_, List.getElem?_toArray, List.getElem?_cons_zero]
      rw [semH_und hu]
      cases ρ x <;> exact k
    · cases ht
  · cases ht
theorem sem_max {x y : Operand} {ts : Array TypeId} (kk : IntKind) (a b : Int) (hx : ρ x = .int kk a) (hy : ρ y = .int kk b) (k : K (.value (.int kk (if b > a then b else a))) h) : semH P B (execOp ρ ⟨d, .call ⟨.builtin .max, #[x, y], ts⟩, ty, pos, aft, g⟩) h K := by
  rw [exec_builtin #[ρ x, ρ y] (by simp)]
  show semH P B (do pure (.value (← Builtin.max_ ts ty #[ρ x, ρ y]))) h K
  rw [semH_value, hx, hy]
  exact k
theorem sem_min {x y : Operand} {ts : Array TypeId} (kk : IntKind) (a b : Int) (hx : ρ x = .int kk a) (hy : ρ y = .int kk b) (k : K (.value (.int kk (if b < a then b else a))) h) : semH P B (execOp ρ ⟨d, .call ⟨.builtin .min, #[x, y], ts⟩, ty, pos, aft, g⟩) h K := by
  rw [exec_builtin #[ρ x, ρ y] (by simp)]
  show semH P B (do pure (.value (← Builtin.min_ ts ty #[ρ x, ρ y]))) h K
  rw [semH_value, hx, hy]
  exact k

/-! ### Conversions -/
theorem semH_und' {α : Type} {t : TypeId} {f : TypeDesc → Sem α} {K : α → Heap → Prop} (hd : (P.underlying t).isSome) (k : ∀ d, P.underlying t = some d → semH P B (f d) h K) : semH P B (underlying t >>= f) h K := by
  obtain ⟨d, hd'⟩ := Option.isSome_iff_exists.1 hd
  rw [semH_und hd']
  exact k d hd'
theorem sem_convI {s t : TypeId} {x : Operand} (k1 k2 : IntKind) (n : Int) (hx : ρ x = .int k1 n) (hs : intB P s = some k1) (ht : intB P t = some k2) (k : K (.value (.int k2 (k2.wrap n))) h) : semH P B (execOp ρ ⟨d, .convert s t x, ty, pos, aft, g⟩) h K := by
  unfold intB at hs ht
  split at hs
  · rename_i ks hus
    cases hs
    split at ht
    · rename_i kt hut
      cases ht
      refine semH_value.2 ?_
      simp only [hx, convert]
      rw [semH_und hus, semH_und hut]
      exact k
    · cases ht
  · cases hs
theorem sem_convIS {s t : TypeId} {x : Operand} (k1 : IntKind) (n : Int) (hx : ρ x = .int k1 n) (hs : intB P s = some k1) (ht : isStr P t = true) (k : K (.value (.string (Utf8.encode n))) h) : semH P B (execOp ρ ⟨d, .convert s t x, ty, pos, aft, g⟩) h K := by
  unfold intB at hs
  unfold isStr at ht
  split at hs
  · rename_i ks hus
    cases hs
    split at ht
    · rename_i hut
      refine semH_value.2 ?_
      simp only [hx, convert]
      rw [semH_und hus, semH_und hut]
      exact k
    · cases ht
  · cases hs
end
end Go.Proofs.Ythloobpjkeodgaa.H

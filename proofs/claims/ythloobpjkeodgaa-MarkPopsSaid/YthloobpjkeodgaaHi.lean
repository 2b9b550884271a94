/- The heap logic, part 9: the words in which each function's precondition is printed, and the steps of the printed proofs. No condition. -/
import Derived.Test.YthloobpjkeodgaaHh
namespace Go.Proofs.Ythloobpjkeodgaa.H
open Go
set_option linter.unusedVariables false

section
variable {P : Program} {B : RO} {N : Nat} {k : List Item} {e : Env} {h : Heap} {Φ : Lv → Env → Heap → Prop}

theorem Run.ops0 {id : Nat} {l : List Oper} {idx : List Nat} (hi : idx = List.range l.length) (hr : Run P B N (.inRegion l.toArray idx :: k) e h Φ) : Run P B N (.code (.region id l.toArray false) :: k) e h Φ := by
  subst hi
  refine Run.region ?_
  simpa using hr
theorem Run.go {ops : Array Oper} {i : Nat} {idx : List Nat} {o : Oper} (ho : ops[i]? = some o) (hd : (dstOK N o && noDefer o) = true) (hw : Region.wanted o (yieldE ops e) = true)
    (hs : semH P B (execOp (evalE e) o) h (fun nx h' => After P B nx h' (fun v h'' => Run P B N (.inRegion ops idx :: k) (updO e o.dst v) h'' Φ))) : Run P B N (.inRegion ops (i :: idx) :: k) e h Φ := by
  simp only [Bool.and_eq_true] at hd
  exact Run.op ho hd.1 hd.2 (.inl ⟨hw, hs⟩)
theorem Run.no {ops : Array Oper} {i : Nat} {idx : List Nat} {o : Oper} (ho : ops[i]? = some o) (hd : (dstOK N o && noDefer o) = true) (hw : Region.wanted o (yieldE ops e) = false)
    (hs : Run P B N (.inRegion ops idx :: k) (updO e o.dst undef) h Φ) : Run P B N (.inRegion ops (i :: idx) :: k) e h Φ := by
  simp only [Bool.and_eq_true] at hd
  exact Run.op ho hd.1 hd.2 (.inr ⟨hw, hs⟩)

/-! Environments of which some slots are known -/
def Agree : List (Nat × Value) → Env → Prop
  | [], _ => True
  | (t, v) :: l, e => e t = v ∧ Agree l e
def updL : List (Nat × Value) → Env → Env
  | [], e => e
  | (t, v) :: l, e => upd (updL l e) t v
theorem updL_eq : ∀ {l : List (Nat × Value)} {e : Env}, Agree l e → updL l e = e := by
  intro l
  induction l with
  | nil => intro e _; rfl
  | cons p l ih =>
    obtain ⟨t, v⟩ := p
    rintro e ⟨h1, h2⟩
    simp only [updL, ih h2]
    funext s
    by_cases hs : s = t
    · subst hs; rw [upd_same]; exact h1.symm
    · rw [upd_ne _ _ _ _ hs]
theorem Run.env {todo : List Item} {l : List (Nat × Value)} (ha : Agree l e) (hr : Run P B N todo (updL l e) h Φ) : Run P B N todo e h Φ := by rwa [updL_eq ha] at hr
theorem Run.seqJ {x y : Code} (J : Env → Heap → Prop) (hj : ∀ e h, J e h → Run P B N (.code y :: k) e h Φ) (hx : (∀ e h, J e h → Run P B N (.code y :: k) e h Φ) → Run P B N (.code x :: .code y :: k) e h Φ) : Run P B N (.code (.seq x y) :: k) e h Φ := (hx hj).seq
theorem Run.anyJ {c : Code} (J : Env → Heap → Prop) (hj : ∀ e h, J e h → Run P B N k e h Φ) (hx : (∀ e h, J e h → Run P B N k e h Φ) → Run P B N (.code c :: k) e h Φ) : Run P B N (.code c :: k) e h Φ := hx hj
theorem Run.blockJ {id : Nat} {c : Code} (J : Env → Heap → Prop) (hj : ∀ e h, J e h → Run P B N k e h Φ) (hx : (∀ e h, J e h → Run P B N k e h Φ) → Run P B N (.code c :: .inBlock id :: k) e h Φ) : Run P B N (.code (.block id c) :: k) e h Φ := (hx hj).block
theorem Run.condT {c : Operand} {x y : Code} (hc : evalE e c = .bool true) (hr : Run P B N (.code x :: k) e h Φ) : Run P B N (.code (.cond c x y) :: k) e h Φ := Run.cond hc hr
theorem Run.condF {c : Operand} {x y : Code} (hc : evalE e c = .bool false) (hr : Run P B N (.code y :: k) e h Φ) : Run P B N (.code (.cond c x y) :: k) e h Φ := Run.cond hc hr

theorem Fin.imp {K K' : Heap → Prop} (hf : Fin B h K) (hk : ∀ h', K h' → K' h') : Fin B h K' := let ⟨h', a, b⟩ := hf; ⟨h', a, hk _ b⟩
theorem Fin.ent {h h' : Heap} {K : Heap → Prop} (he : Ent B h h') (hf : Fin B h' K) : Fin B h K := let ⟨h2, a, b⟩ := hf; ⟨h2, he.trans a, b⟩

/-! A load of a slice: plain, or owned: then its block is shown. -/
def LdSl (B : RO) (h : Heap) (A : Addr) (K : Option Addr → Nat → Nat → Heap → Prop) : Prop :=
  (∃ a n c, cellH B h A = some (.slice a n c) ∧ K a n c h) ∨
  (∃ t fs nn e sz xs, A.spot = none ∧ h A.block = some (.vec t fs nn) ∧ fs[A.off]? = some (.own e sz xs) ∧ ∀ a n c h', Opened B h A.block t fs nn A.off e sz xs (.slice a n c) h' → K a n c h')
theorem Opened.slice {b : Nat} {t : TypeId} {fs : List Fld} {n i : Nat} {e : TypeId} {sz : Nat} {xs : List Value} {v : Value} {h' : Heap} (ho : Opened B h b t fs n i e sz xs v h') : ∃ a m c, v = .slice a m c := by
  rcases ho with ⟨rfl, _⟩ | ⟨k, m, c, nn, _, _, _, rfl, _⟩
  · exact ⟨_, _, _, rfl⟩
  · exact ⟨_, _, _, rfl⟩
theorem Opened.blk {b : Nat} {t : TypeId} {fs : List Fld} {n i : Nat} {e : TypeId} {sz : Nat} {xs : List Value} {v : Value} {h' : Heap} (ho : Opened B h b t fs n i e sz xs v h') : h' b = some (.vec t (fs.set i (.plain v)) n) := by
  rcases ho with ⟨_, _, rfl⟩ | ⟨k, m, c, nn, _, _, hne, _, _, _, _, _, rfl⟩
  · exact Heap.set_same _ _ _
  · rw [Heap.set_ne _ _ _ _ (Ne.symm hne), Heap.set_same]
theorem Opened.cell {b : Nat} {t : TypeId} {fs : List Fld} {n i : Nat} {e : TypeId} {sz : Nat} {xs : List Value} {v : Value} {h' : Heap} (hi : fs[i]? = some (.own e sz xs)) (ho : Opened B h b t fs n i e sz xs v h') : cellH B h' ⟨b, i, none⟩ = some v := by
  have hl := (List.getElem?_eq_some_iff.1 hi).1
  simp [cellH, ho.blk, hl]
theorem Opened.row {b : Nat} {t : TypeId} {fs : List Fld} {n i : Nat} {e : TypeId} {sz : Nat} {xs : List Value} {v : Value} {h' : Heap} (ho : Opened B h b t fs n i e sz xs v h') : SlRow h' v e sz xs := by
  rcases ho with ⟨rfl, rfl, rfl⟩ | ⟨k, m, c, nn, h1, h2, hne, rfl, h3, h4, h5, h6, rfl⟩
  · exact .inl ⟨rfl, rfl⟩
  · exact .inr ⟨k, m, c, nn, [], rfl, by rw [Heap.set_same]; simp [plains], h3, h4, h5⟩
theorem Opened.sub {b : Nat} {t : TypeId} {fs : List Fld} {n i : Nat} {e : TypeId} {sz : Nat} {xs : List Value} {v : Value} {h' : Heap} (ho : Opened B h b t fs n i e sz xs v h') : Sub h b h' := by
  rcases ho with ⟨rfl, rfl, rfl⟩ | ⟨k, m, c, nn, h1, h2, hne, rfl, h3, h4, h5, h6, rfl⟩
  · intro c o hc hh; rw [Heap.set_ne _ _ _ _ hc]; exact hh
  · intro c' o hc hh
    rw [Heap.set_ne, Heap.set_ne _ _ _ _ hc]
    · exact hh
    · intro e0; rw [e0, h1] at hh; cases hh
theorem Opened.new {b : Nat} {t : TypeId} {fs : List Fld} {n i : Nat} {e : TypeId} {sz : Nat} {xs : List Value} {v : Value} {h' : Heap} (ho : Opened B h b t fs n i e sz xs v h') : ∀ k m c, v = .slice (some ⟨k, 0, none⟩) m c → h k = none ∧ k ≠ b := by
  rcases ho with ⟨rfl, rfl, rfl⟩ | ⟨k, m, c, nn, h1, h2, hne, rfl, h3, h4, h5, h6, rfl⟩
  · intro k m c hv; cases hv
  · intro k' m' c' hv; cases hv; exact ⟨h1, hne⟩

theorem Run.open {todo : List Item} {b : Nat} {t : TypeId} {fs : List Fld} {n i : Nat} {t' : TypeId} {sz : Nat} {xs : List Value} (hb : h b = some (.vec t fs n)) (hi : fs[i]? = some (.own t' sz xs)) (hr : ∀ v h', Opened B h b t fs n i t' sz xs v h' → Run P B N todo e h' Φ) : Run P B N todo e h Φ :=
  fun F w b' cs tm ds r1 r2 R => let ⟨v, h', ho, R'⟩ := R.opened hb hi; hr v h' ho F w b' cs tm ds r1 r2 R'
theorem Spec.open {f : FuncId} {args : Array Value} {Q : Value → Heap → Prop} {b : Nat} {t : TypeId} {fs : List Fld} {n i : Nat} {t' : TypeId} {sz : Nat} {xs : List Value} (hb : h b = some (.vec t fs n)) (hi : fs[i]? = some (.own t' sz xs)) (hr : ∀ v h', Opened B h b t fs n i t' sz xs v h' → Spec P B f args h' Q) : Spec P B f args h Q :=
  fun F w R => let ⟨v, h', ho, R'⟩ := R.opened hb hi; hr v h' ho F w R'
theorem Run.ldSl {todo : List Item} {A : Addr} {K : Option Addr → Nat → Nat → Heap → Prop} (hl : LdSl B h A K) (hr : ∀ a n c h', cellH B h' A = some (.slice a n c) → K a n c h' → Run P B N todo e h' Φ) : Run P B N todo e h Φ := by
  rcases hl with ⟨a, n, c, h1, h2⟩ | ⟨t, fs, nn, t', sz, xs, hs, hb, hi, hk⟩
  · exact hr a n c h h1 h2
  · refine Run.open hb hi fun v h' ho => ?_
    obtain ⟨a, m, c, rfl⟩ := ho.slice
    refine hr a m c h' ?_ (hk a m c h' ho)
    obtain ⟨Ab, Ao, As⟩ := A
    simp only at hs hi ho
    subst hs
    exact ho.cell hi

/-! Calls of function values -/
def CallV (P : Program) (B : RO) (f : Value) (args : List Value) (h : Heap) (K : Value → Heap → Prop) : Prop :=
  semH P B (do let d ← Deferred.ofValue f args.toArray; invoke d.target d.args) h (fun nx h' => After P B nx h' K)
theorem CallV.mono {f : Value} {args : List Value} {K K' : Value → Heap → Prop} (hk : ∀ v h', K v h' → K' v h') (hc : CallV P B f args h K) : CallV P B f args h K' := semH_mono (fun nx h' ha => ha.mono hk) hc
theorem CallV.func {g : FuncId} {first captured : Array Value} {args : List Value} {K : Value → Heap → Prop} (hg : Goes P g) (hs : Spec P B g (first ++ args.toArray ++ captured) h K) : CallV P B (.func (.func g) first captured) args h K := by
  unfold CallV
  show semH P B (callFunc g (first ++ args.toArray ++ captured)) h _
  exact semH_callFunc hg hs
def NilOK (f : Value) : Prop := (∃ g a b, f = .func (.func g) a b) ∨ (∃ l a b, f = .func (.yield l) a b)

variable {ρ : Operand → Value} {d : Option Nat} {ty : TypeId} {pos : String} {aft : Array Edge} {g : Option (Nat × Bool)} {K : Next → Heap → Prop}
theorem sem_callV {fo : Operand} {args : List Operand} {tys : Array TypeId} (f : Value) (vs : List Value) (hf : ρ fo = f) (ha : args.map ρ = vs) {K' : Value → Heap → Prop} (hc : CallV P B f vs h K') (hk : ∀ nx h', After P B nx h' K' → K nx h') :
    semH P B (execOp ρ ⟨d, .call ⟨.value fo, args.toArray, tys⟩, ty, pos, aft, g⟩) h K := by
  subst hf ha
  show semH P B (do let d ← resolve ρ ⟨.value fo, args.toArray, tys⟩ ty; invoke d.target d.args) h K
  have : resolve ρ ⟨.value fo, args.toArray, tys⟩ ty = Deferred.ofValue (ρ fo) (args.map ρ).toArray := by simp [resolve]
  rw [this]
  exact semH_mono hk hc
theorem sem_nilCheckV {x : Operand} (f : Value) (hx : ρ x = f) (ho : NilOK f) (k : K (.value f) h) : semH P B (execOp ρ ⟨d, .nilCheck x, ty, pos, aft, g⟩) h K := by
  rcases ho with ⟨g', a, b, rfl⟩ | ⟨l, a, b, rfl⟩
  · exact sem_nilCheckF _ _ _ hx k
  · exact sem_nilCheckY _ _ _ hx k
/-- A call, its arguments a list. -/
theorem sem_callL {f : FuncId} {args : List Operand} {tys : Array TypeId} (vs : List Value) (hg : Goes P f) (hf : ρ (.func f) = .func (.func f) #[] #[]) (ha : args.map ρ = vs) (k : K (.enter f vs.toArray) h) :
    semH P B (execOp ρ ⟨d, .call ⟨.value (.func f), args.toArray, tys⟩, ty, pos, aft, g⟩) h K := sem_call vs.toArray hg hf (by subst ha; simp) k
theorem sem_callXL {f : FuncId} {e : Array Value → Sem Value} {args : List Operand} {tys : Array TypeId} (vs : List Value) (hg : GoesX P f e) (hf : ρ (.func f) = .func (.func f) #[] #[]) (ha : args.map ρ = vs) (hs : semH P B (e vs.toArray) h (fun v h' => K (.value v) h')) :
    semH P B (execOp ρ ⟨d, .call ⟨.value (.func f), args.toArray, tys⟩, ty, pos, aft, g⟩) h K := sem_callX vs.toArray hg hf (by subst ha; simp) hs
theorem sem_callCL {fo : Operand} {args : List Operand} {tys : Array TypeId} {f : FuncId} (first captured : Array Value) (vs ws : List Value) (hg : Goes P f) (hf : ρ fo = .func (.func f) first captured) (ha : args.map ρ = vs) (hw : first.toList ++ vs ++ captured.toList = ws) (k : K (.enter f ws.toArray) h) :
    semH P B (execOp ρ ⟨d, .call ⟨.value fo, args.toArray, tys⟩, ty, pos, aft, g⟩) h K := sem_callC first captured vs.toArray ws.toArray hg hf (by subst ha; simp) (by subst hw; simp) k
theorem sem_makeFuncL {fn : Fn} {first captured : List Operand} (vf vc : List Value) (h1 : first.map ρ = vf) (h2 : captured.map ρ = vc) (k : K (.value (.func fn vf.toArray vc.toArray)) h) : semH P B (execOp ρ ⟨d, .makeFunc fn first.toArray captured.toArray, ty, pos, aft, g⟩) h K :=
  sem_makeFunc _ _ (by subst h1; simp) (by subst h2; simp) k
/-! Structs written out, over lists -/
def putL : List Value → Nat → List Value → List Value
  | cs, _, [] => cs
  | cs, off, c :: r => putL (cs.set off c) (off + 1) r
def fillL (place : Nat → Option (Nat × Nat)) : List Value → List (Nat × Value) → Option (List Value)
  | cs, [] => some cs
  | cs, (i, v) :: rest => match place i with
    | none => none
    | some (off, size) => if (v.cells.toList.length != size || decide (off + v.cells.toList.length > cs.length)) = true then none else fillL place (putL cs off v.cells.toList) rest
theorem putL_length : ∀ (l cs : List Value) (off : Nat), (putL cs off l).length = cs.length := by
  intro l
  induction l with
  | nil => intro cs off; rfl
  | cons c r ih => intro cs off; simp [putL, ih]
theorem foldl_putL (off : Nat) : ∀ (l : List Value) (cs : List Value) (s : Nat), (l.zipIdx s).foldl (fun (cs : Array Value) (x : Value × Nat) => cs.setIfInBounds (off + x.2) x.1) cs.toArray = (putL cs (off + s) l).toArray := by
  intro l
  induction l with
  | nil => intro cs s; rfl
  | cons c r ih =>
    intro cs s
    simp only [List.zipIdx_cons, List.foldl_cons, putL, List.setIfInBounds_toArray]
    rw [ih]
    rfl
theorem fill_eq (place : Nat → Option (Nat × Nat)) : ∀ (vs : List (Nat × Value)) (cs : List Value), Instr.fill place cs.toArray vs = (fillL place cs vs).map List.toArray := by
  intro vs
  induction vs with
  | nil => intro cs; rfl
  | cons p vs ih =>
    obtain ⟨i, v⟩ := p
    intro cs
    unfold Instr.fill fillL
    cases place i with
    | none => rfl
    | some q =>
      obtain ⟨off, size⟩ := q
      simp only [Array.length_toList, List.size_toArray]
      split
      · rename_i h1
        rw [if_pos (by simpa using h1)]
        rfl
      · rename_i h1
        rw [if_neg (by simpa using h1)]
        have := foldl_putL off v.cells.toList cs 0
        rw [Nat.add_zero] at this
        rw [← ih, ← this]
        congr 1
        rw [← Array.foldl_toList]
        simp
theorem sem_buildSL {t : TypeId} {parts : List (Nat × Operand)} {zs : List Value} {pl : List (Nat × Nat)} (vs : List (Nat × Value)) (cs : List Value) (hz : zeroB P t = some zs) (hp : strPlaces P t = some pl) (hv : parts.map (fun p => (p.1, ρ p.2)) = vs)
    (hc : fillL (fun i => pl[i]?) zs vs = some cs) (k : K (.value (.agg cs.toArray)) h) : semH P B (execOp ρ ⟨d, .build t parts.toArray, ty, pos, aft, g⟩) h K := sem_buildS vs cs hz hp (by subst hv; simp) (by rw [fill_eq, hc]; rfl) k
theorem sem_buildAL {t : TypeId} {parts : List (Nat × Operand)} {zs : List Value} {n te sz : Nat} {b : Bool} (vs : List (Nat × Value)) (cs : List Value) (hz : zeroB P t = some zs) (hp : arrB P t = some (n, te, sz, b)) (hv : parts.map (fun p => (p.1, ρ p.2)) = vs)
    (hc : fillL (fun i => some (i * sz, sz)) zs vs = some cs) (k : K (.value (.agg cs.toArray)) h) : semH P B (execOp ρ ⟨d, .build t parts.toArray, ty, pos, aft, g⟩) h K := sem_buildA vs cs hz hp (by subst hv; simp) (by rw [fill_eq, hc]; rfl) k
theorem range_mod (zs : List Value) (hz : 0 < zs.length) : ∀ n : Nat, (Array.range (n * zs.length)).map (zs.toArray[· % zs.length]!) = (List.replicate n zs).flatten.toArray := by
  intro n
  apply Array.toList_inj.1
  simp only [Array.toList_map, Array.toList_range]
  induction n with
  | zero => simp
  | succ n ih =>
    rw [Nat.succ_mul, List.range_add, List.map_append, ih, List.replicate_succ', List.flatten_append, List.map_map]
    congr 1
    simp only [List.flatten_cons, List.flatten_nil, List.append_nil]
    apply List.ext_getElem?
    intro i
    by_cases hi : i < zs.length
    · have : (n * zs.length + i) % zs.length = i := by rw [Nat.mul_comm, Nat.mul_add_mod]; exact Nat.mod_eq_of_lt hi
      simp [hi, this]
    · simp [hi]
theorem sem_buildSliceL {t : TypeId} {len : Nat} {parts : List (Nat × Operand)} {zs : List Value} {te sz bz : Nat} (vs : List (Nat × Value)) (cs : List Value) (ht : slcB P t = some (te, sz, bz)) (hz : zeroB P te = some zs) (hzl : zs.length = sz) (hl : len * sz ≤ 16777216) (hl0 : len * sz ≠ 0) (hv : parts.map (fun p => (p.1, ρ p.2)) = vs)
    (hc : fillL (fun i => some (i * sz, sz)) (List.replicate len zs).flatten vs = some cs) (k : ∀ b, h b = none → B b = none → ∀ h', h' = h.set b (.vec te (plains cs) cs.length) → K (.value (.slice (some ⟨b, 0, none⟩) len len)) h') :
    semH P B (execOp ρ ⟨d, .buildSlice t len parts.toArray, ty, pos, aft, g⟩) h K := by
  subst hzl
  have h0 : 0 < zs.length := Nat.pos_of_ne_zero (fun e => hl0 (by rw [e, Nat.mul_zero]))
  exact sem_buildSlice vs cs ht hz hl hl0 (by subst hv; simp) (by rw [range_mod zs h0, fill_eq, hc]; rfl) (fun b h1 h2 => k b h1 h2 _ rfl)
theorem sem_box1N {t : TypeId} {x : Operand} (v : Value) (hx : ρ x = v) (ho : isOne v = true) (k : ∀ b, h b = none → B b = none → ∀ h', h' = h.set b (.vec t [.plain v] 1) → K (.value (.pointer (some ⟨b, 0, none⟩))) h') :
    semH P B (execOp ρ ⟨d, .box t x, ty, pos, aft, g⟩) h K := sem_box1 v hx ho (fun b h1 h2 => k b h1 h2 _ rfl)
theorem sem_boxNN {t : TypeId} {x : Operand} (vs : List Value) (hx : ρ x = .agg vs.toArray) (k : ∀ b, h b = none → B b = none → ∀ h', h' = h.set b (.vec t (plains vs) vs.length) → K (.value (.pointer (some ⟨b, 0, none⟩))) h') :
    semH P B (execOp ρ ⟨d, .box t x, ty, pos, aft, g⟩) h K := sem_boxN vs hx (fun b h1 h2 => k b h1 h2 _ rfl)
theorem sem_allocN {t : TypeId} (zs : List Value) (hz : zeroB P t = some zs) (k : ∀ b, h b = none → B b = none → ∀ h', h' = h.set b (.vec t (plains zs) zs.length) → K (.value (.pointer (some ⟨b, 0, none⟩))) h') :
    semH P B (execOp ρ ⟨d, .alloc t, ty, pos, aft, g⟩) h K := sem_alloc zs hz (fun b h1 h2 => k b h1 h2 _ rfl)
theorem sem_buildSlice0N {t : TypeId} {e sz bz : Nat} (ht : slcB P t = some (e, sz, bz)) (k : ∀ b, h b = none → B b = none → ∀ h', h' = h.set b (.vec e [] 0) → K (.value (.slice (some ⟨b, 0, none⟩) 0 0)) h') :
    semH P B (execOp ρ ⟨d, .buildSlice t 0 #[], ty, pos, aft, g⟩) h K := sem_buildSlice0 ht (fun b h1 h2 => k b h1 h2 _ rfl)
theorem sem_appendL {args : List Operand} {tys : Array TypeId} (vs : List Value) (ha : args.map ρ = vs) (hs : semH P B (Builtin.append_ tys ty vs.toArray) h (fun v h' => K (.value v) h')) : semH P B (execOp ρ ⟨d, .call ⟨.builtin .append, args.toArray, tys⟩, ty, pos, aft, g⟩) h K := sem_appendW _ (by subst ha; simp) hs
theorem sem_copyL {args : List Operand} {tys : Array TypeId} (vs : List Value) (ha : args.map ρ = vs) (hs : semH P B (Builtin.copy_ tys ty vs.toArray) h (fun v h' => K (.value v) h')) : semH P B (execOp ρ ⟨d, .call ⟨.builtin .copy, args.toArray, tys⟩, ty, pos, aft, g⟩) h K := sem_copyW _ (by subst ha; simp) hs
theorem sem_clearL {args : List Operand} {tys : Array TypeId} (vs : List Value) (ha : args.map ρ = vs) (hs : semH P B (Builtin.clear_ tys ty vs.toArray) h (fun v h' => K (.value v) h')) : semH P B (execOp ρ ⟨d, .call ⟨.builtin .clear, args.toArray, tys⟩, ty, pos, aft, g⟩) h K := sem_clearW _ (by subst ha; simp) hs

/-! Bytes of strings, cuts with int bounds -/
def byteAt (s : ByteArray) (i : Nat) : Int := if h : i < s.size then ((s[i]).toNat : Int) else 0
theorem sem_indexStr' {t : TypeId} {x ix : Operand} (s : ByteArray) (kk : IntKind) (i : Int) (hx : ρ x = .string s) (hi : ρ ix = .int kk i) (ht : isStr P t = true) (h0 : 0 ≤ i) (h1 : i < s.size) (k : K (.value (.int .u8 (byteAt s i.toNat))) h) :
    semH P B (execOp ρ ⟨d, .index t x ix, ty, pos, aft, g⟩) h K := by
  have h1' : i.toNat < s.size := by omega
  refine sem_indexStr s kk i hx hi ht h0 h1' ?_
  have : byteAt s i.toNat = ((s[i.toNat]).toNat : Int) := by simp [byteAt, h1']
  rw [this] at k
  exact k
def lowOf (ρ : Operand → Value) (o : Option Operand) (v : Int) : Prop := match o with | some x => ∃ kk, ρ x = .int kk v | none => v = 0
def highOf (ρ : Operand → Value) (o : Option Operand) (v n : Int) : Prop := match o with | some x => ∃ kk, ρ x = .int kk v | none => v = n
theorem sem_sliceStrI {t : TypeId} {x : Operand} {lo hi : Option Operand} (s : ByteArray) (l hh : Int) (hx : ρ x = .string s) (ht : isStr P t = true) (hl : lowOf ρ lo l) (hhi : highOf ρ hi hh s.size) (h0 : 0 ≤ l) (h1 : l ≤ hh) (h2 : hh ≤ s.size)
    (k : K (.value (.string (s.extract l.toNat hh.toNat))) h) : semH P B (execOp ρ ⟨d, .slice t x lo hi none, ty, pos, aft, g⟩) h K := by
  refine sem_sliceStr s l.toNat hh.toNat hx ht ?_ ?_ (by omega) (by omega) k
  · unfold lowOf at hl
    cases lo with
    | none => simp only at hl ⊢; omega
    | some x => obtain ⟨kk, hl⟩ := hl; exact ⟨kk, by rw [hl]; congr 1; omega⟩
  · unfold highOf at hhi
    cases hi with
    | none => simp only at hhi ⊢; omega
    | some x => obtain ⟨kk, hhi⟩ := hhi; exact ⟨kk, by rw [hhi]; congr 1; omega⟩
theorem sem_sliceSlI {t : TypeId} {x : Operand} {lo hi : Option Operand} {te sz bz : Nat} (a : Option Addr) (len cap : Nat) (l hh : Int) (hx : ρ x = .slice a len cap) (ht : slcB P t = some (te, sz, bz)) (hl : lowOf ρ lo l) (hhi : highOf ρ hi hh len) (h0 : 0 ≤ l) (h1 : l ≤ hh) (h2 : hh ≤ cap)
    (k : K (.value (.slice (if cap = l.toNat then a else a.map (·.add (l.toNat * sz))) (hh.toNat - l.toNat) (cap - l.toNat))) h) : semH P B (execOp ρ ⟨d, .slice t x lo hi none, ty, pos, aft, g⟩) h K := by
  refine sem_sliceSl a len cap l.toNat hh.toNat hx ht ?_ ?_ (by omega) (by omega) k
  · unfold lowOf at hl
    cases lo with
    | none => simp only at hl ⊢; omega
    | some x => obtain ⟨kk, hl⟩ := hl; exact ⟨kk, by rw [hl]; congr 1; omega⟩
  · unfold highOf at hhi
    cases hi with
    | none => simp only at hhi ⊢; omega
    | some x => obtain ⟨kk, hhi⟩ := hhi; exact ⟨kk, by rw [hhi]; congr 1; omega⟩
theorem sem_slice3I {t : TypeId} {x : Operand} {hi mx : Operand} {te sz bz : Nat} (a : Option Addr) (len cap : Nat) (hh m : Int) (kk k2 : IntKind) (hx : ρ x = .slice a len cap) (ht : slcB P t = some (te, sz, bz)) (hhi : ρ hi = .int kk hh) (hmx : ρ mx = .int k2 m)
    (h0 : 0 ≤ hh) (h1 : hh ≤ m) (h2 : m ≤ cap) (k : K (.value (.slice (if m.toNat = 0 then a else a.map (·.add (0 * sz))) hh.toNat m.toNat)) h) : semH P B (execOp ρ ⟨d, .slice t x none (some hi) (some mx), ty, pos, aft, g⟩) h K :=
  sem_slice3 a len cap hh.toNat m.toNat kk k2 hx ht (by rw [hhi]; congr 1; omega) (by rw [hmx]; congr 1; omega) (by omega) (by omega) k

/-! Comparisons, decided -/
theorem binI_eql_t {k : IntKind} {a b : Int} (h : a = b) : binI .eql k a b = some (.bool true) := by simp [binI]; omega
theorem binI_eql_f {k : IntKind} {a b : Int} (h : ¬ (a = b)) : binI .eql k a b = some (.bool false) := by simp [binI]; omega
theorem binI_lss_t {k : IntKind} {a b : Int} (h : a < b) : binI .lss k a b = some (.bool true) := by simp [binI]; omega
theorem binI_lss_f {k : IntKind} {a b : Int} (h : ¬ (a < b)) : binI .lss k a b = some (.bool false) := by simp [binI]; omega
theorem binI_leq_t {k : IntKind} {a b : Int} (h : a ≤ b) : binI .leq k a b = some (.bool true) := by simp [binI]; omega
theorem binI_leq_f {k : IntKind} {a b : Int} (h : ¬ (a ≤ b)) : binI .leq k a b = some (.bool false) := by simp [binI]; omega
theorem binI_gtr_t {k : IntKind} {a b : Int} (h : a > b) : binI .gtr k a b = some (.bool true) := by simp [binI]; omega
theorem binI_gtr_f {k : IntKind} {a b : Int} (h : ¬ (a > b)) : binI .gtr k a b = some (.bool false) := by simp [binI]; omega
theorem binI_geq_t {k : IntKind} {a b : Int} (h : a ≥ b) : binI .geq k a b = some (.bool true) := by simp [binI]; omega
theorem binI_geq_f {k : IntKind} {a b : Int} (h : ¬ (a ≥ b)) : binI .geq k a b = some (.bool false) := by simp [binI]; omega
theorem binI_neq_f {k : IntKind} {a b : Int} (h : ¬ (a = b)) : binI .neq k a b = some (.bool true) := by simp [binI]; omega
theorem binI_neq_t {k : IntKind} {a b : Int} (h : a = b) : binI .neq k a b = some (.bool false) := by simp [binI]; omega
theorem binI_quo {k : IntKind} {a b : Int} (h : ¬ b = 0) : binI .quo k a b = some (.int k (k.wrap (a.tdiv b))) := if_neg h
theorem binI_rem {k : IntKind} {a b : Int} (h : ¬ b = 0) : binI .rem k a b = some (.int k (a.tmod b)) := if_neg h
theorem sem_strEqT {t t' : TypeId} {x y : Operand} (a b : ByteArray) (hx : ρ x = .string a) (hy : ρ y = .string b) (hb : a = b) (k : K (.value (.bool true)) h) : semH P B (execOp ρ ⟨d, .binOp .eql t x y t', ty, pos, aft, g⟩) h K := sem_strEq a b hx hy (by simpa [hb] using k)
theorem sem_strEqF {t t' : TypeId} {x y : Operand} (a b : ByteArray) (hx : ρ x = .string a) (hy : ρ y = .string b) (hb : ¬ (a = b)) (k : K (.value (.bool false)) h) : semH P B (execOp ρ ⟨d, .binOp .eql t x y t', ty, pos, aft, g⟩) h K := sem_strEq a b hx hy (by simpa [hb] using k)
theorem sem_strNeT {t t' : TypeId} {x y : Operand} (a b : ByteArray) (hx : ρ x = .string a) (hy : ρ y = .string b) (hb : a = b) (k : K (.value (.bool false)) h) : semH P B (execOp ρ ⟨d, .binOp .neq t x y t', ty, pos, aft, g⟩) h K := sem_strNe a b hx hy (by simpa [hb] using k)
theorem sem_strNeF {t t' : TypeId} {x y : Operand} (a b : ByteArray) (hx : ρ x = .string a) (hy : ρ y = .string b) (hb : ¬ (a = b)) (k : K (.value (.bool true)) h) : semH P B (execOp ρ ⟨d, .binOp .neq t x y t', ty, pos, aft, g⟩) h K := sem_strNe a b hx hy (by simpa [hb] using k)
theorem sem_ptrNilV {op : BinOp} {t t' : TypeId} {x y : Operand} (p : Option Addr) (hop : op = .eql ∨ op = .neq) (r : Bool) (hx : ρ x = .pointer p) (hy : ρ y = .pointer none) (ht : ptrB P t = true) (hr : (if op = .eql then p.isNone else !p.isNone) = r) (k : K (.value (.bool r)) h) : semH P B (execOp ρ ⟨d, .binOp op t x y t', ty, pos, aft, g⟩) h K := sem_ptrNil p hop hx hy ht (by rw [hr]; exact k)
theorem sem_ptrNilT {op : BinOp} {t t' : TypeId} {x y : Operand} (p : Option Addr) (hop : op = .eql ∨ op = .neq) (r : Bool) (hx : ρ x = .pointer p) (hy : ρ y = .pointer none) (ht : ptrB P t = true) (hp : p = none) (hr : (if op = .eql then true else false) = r) (k : K (.value (.bool r)) h) : semH P B (execOp ρ ⟨d, .binOp op t x y t', ty, pos, aft, g⟩) h K :=
  sem_ptrNilV p hop r hx hy ht (by subst hp; rw [← hr]; rfl) k
theorem sem_ptrNilF {op : BinOp} {t t' : TypeId} {x y : Operand} (p : Option Addr) (hop : op = .eql ∨ op = .neq) (r : Bool) (hx : ρ x = .pointer p) (hy : ρ y = .pointer none) (ht : ptrB P t = true) (hp : ¬ (p = none)) (hr : (if op = .eql then false else true) = r) (k : K (.value (.bool r)) h) : semH P B (execOp ρ ⟨d, .binOp op t x y t', ty, pos, aft, g⟩) h K :=
  sem_ptrNilV p hop r hx hy ht (by cases p with | none => exact absurd rfl hp | some a => rw [← hr]; rfl) k
theorem sem_slNilV {op : BinOp} {t t' : TypeId} {x y : Operand} (p : Option Addr) (n c : Nat) (hop : op = .eql ∨ op = .neq) (r : Bool) (hx : ρ x = .slice p n c) (hy : ρ y = .slice none 0 0) (ht : slT P t = true) (hr : (if op = .eql then p.isNone else !p.isNone) = r) (k : K (.value (.bool r)) h) : semH P B (execOp ρ ⟨d, .binOp op t x y t', ty, pos, aft, g⟩) h K := sem_slNil p n c hop hx hy ht (by rw [hr]; exact k)
theorem sem_slNilT {op : BinOp} {t t' : TypeId} {x y : Operand} (p : Option Addr) (n c : Nat) (hop : op = .eql ∨ op = .neq) (r : Bool) (hx : ρ x = .slice p n c) (hy : ρ y = .slice none 0 0) (ht : slT P t = true) (hp : p = none) (hr : (if op = .eql then true else false) = r) (k : K (.value (.bool r)) h) : semH P B (execOp ρ ⟨d, .binOp op t x y t', ty, pos, aft, g⟩) h K :=
  sem_slNilV p n c hop r hx hy ht (by subst hp; rw [← hr]; rfl) k
theorem sem_slNilF {op : BinOp} {t t' : TypeId} {x y : Operand} (p : Option Addr) (n c : Nat) (hop : op = .eql ∨ op = .neq) (r : Bool) (hx : ρ x = .slice p n c) (hy : ρ y = .slice none 0 0) (ht : slT P t = true) (hp : ¬ (p = none)) (hr : (if op = .eql then false else true) = r) (k : K (.value (.bool r)) h) : semH P B (execOp ρ ⟨d, .binOp op t x y t', ty, pos, aft, g⟩) h K :=
  sem_slNilV p n c hop r hx hy ht (by cases p with | none => exact absurd rfl hp | some a => rw [← hr]; rfl) k
theorem slNilV_eql (p : Option Addr) : (if BinOp.eql = .eql then p.isNone else !p.isNone) = decide (p = none) := by cases p <;> rfl
theorem slNilV_neq (p : Option Addr) : (if BinOp.neq = .eql then p.isNone else !p.isNone) = !decide (p = none) := by cases p <;> rfl
theorem sem_boolEqV {op : BinOp} {t t' : TypeId} {x y : Operand} (a b : Bool) (hop : op = .eql ∨ op = .neq) (r : Bool) (hx : ρ x = .bool a) (hy : ρ y = .bool b) (ht : boolT P t = true) (hr : (if op = .eql then a == b else !(a == b)) = r) (k : K (.value (.bool r)) h) : semH P B (execOp ρ ⟨d, .binOp op t x y t', ty, pos, aft, g⟩) h K := sem_boolEq a b hop hx hy ht (by rw [hr]; exact k)
theorem sem_boolEqT {op : BinOp} {t t' : TypeId} {x y : Operand} (a b : Bool) (hop : op = .eql ∨ op = .neq) (r : Bool) (hx : ρ x = .bool a) (hy : ρ y = .bool b) (ht : boolT P t = true) (hp : a = b) (hr : (if op = .eql then true else false) = r) (k : K (.value (.bool r)) h) : semH P B (execOp ρ ⟨d, .binOp op t x y t', ty, pos, aft, g⟩) h K :=
  sem_boolEqV a b hop r hx hy ht (by subst hp; rw [← hr]; rcases hop with rfl | rfl <;> simp) k
theorem sem_boolEqF {op : BinOp} {t t' : TypeId} {x y : Operand} (a b : Bool) (hop : op = .eql ∨ op = .neq) (r : Bool) (hx : ρ x = .bool a) (hy : ρ y = .bool b) (ht : boolT P t = true) (hp : ¬ (a = b)) (hr : (if op = .eql then false else true) = r) (k : K (.value (.bool r)) h) : semH P B (execOp ρ ⟨d, .binOp op t x y t', ty, pos, aft, g⟩) h K :=
  sem_boolEqV a b hop r hx hy ht (by rw [← hr]; rcases hop with rfl | rfl <;> simp [hp]) k
theorem boolEqV_eql (a b : Bool) : (if BinOp.eql = .eql then a == b else !(a == b)) = decide (a = b) := by cases a <;> cases b <;> rfl
theorem boolEqV_neq (a b : Bool) : (if BinOp.neq = .eql then a == b else !(a == b)) = !decide (a = b) := by cases a <;> cases b <;> rfl

/-! Results in memory -/
theorem loadH1 {t : TypeId} {A : Addr} {v : Value} (ht : aggB P t = some false) (hl : cellH B h A = some v) : loadH P B h t A v := by
  unfold loadH loadVar
  rw [semH_agg ht]
  exact ⟨v, hl, rfl, rfl⟩
theorem loadHN {t : TypeId} {A : Addr} {vs : List Value} (ht : aggB P t = some true) (hn : szB P t = some vs.length) (hl : CellsAt B h A 0 vs) : loadH P B h t A (.agg vs.toArray) := by
  unfold loadH loadVar
  rw [semH_agg ht]
  simp only [if_true]
  rw [semH_sz hn, semH_bind]
  refine semH_loadCells vs 0 #[] hl ?_
  rw [semH_pure]
  simp

/-! Ranges over functions -/
/-- Called with a yield, the function hands it these arguments, one behind the other, until it says 'no more'; G is what it must see of memory. -/
def Iter (P : Program) (B : RO) (f : Value) (encs : List (List Value)) (G : Heap → Prop) : Prop :=
  ∃ g first captured, f = .func (.func g) first captured ∧ Goes P g ∧
    ∀ (y : Value) (J : Nat → Heap → Prop) (X : Heap → Prop) (h : Heap), NilOK y → (∀ i h, J i h → G h) → J 0 h →
      (∀ i h args, encs[i]? = some args → J i h → CallV P B y args h (fun v h' => Fin B h' (fun h'' => (v = .bool true ∧ J (i + 1) h'') ∨ (v = .bool false ∧ X h'')))) →
      Spec P B g (first ++ #[y] ++ captured) h (fun v h' => Fin B h' (fun h'' => J encs.length h'' ∨ X h''))
/-- What is seen stays seen behind a new block. -/
def Ins (G : Heap → Prop) : Prop := ∀ h l o, h l = none → G h → G (h.set l o)
theorem Ins.blk {r : Nat} {o : AObj} : Ins (fun h => h r = some o) := fun h l o' hl hg => by
  show (h.set l o') r = some o
  have hg : h r = some o := hg
  rw [Heap.set_ne _ _ _ _ (fun e => by rw [← e, hg] at hl; cases hl)]; exact hg
theorem Ins.true : Ins (fun _ => True) := fun _ _ _ _ _ => trivial
theorem Ins.and {G G' : Heap → Prop} (a : Ins G) (b : Ins G') : Ins (fun h => G h ∧ G' h) := fun h l o hl hg => ⟨a h l o hl hg.1, b h l o hl hg.2⟩

def putE (e : Env) : List (Nat × Value) → Env
  | [] => e
  | (t, v) :: l => putE (upd e t v) l

theorem EnvOK.puts {N : Nat} : ∀ (l : List (Nat × Value)) (tm : Array Value) (e : Env), EnvOK tm N e → (∀ p ∈ l, p.1 < N) → EnvOK (l.foldl (fun tm (p : Nat × Value) => tm.setIfInBounds p.1 p.2) tm) N (putE e l) := by
  intro l
  induction l with
  | nil => intro tm e h _; exact h
  | cons p l ih =>
    intro tm e h hp
    exact ih _ _ (h.put (hp p (by simp)) p.2) (fun q hq => hp q (by simp [hq]))

theorem CallV.yield {l : Nat} {rec : Loop} {args : List Value} {h : Heap} {K : Value → Heap → Prop} (hl : h l = some (.raw (.loop rec))) (hn : args.length = rec.params.size)
    (hk : RoundSpec P B l rec.fn ((rec.params.zip args.toArray).foldl (fun tmps (x : Nat × Value) => tmps.setIfInBounds x.1 x.2) rec.tmps) rec.assign rec.body h K) : CallV P B (.func (.yield l) #[] #[]) args h K := by
  unfold CallV
  have : Deferred.ofValue (.func (.yield l) #[] #[]) args.toArray = pure { target := .fn (.yield l) #[], args := args.toArray } := by simp [Deferred.ofValue]
  rw [this, pure_bind]
  show semH P B (Instr.yield l args.toArray) h _
  unfold Instr.yield
  rw [semH_bind]
  show semH P B ((getObj l).bind _) h _
  simp only [getObj, Sem.bind]
  refine ⟨_, hl, rfl, ?_⟩
  show semH P B (if args.toArray.size ≠ rec.params.size then _ else _) h _
  rw [if_neg (by simpa using hn)]
  exact hk

theorem Run.range {f : Operand} {ps : List Tmp} {assign body : Code} (v : Value) (encs : List (List Value)) (G : Heap → Prop) (J : Nat → Heap → Prop) (hf : evalE e f = v) (hit : Iter P B v encs G) (hins : Ins G) (hG : ∀ i h, J i h → G h) (h0 : J 0 h)
    (hps : (ps.all (· < N)) = true) (hsz : ∀ a ∈ encs, a.length = ps.length)
    (hbody : ∀ i args hh, encs[i]? = some args → J i hh → Run P B N [.code assign, .beginRound, .code body] (putE e (ps.zip args)) hh (fun lv e2 h2 => lv = .begin [.code body] ∧ Run P B N [.code body] e2 h2 (fun lv2 e3 h3 =>
      (lv2 = .fall ∧ J (i + 1) h3) ∨ (∃ c, jumpOf lv2 = some (some c) ∧ Run P B N (.code c :: k) e h3 Φ))))
    (hrest : ∀ hh, J encs.length hh → Run P B N k e hh Φ) : Run P B N (.code (.rangeFunc f ps.toArray assign body) :: k) e h Φ := by
  obtain ⟨g', first, captured, rfl, hg, hspec⟩ := hit
  refine Run.rangeFunc hf hg fun l fnid tm r he hl hB => ?_
  let rec0 : Loop := { state := .ready, pending := none, fn := fnid, tmps := tm, params := ps.toArray, assign, body, defers := r }
  let J' : Nat → Heap → Prop := fun i h1 => ∃ hh, hh l = none ∧ h1 = hh.set l (.raw (.loop rec0)) ∧ J i hh
  let X' : Heap → Prop := fun h1 => ∃ hh rec c, hh l = none ∧ h1 = hh.set l (.raw (.loop rec)) ∧ rec.state ≠ .busy ∧ rec.pending = some c ∧ Run P B N (.code c :: k) e hh Φ
  have := hspec (.func (.yield l) #[] #[]) J' X' (h.set l (.raw (.loop rec0))) (.inr ⟨l, _, _, rfl⟩) (fun i h1 ⟨hh, a, b, c⟩ => by subst b; exact hins _ _ _ a (hG i hh c)) ⟨h, hl, rfl, h0⟩ (by
    rintro i h1 args ha ⟨hh, a, rfl, c⟩
    refine CallV.yield (rec := rec0) (Heap.set_same _ _ _) (by simpa [rec0] using hsz args (List.mem_of_getElem? ha)) ?_
    have hfold : ((rec0.params.zip args.toArray).foldl (fun tmps (x : Nat × Value) => tmps.setIfInBounds x.1 x.2) rec0.tmps) = (ps.zip args).foldl (fun tm (p : Nat × Value) => tm.setIfInBounds p.1 p.2) tm := by
      simp [rec0]
    rw [hfold]
    refine RoundSpec.of_run a hB rfl (EnvOK.puts (ps.zip args) tm e he (fun p hp => by
      have := (List.of_mem_zip hp).1
      have h2 := List.all_eq_true.1 hps _ this
      simpa using h2)) ?_
    refine (hbody i args hh ha c).mono ?_
    rintro lv e2 h2 ⟨rfl, hr⟩
    refine ⟨rfl, hr.mono ?_⟩
    rintro lv2 e3 h3 (⟨rfl, hJ⟩ | ⟨c', hj, hr'⟩)
    · exact ⟨none, rfl, fun hl3 => Fin.of (.inl ⟨rfl, h3, hl3, rfl, hJ⟩)⟩
    · exact ⟨some c', hj, fun hl3 => Fin.of (.inr ⟨rfl, h3, _, c', hl3, rfl, by simp, rfl, hr'⟩)⟩)
  refine Spec.fin (this.mono ?_)
  rintro v h1 hfin
  refine hfin.imp ?_
  rintro h2 (⟨hh, a, rfl, c⟩ | ⟨hh, rec, c, a, rfl, b1, b2, b3⟩)
  · exact ⟨rec0, hh, a, rfl, by simp [rec0], hrest hh c⟩
  · refine ⟨rec, hh, a, rfl, b1, ?_⟩
    rw [b2]
    exact b3
end
end Go.Proofs.Ythloobpjkeodgaa.H

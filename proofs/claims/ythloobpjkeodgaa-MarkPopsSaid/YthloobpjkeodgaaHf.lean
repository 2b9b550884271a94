/- The heap logic, part 6: each operation that is met, as one lemma. No condition. -/
import Derived.Test.YthloobpjkeodgaaHe
namespace Go.Proofs.Ythloobpjkeodgaa.H
open Go
set_option linter.unusedVariables false

/-! ### Closed facts of a program's types -/
def aggB (P : Program) (t : TypeId) : Option Bool := (P.underlying t).map fun | .struct _ | .array _ _ => true | _ => false
def szB (P : Program) (t : TypeId) : Option Nat := (P.info? t).map (·.size)
def fldB (P : Program) (s : TypeId) (f : Nat) : Option Nat := match P.underlying s with
  | some (.struct fs) => match fs[f]? with
    | some fd => match szB P fd.type with
      | some 0 => none
      | some _ => some fd.offset
      | none => none
    | none => none
  | _ => none
/-- A field of a struct as a value: its offset, its size, whether it is a struct or an array. -/
def partB (P : Program) (s : TypeId) (f : Nat) : Option (Nat × Nat × Bool) := match P.underlying s with
  | some (.struct fs) => match fs[f]? with
    | some fd => match szB P fd.type, aggB P fd.type with
      | some n, some b => some (fd.offset, n, b)
      | _, _ => none
    | none => none
  | _ => none
/-- A slice's element: its type, its cells, its bytes. -/
def slcB (P : Program) (t : TypeId) : Option (TypeId × Nat × Nat) := match P.underlying t with
  | some (.slice e) => (P.info? e).map fun i => (e, i.size, i.bytes)
  | _ => none
def arrB (P : Program) (t : TypeId) : Option (Nat × TypeId × Nat × Bool) := match P.underlying t with
  | some (.array n e) => match szB P e, aggB P e with
    | some s, some b => some (n, e, s, b)
    | _, _ => none
  | _ => none
def zeroB (P : Program) (t : TypeId) : Option (List Value) := ((P.info? t).bind (·.zero)).map (·.cells.toList)
def isStr (P : Program) (t : TypeId) : Bool := match P.underlying t with | some .string => true | _ => false
def intB (P : Program) (t : TypeId) : Option IntKind := match P.underlying t with | some (.int k) => some k | _ => none
def strPlaces (P : Program) (t : TypeId) : Option (List (Nat × Nat)) := match P.underlying t with
  | some (.struct fs) => fs.toList.mapM fun f => (szB P f.type).map fun n => (f.offset, n)
  | _ => none
/-- A pointer's type whose element has cells. -/
def ptrB (P : Program) (t : TypeId) : Bool := match P.underlying t with | some (.pointer e) => true | _ => false
def slT (P : Program) (t : TypeId) : Bool := match P.underlying t with | some (.slice e) => true | _ => false
def boolT (P : Program) (t : TypeId) : Bool := match P.underlying t with | some .bool => true | _ => false

section
variable {P : Program} {B : RO} {h : Heap}

theorem semH_und {α : Type} {t : TypeId} {d : TypeDesc} {f : TypeDesc → Sem α} {K : α → Heap → Prop} (hd : P.underlying t = some d) : semH P B (underlying t >>= f) h K ↔ semH P B (f d) h K := by
  rw [semH_bind]
  show semH P B ((program).bind _) h _ ↔ _
  simp only [program, Sem.bind, semH, hd]
  exact Iff.rfl
theorem semH_info {α : Type} {t : TypeId} {d : TypeInfo} {f : TypeInfo → Sem α} {K : α → Heap → Prop} (hd : P.info? t = some d) : semH P B (typeInfo t >>= f) h K ↔ semH P B (f d) h K := by
  rw [semH_bind]
  show semH P B ((program).bind _) h _ ↔ _
  simp only [program, Sem.bind, semH, hd]
  exact Iff.rfl
theorem semH_sz {α : Type} {t : TypeId} {n : Nat} {f : Nat → Sem α} {K : α → Heap → Prop} (hd : szB P t = some n) : semH P B (sizeOf t >>= f) h K ↔ semH P B (f n) h K := by
  unfold szB at hd
  cases hi : P.info? t with
  | none => rw [hi] at hd; cases hd
  | some i =>
    rw [hi] at hd
    simp only [Option.map_some, Option.some.injEq] at hd
    subst hd
    rw [semH_bind]
    unfold sizeOf
    rw [semH_info hi]
    exact Iff.rfl
theorem semH_agg {α : Type} {t : TypeId} {b : Bool} {f : Bool → Sem α} {K : α → Heap → Prop} (hd : aggB P t = some b) : semH P B (isAgg t >>= f) h K ↔ semH P B (f b) h K := by
  unfold aggB at hd
  cases hi : P.underlying t with
  | none => rw [hi] at hd; cases hd
  | some d =>
    rw [hi] at hd
    rw [semH_bind]
    unfold isAgg
    rw [semH_und hi]
    cases d <;> simp only [Option.map_some, Option.some.injEq] at hd <;> subst hd <;> exact Iff.rfl
theorem semH_zero {α : Type} {t : TypeId} {zs : List Value} {f : Value → Sem α} {K : α → Heap → Prop} (hd : zeroB P t = some zs) (hk : ∀ v, v.cells.toList = zs → semH P B (f v) h K) : semH P B (zeroValue t >>= f) h K := by
  unfold zeroB at hd
  cases hi : P.info? t with
  | none => rw [hi] at hd; cases hd
  | some d =>
    rw [hi] at hd
    cases hz : d.zero with
    | none => simp [hz] at hd
    | some z =>
      simp [hz] at hd
      rw [semH_bind]
      unfold zeroValue
      rw [semH_info hi]
      simp only [hz]
      exact hk z hd

theorem semH_value {s : Sem Value} {K : Next → Heap → Prop} : semH P B (do pure (.value (← s)) : Sem Next) h K ↔ semH P B s h (fun v h' => K (.value v) h') := by
  rw [semH_bind]; exact Iff.rfl
theorem semH_skip {s : Sem Unit} {K : Next → Heap → Prop} : semH P B (do s; pure .skip : Sem Next) h K ↔ semH P B s h (fun _ h' => K .skip h') := by
  rw [semH_bind]; exact Iff.rfl

/-! ### Cells in a row -/
def CellsAt (B : RO) (h : Heap) (A : Addr) : Nat → List Value → Prop
  | _, [] => True
  | i, v :: vs => cellH B h (A.add i) = some v ∧ CellsAt B h A (i + 1) vs
def StoresAt (A : Addr) : Heap → Nat → List Value → Heap → Prop
  | h, _, [], h' => h' = h
  | h, i, v :: vs, h' => isOne v = true ∧ ∃ h1, storeH h (A.add i) v = some h1 ∧ StoresAt A h1 (i + 1) vs h'

theorem semH_loadCells {A : Addr} : ∀ (vs : List Value) (i : Nat) (acc : Array Value) {K : Array Value → Heap → Prop}, CellsAt B h A i vs → K (acc ++ vs.toArray) h → semH P B (loadCellsFrom A i vs.length acc) h K := by
  intro vs
  induction vs with
  | nil => intro i acc K _ hk; show K acc h; simpa using hk
  | cons v vs ih =>
    rintro i acc K ⟨h1, h2⟩ hk
    simp only [List.length_cons, loadCellsFrom]
    rw [semH_bind]
    refine ⟨v, h1, ?_⟩
    refine ih (i + 1) (acc.push v) h2 ?_
    simpa using hk
theorem semH_storeCells {A : Addr} : ∀ (vs : List Value) (i : Nat) {h h' : Heap} {K : Unit → Heap → Prop}, StoresAt A h i vs h' → K () h' → semH P B (storeCells A vs i) h K := by
  intro vs
  induction vs with
  | nil => rintro i h h' K rfl hk; exact hk
  | cons v vs ih =>
    rintro i h h' K ⟨h1, h2, h3, h4⟩ hk
    simp only [storeCells]
    rw [semH_bind]
    exact ⟨h1, h2, h3, ih (i + 1) h4 hk⟩

/-! ### The operations -/
variable {ρ : Operand → Value} {d : Option Nat} {ty : TypeId} {pos : String} {aft : Array Edge} {g : Option (Nat × Bool)} {K : Next → Heap → Prop}

theorem sem_move {x : Operand} (v : Value) (hx : ρ x = v) (k : K (.value v) h) : semH P B (execOp ρ ⟨d, .move x, ty, pos, aft, g⟩) h K := by subst hx; exact k
theorem sem_assign {x : Operand} (v : Value) (hx : ρ x = v) (k : K (.value v) h) : semH P B (execOp ρ ⟨d, .assign x, ty, pos, aft, g⟩) h K := by subst hx; exact k
theorem sem_pick {c x y : Operand} (b : Bool) (v : Value) (hc : ρ c = .bool b) (hv : (if b = true then ρ x else ρ y) = v) (k : K (.value v) h) : semH P B (execOp ρ ⟨d, .pick c x y, ty, pos, aft, g⟩) h K := by
  subst hv
  simp only [execOp, hc]
  exact k
theorem sem_load1 {t : TypeId} {x : Operand} (A : Addr) (v : Value) (hx : ρ x = .pointer (some A)) (ht : aggB P t = some false) (hl : cellH B h A = some v) (k : K (.value v) h) : semH P B (execOp ρ ⟨d, .load t x, ty, pos, aft, g⟩) h K := by
  refine semH_value.2 ?_
  simp only [hx, Instr.loadAt, Instr.sureAddr, pure_bind]
  unfold loadVar
  rw [semH_agg ht]
  exact ⟨v, hl, k⟩
theorem sem_loadN {t : TypeId} {x : Operand} (A : Addr) (vs : List Value) (hx : ρ x = .pointer (some A)) (ht : aggB P t = some true) (hn : szB P t = some vs.length) (hl : CellsAt B h A 0 vs) (k : K (.value (.agg vs.toArray)) h) : semH P B (execOp ρ ⟨d, .load t x, ty, pos, aft, g⟩) h K := by
  refine semH_value.2 ?_
  simp only [hx, Instr.loadAt, Instr.sureAddr, pure_bind]
  unfold loadVar
  rw [semH_agg ht]
  simp only [if_true]
  rw [semH_sz hn]
  rw [semH_bind]
  refine semH_loadCells vs 0 #[] hl ?_
  show K (.value (.agg (#[] ++ vs.toArray))) h
  simpa using k
theorem sem_store1 {t : TypeId} {a x : Operand} (A : Addr) (v : Value) (h' : Heap) (ha : ρ a = .pointer (some A)) (hv : ρ x = v) (ho : isOne v = true) (hn : szB P t = some 1) (hs : storeH h A v = some h') (k : K .skip h') : semH P B (execOp ρ ⟨d, .store t a x, ty, pos, aft, g⟩) h K := by
  subst hv
  refine semH_skip.2 ?_
  simp only [ha, Instr.storeAt, Instr.sureAddr, pure_bind]
  unfold storeVar
  rw [semH_sz hn]
  have hc : (ρ x).cells = #[ρ x] := by
    cases hρ : ρ x <;> first
      | rfl
      | (rw [hρ] at ho; simp [isOne] at ho)
  simp only [hc, List.size_toArray, List.length_cons, List.length_nil, Nat.zero_add, ne_eq, not_true, if_false]
  exact semH_storeCells [ρ x] 0 ⟨ho, h', by simpa [Addr.add] using hs, rfl⟩ k
theorem sem_storeN {t : TypeId} {a x : Operand} (A : Addr) (vs : List Value) (h' : Heap) (ha : ρ a = .pointer (some A)) (hv : ρ x = .agg vs.toArray) (hn : szB P t = some vs.length) (hs : StoresAt A h 0 vs h') (k : K .skip h') : semH P B (execOp ρ ⟨d, .store t a x, ty, pos, aft, g⟩) h K := by
  refine semH_skip.2 ?_
  simp only [ha, Instr.storeAt, Instr.sureAddr, pure_bind, hv]
  unfold storeVar
  rw [semH_sz hn]
  simp only [Value.cells, List.size_toArray, ne_eq, not_true, if_false]
  exact semH_storeCells vs 0 hs k
theorem sem_nilCheck {x : Operand} (A : Addr) (hx : ρ x = .pointer (some A)) (k : K (.value (.pointer (some A))) h) : semH P B (execOp ρ ⟨d, .nilCheck x, ty, pos, aft, g⟩) h K := by
  simp only [execOp, hx]; exact k
theorem sem_nilCheckF {x : Operand} (f : FuncId) (a b : Array Value) (hx : ρ x = .func (.func f) a b) (k : K (.value (.func (.func f) a b)) h) : semH P B (execOp ρ ⟨d, .nilCheck x, ty, pos, aft, g⟩) h K := by
  simp only [execOp, hx]; exact k
theorem sem_nilCheckY {x : Operand} (l : Nat) (a b : Array Value) (hx : ρ x = .func (.yield l) a b) (k : K (.value (.func (.yield l) a b)) h) : semH P B (execOp ρ ⟨d, .nilCheck x, ty, pos, aft, g⟩) h K := by
  simp only [execOp, hx]; exact k
theorem sem_fieldAddr {s : TypeId} {x : Operand} {f : Nat} (A : Addr) (off : Nat) (hx : ρ x = .pointer (some A)) (hf : fldB P s f = some off) (k : K (.value (.pointer (some (A.add off)))) h) : semH P B (execOp ρ ⟨d, .fieldAddr s x f, ty, pos, aft, g⟩) h K := by
  unfold fldB at hf
  split at hf
  · rename_i fs hu
    split at hf
    · rename_i fd hfd
      split at hf
      · cases hf
      · rename_i n hn0 hn
        cases hf
        refine semH_value.2 ?_
        simp only [hx, Instr.fieldAt]
        rw [semH_und hu]
        simp only [hfd, Instr.sureAddr, pure_bind]
        unfold fieldPlace
        rw [semH_bind, semH_sz hn]
        have : n ≠ 0 := hn0
        simp only [this, if_false]
        exact k
      · cases hf
    · cases hf
  · cases hf
theorem sem_indexAddrS {t : TypeId} {x ix : Operand} {e sz bz : Nat} (A : Addr) (len cap : Nat) (kk : IntKind) (i : Int) (hx : ρ x = .slice (some A) len cap) (hi : ρ ix = .int kk i) (ht : slcB P t = some (e, sz, bz)) (h0 : 0 ≤ i) (h1 : i < len) (k : K (.value (.pointer (some (A.add (i.toNat * sz))))) h) :
    semH P B (execOp ρ ⟨d, .indexAddr t x ix, ty, pos, aft, g⟩) h K := by
  unfold slcB at ht
  split at ht
  · rename_i e' hu
    cases hin : P.info? e' with
    | none => rw [hin] at ht; cases ht
    | some inf =>
      rw [hin] at ht
      simp only [Option.map_some, Option.some.injEq, Prod.mk.injEq] at ht
      obtain ⟨rfl, rfl, rfl⟩ := ht
      refine semH_value.2 ?_
      simp only [hx, hi, Instr.indexAt, asIntOf, pure_bind]
      rw [semH_und hu]
      dsimp only
      rw [semH_und hu]
      simp only [h0, h1, and_self, if_true]
      rw [semH_sz (n := inf.size) (by simp [szB, hin])]
      exact k
  · cases ht
theorem sem_indexAddrA {t : TypeId} {x ix : Operand} {n e sz : Nat} {b : Bool} (A : Addr) (kk : IntKind) (i : Int) (hx : ρ x = .pointer (some A)) (hi : ρ ix = .int kk i) (ht : arrB P t = some (n, e, sz, b)) (h0 : 0 ≤ i) (h1 : i < n) (k : K (.value (.pointer (some (A.add (i.toNat * sz))))) h) :
    semH P B (execOp ρ ⟨d, .indexAddr t x ix, ty, pos, aft, g⟩) h K := by
  unfold arrB at ht
  split at ht
  · rename_i n' e' hu
    split at ht
    · rename_i s' b' hs hb
      simp only [Option.some.injEq, Prod.mk.injEq] at ht
      obtain ⟨rfl, rfl, rfl, rfl⟩ := ht
      refine semH_value.2 ?_
      simp only [hx, hi, Instr.indexAt, asIntOf, pure_bind]
      rw [semH_und hu]
      simp only [Instr.sureAddr, pure_bind]
      rw [semH_und hu]
      simp only [h0, h1, and_self, if_true]
      rw [semH_sz hs]
      exact k
    · cases ht
  · cases ht
theorem semH_part {α : Type} {t : TypeId} {b : Bool} {n off : Nat} {cs : Array Value} {f : Value → Sem α} {K : α → Heap → Prop} (v : Value) (hb : aggB P t = some b) (hn : szB P t = some n)
    (hv : (if b = true then some (.agg (cs.extract off (off + n))) else cs[off]?) = some v) (k : semH P B (f v) h K) : semH P B (part t cs off >>= f) h K := by
  rw [semH_bind]
  unfold part
  rw [semH_agg hb]
  cases b with
  | true =>
    simp only [if_true, Option.some.injEq] at hv ⊢
    rw [semH_sz hn]
    subst hv
    exact k
  | false =>
    simp only [Bool.false_eq_true, if_false] at hv ⊢
    rw [hv]
    exact k
theorem sem_field {t : TypeId} {x : Operand} {f : Nat} {off n : Nat} {b : Bool} (cs : Array Value) (v : Value) (hx : ρ x = .agg cs) (ht : partB P t f = some (off, n, b)) (hv : (if b = true then some (.agg (cs.extract off (off + n))) else cs[off]?) = some v) (k : K (.value v) h) :
    semH P B (execOp ρ ⟨d, .field t x f, ty, pos, aft, g⟩) h K := by
  unfold partB at ht
  split at ht
  · rename_i fs hu
    split at ht
    · rename_i fd hfd
      split at ht
      · rename_i n' b' hn hb
        simp only [Option.some.injEq, Prod.mk.injEq] at ht
        obtain ⟨rfl, rfl, rfl⟩ := ht
        refine semH_value.2 ?_
        simp only [hx, Instr.field]
        rw [semH_und hu]
        simp only [hfd, asAgg, pure_bind]
        have := semH_part (P := P) (B := B) (h := h) (f := (fun v => (pure v : Sem Value))) (K := fun v h' => K (.value v) h') v hb hn hv k
        rwa [bind_pure] at this
      · cases ht
    · cases ht
  · cases ht
theorem sem_indexStr {t : TypeId} {x ix : Operand} (s : ByteArray) (kk : IntKind) (i : Int) (hx : ρ x = .string s) (hi : ρ ix = .int kk i) (ht : isStr P t = true) (h0 : 0 ≤ i) (h1 : i.toNat < s.size) (k : K (.value (.int .u8 (s[i.toNat]).toNat)) h) :
    semH P B (execOp ρ ⟨d, .index t x ix, ty, pos, aft, g⟩) h K := by
  unfold isStr at ht
  split at ht
  · rename_i hu
    refine semH_value.2 ?_
    simp only [hx, hi, Instr.index, asIntOf, pure_bind]
    rw [semH_und hu]
    simp only [h0, if_true]
    have : s[i.toNat]? = some s[i.toNat] := getElem?_pos s i.toNat h1
    rw [this]
    exact k
  · cases ht
theorem sem_indexArr {t : TypeId} {x ix : Operand} {n e sz : Nat} {b : Bool} (cs : Array Value) (v : Value) (kk : IntKind) (i : Int) (hx : ρ x = .agg cs) (hi : ρ ix = .int kk i) (ht : arrB P t = some (n, e, sz, b)) (h0 : 0 ≤ i) (h1 : i < n)
    (hv : (if b = true then some (.agg (cs.extract (i.toNat * sz) (i.toNat * sz + sz))) else cs[i.toNat * sz]?) = some v) (k : K (.value v) h) :
    semH P B (execOp ρ ⟨d, .index t x ix, ty, pos, aft, g⟩) h K := by
  unfold arrB at ht
  split at ht
  · rename_i n' e' hu
    split at ht
    · rename_i s' b' hs hb
      simp only [Option.some.injEq, Prod.mk.injEq] at ht
      obtain ⟨rfl, rfl, rfl, rfl⟩ := ht
      refine semH_value.2 ?_
      simp only [hx, hi, Instr.index, asIntOf, pure_bind]
      rw [semH_und hu]
      simp only [h0, h1, and_self, if_true]
      rw [semH_sz hs]
      have := semH_part (P := P) (B := B) (h := h) (f := (fun v => (pure v : Sem Value))) (K := fun v h' => K (.value v) h') v hb hs hv k
      rwa [bind_pure] at this
    · cases ht
  · cases ht
theorem sem_extract {x : Operand} {i : Nat} (vs : Array Value) (v : Value) (hx : ρ x = .tuple vs) (hv : vs[i]? = some v) (k : K (.value v) h) : semH P B (execOp ρ ⟨d, .extract x i, ty, pos, aft, g⟩) h K := by
  refine semH_value.2 ?_
  simp only [hx, Instr.extract, hv]; exact k
theorem sem_makeFunc {fn : Fn} {first captured : Array Operand} (vf vc : Array Value) (h1 : first.map ρ = vf) (h2 : captured.map ρ = vc) (k : K (.value (.func fn vf vc)) h) : semH P B (execOp ρ ⟨d, .makeFunc fn first captured, ty, pos, aft, g⟩) h K := by
  subst h1 h2; exact k
theorem sem_not {t : TypeId} {x : Operand} (b : Bool) (hx : ρ x = .bool b) (k : K (.value (.bool (!b))) h) : semH P B (execOp ρ ⟨d, .unOp .not t x, ty, pos, aft, g⟩) h K := by
  refine semH_value.2 ?_
  simp only [hx, Op.unary]; exact k
theorem sem_neg {t : TypeId} {x : Operand} (kk : IntKind) (n : Int) (hx : ρ x = .int kk n) (k : K (.value (.int kk (kk.wrap (0 - n)))) h) : semH P B (execOp ρ ⟨d, .unOp .neg t x, ty, pos, aft, g⟩) h K := by
  refine semH_value.2 ?_
  simp only [hx, Op.unary, Op.intArith]; exact k
theorem sem_xorU {t : TypeId} {x : Operand} (kk : IntKind) (n : Int) (hx : ρ x = .int kk n) (v : Value) (hv : semH P B (Op.intBits .xor kk (if kk.signed then -1 else kk.max) n) h (fun v' h' => v' = v ∧ h' = h)) (k : K (.value v) h) : semH P B (execOp ρ ⟨d, .unOp .xor t x, ty, pos, aft, g⟩) h K := by
  refine semH_value.2 ?_
  simp only [hx, Op.unary]; exact semH_mono (fun v' h' hh => by obtain ⟨rfl, rfl⟩ := hh; exact k) hv

/-! Two integers -/
def binI (op : BinOp) (k : IntKind) (a b : Int) : Option Value := match op with
  | .add => some (.int k (k.wrap (a + b)))
  | .sub => some (.int k (k.wrap (a - b)))
  | .mul => some (.int k (k.wrap (a * b)))
  | .quo => if b = 0 then none else some (.int k (k.wrap (a.tdiv b)))
  | .rem => if b = 0 then none else some (.int k (a.tmod b))
  | .and => some (.int k (k.wrap ((BitVec.ofInt k.bits a &&& BitVec.ofInt k.bits b).toNat : Int)))
  | .or => some (.int k (k.wrap ((BitVec.ofInt k.bits a ||| BitVec.ofInt k.bits b).toNat : Int)))
  | .xor => some (.int k (k.wrap ((BitVec.ofInt k.bits a ^^^ BitVec.ofInt k.bits b).toNat : Int)))
  | .andNot => some (.int k (k.wrap ((BitVec.ofInt k.bits a &&& ~~~ BitVec.ofInt k.bits b).toNat : Int)))
  | .eql => some (.bool (a == b))
  | .neq => some (.bool (a != b))
  | .lss => some (.bool (decide (a < b)))
  | .leq => some (.bool (decide (a ≤ b)))
  | .gtr => some (.bool (decide (a > b)))
  | .geq => some (.bool (decide (a ≥ b)))
  | _ => none
theorem semH_eqGuard {op : BinOp} {t : TypeId} {x y : Operand} {a b : Value} {α : Type} {f : Unit → Sem α} {K : α → Heap → Prop} (hne : (∀ cs, a ≠ .agg cs) ∧ a ≠ .nilIface) (k : semH P B (f ()) h K) : semH P B (eqGuard op t x y a b >>= f) h K := by
  have : eqGuard op t x y a b = pure () := by
    unfold eqGuard
    cases op <;> simp <;> cases a <;> first
      | rfl
      | (cases b <;> first | rfl | exact absurd rfl (hne.1 _) | exact absurd rfl hne.2)
  rw [this]
  exact k
theorem sem_binI {op : BinOp} {t t' : TypeId} {x y : Operand} (kk : IntKind) (a b : Int) (v : Value) (hx : ρ x = .int kk a) (hy : ρ y = .int kk b) (hv : binI op kk a b = some v) (k : K (.value v) h) : semH P B (execOp ρ ⟨d, .binOp op t x y t', ty, pos, aft, g⟩) h K := by
  refine semH_value.2 ?_
  simp only [hx, hy]
  refine semH_eqGuard ⟨fun cs => by simp, by simp⟩ ?_
  cases op <;> simp only [binI] at hv <;> first
    | (cases hv; done)
    | (cases hv; simp only [binOp, ne_eq, not_true, if_false, Op.intArith, Op.intBits, Op.intCmp]; exact k)
    | (split at hv
       · cases hv
       · rename_i hb; cases hv; simp only [binOp, ne_eq, not_true, if_false, Op.intDiv, if_neg hb]; exact k)
theorem sem_shr {t t' : TypeId} {x y : Operand} (kk yk : IntKind) (a b : Int) (hx : ρ x = .int kk a) (hy : ρ y = .int yk b) (hb : ¬ b < 0) (k : K (.value (.int kk (a.fdiv (2 ^ (min b.toNat kk.bits))))) h) : semH P B (execOp ρ ⟨d, .binOp .shr t x y t', ty, pos, aft, g⟩) h K := by
  refine semH_value.2 ?_
  simp only [hx, hy]
  refine semH_eqGuard ⟨fun cs => by simp, by simp⟩ ?_
  simp only [binOp, Op.shift, if_neg hb]; exact k
theorem sem_shl {t t' : TypeId} {x y : Operand} (kk yk : IntKind) (a b : Int) (hx : ρ x = .int kk a) (hy : ρ y = .int yk b) (hb : ¬ b < 0) (k : K (.value (.int kk (kk.wrap (a * 2 ^ (min b.toNat kk.bits))))) h) : semH P B (execOp ρ ⟨d, .binOp .shl t x y t', ty, pos, aft, g⟩) h K := by
  refine semH_value.2 ?_
  simp only [hx, hy]
  refine semH_eqGuard ⟨fun cs => by simp, by simp⟩ ?_
  simp only [binOp, Op.shift, if_neg hb]; exact k
theorem sem_strAdd {t t' : TypeId} {x y : Operand} (a b : ByteArray) (hx : ρ x = .string a) (hy : ρ y = .string b) (hb : a.size + b.size ≤ 4611686018427387904) (k : K (.value (.string (a ++ b))) h) : semH P B (execOp ρ ⟨d, .binOp .add t x y t', ty, pos, aft, g⟩) h K := by
  refine semH_value.2 ?_
  simp only [hx, hy]
  refine semH_eqGuard ⟨fun cs => by simp, by simp⟩ ?_
  have hm : IntKind.i64.max = 9223372036854775807 := by decide
  have : ¬ (((a.size + b.size : Nat) : Int) > IntKind.i64.max) := by rw [hm]; omega
  simp only [binOp, Op.stringOp, if_neg this]; exact k
theorem toList_beq (a b : ByteArray) : (a.toList == b.toList) = decide (a = b) := by
  have h1 : ∀ a : ByteArray, a.toList = a.data.toList := fun a => Go.ByteArray.toList_eq a
  rw [h1, h1]
  by_cases h : a = b
  · subst h; simp
  · have : a.data.toList ≠ b.data.toList := fun e => h (by
      cases a; cases b; simp only [ByteArray.mk.injEq]; exact Array.toList_inj.1 e)
    simp only [this, h, decide_false, beq_eq_false_iff_ne, ne_eq, not_false_eq_true]
theorem sem_strEq {t t' : TypeId} {x y : Operand} (a b : ByteArray) (hx : ρ x = .string a) (hy : ρ y = .string b) (k : K (.value (.bool (decide (a = b)))) h) : semH P B (execOp ρ ⟨d, .binOp .eql t x y t', ty, pos, aft, g⟩) h K := by
  refine semH_value.2 ?_
  simp only [hx, hy]
  refine semH_eqGuard ⟨fun cs => by simp, by simp⟩ ?_
  simp only [binOp, Op.stringOp, toList_beq]; exact k
theorem sem_strNe {t t' : TypeId} {x y : Operand} (a b : ByteArray) (hx : ρ x = .string a) (hy : ρ y = .string b) (k : K (.value (.bool (!decide (a = b)))) h) : semH P B (execOp ρ ⟨d, .binOp .neq t x y t', ty, pos, aft, g⟩) h K := by
  refine semH_value.2 ?_
  simp only [hx, hy]
  refine semH_eqGuard ⟨fun cs => by simp, by simp⟩ ?_
  simp only [binOp, Op.stringOp, toList_beq]; exact k
end
end Go.Proofs.Ythloobpjkeodgaa.H

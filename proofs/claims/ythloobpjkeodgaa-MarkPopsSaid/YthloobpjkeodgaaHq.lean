/- The heap logic, part 17: aggregates of numbers, bools and texts, compared. No condition. -/
import Derived.Test.YthloobpjkeodgaaHp
import Derived.Test.YthloobpjkeodgaaHl
namespace Go.Proofs.Ythloobpjkeodgaa.H
open Go
set_option linter.unusedVariables false

def leafEq : Value → Value → Bool
  | .bool a, .bool b => a == b
  | .int _ a, .int _ b => a == b
  | .string a, .string b => a == b
  | _, _ => false
def eqL : List Value → List Value → Bool
  | a :: as, b :: bs => leafEq a b && eqL as bs
  | [], [] => true
  | _, _ => false
def fitK : Kd → Value → Prop
  | .int k, v => ∃ z, v = .int k z
  | .bool, v => ∃ b, v = .bool b
  | .str, v => ∃ s, v = .string s
  | .sl _ _, _ => False
def fitL : List Kd → List Value → Prop
  | [], [] => True
  | k :: ks, v :: vs => fitK k v ∧ fitL ks vs
  | _, _ => False
theorem fitL.length : ∀ {ks : List Kd} {vs : List Value}, fitL ks vs → vs.length = ks.length
  | [], [], _ => rfl
  | _ :: _, _ :: _, h => by simp [h.2.length]
  | [], _ :: _, h => h.elim
  | _ :: _, [], h => h.elim
theorem fitL.split : ∀ {ks ks' : List Kd} {vs : List Value}, fitL (ks ++ ks') vs → fitL ks (vs.take ks.length) ∧ fitL ks' (vs.drop ks.length)
  | [], _, _, h => ⟨trivial, h⟩
  | k :: ks, ks', v :: vs, h => by
    have := fitL.split (ks := ks) (ks' := ks') (vs := vs) h.2
    exact ⟨⟨h.1, this.1⟩, this.2⟩
  | _ :: _, _, [], h => h.elim
theorem eqL_append : ∀ (as bs : List Value) (as' bs' : List Value), as.length = bs.length → eqL (as ++ as') (bs ++ bs') = (eqL as bs && eqL as' bs')
  | [], [], _, _, _ => by simp [eqL]
  | a :: as, b :: bs, as', bs', h => by
    simp only [List.cons_append, eqL]
    rw [eqL_append as bs as' bs' (by simpa using h), Bool.and_assoc]
  | [], _ :: _, _, _, h => by cases h
  | _ :: _, [], _, _, h => by cases h
theorem eqL_cut (as bs : List Value) (k : Nat) (h : as.length = bs.length) : eqL as bs = (eqL (as.take k) (bs.take k) && eqL (as.drop k) (bs.drop k)) := by
  rw [← eqL_append _ _ _ _ (by simp [h]), List.take_append_drop, List.take_append_drop]

def seqF (P : Program) (L : TypeId → Option (List Kd)) : Nat → List Field → Option (List Kd)
  | _, [] => some []
  | o, f :: fs => match L f.type, aggB P f.type with
    | some l, some _ => if f.offset = o ∧ szB P f.type = some l.length ∧ f.name ≠ "_" then (seqF P L (o + l.length) fs).map (l ++ ·) else none
    | _, _ => none
def flatB (P : Program) : Nat → TypeId → Option (List Kd)
  | 0, _ => none
  | n + 1, t => match P.underlying t with
    | some .bool => some [.bool]
    | some (.int k) => some [.int k]
    | some .string => some [.str]
    | some (.struct fs) => if P.stoodInHeld t = false then seqF P (flatB P n) 0 fs.toList else none
    | some (.array len e) => match flatB P n e, aggB P e with
      | some l, some _ => if szB P e = some l.length then some (List.replicate len l).flatten else none
      | _, _ => none
    | _ => none
/-- A value out of its cells. -/
def valOf (b : Bool) (cs : List Value) : Value := if b = true then .agg cs.toArray else cs.headD undef

section
variable {P : Program} {B : RO} {h : Heap}
theorem valOf_part {b : Bool} {cs : List Value} {off n : Nat} {ks : List Kd} (hf : fitL ks ((cs.drop off).take n)) (hk : ks.length = n) (h1 : b = false → n = 1) :
    (if b = true then some (.agg (cs.toArray.extract off (off + n))) else cs.toArray[off]?) = some (valOf b ((cs.drop off).take n)) := by
  have hl := hf.length
  cases b with
  | true =>
    simp only [if_true, valOf]
    congr 2
    rw [List.extract_toArray, List.extract_eq_drop_take', List.drop_take, Nat.add_sub_cancel_left]
  | false =>
    have := h1 rfl
    subst this
    have hlen : off < cs.length := by
      rw [List.length_take, List.length_drop] at hl; omega
    simp only [valOf, Bool.false_eq_true, if_false]
    rw [List.getElem?_toArray, List.getElem?_eq_getElem hlen, List.drop_eq_getElem_cons hlen]
    rfl
theorem semH_forL {α : Type} {l : List α} {g : α → Option Bool × Unit → Sem (ForInStep (Option Bool × Unit))} {p : List α → Bool}
    (hn : p [] = true) (hg : ∀ a l', (∃ l0, l = l0 ++ a :: l') → ∃ b : Bool, p (a :: l') = (b && p l') ∧ semH P B (g a ⟨none, ⟨⟩⟩) h (fun s h' => h' = h ∧ s = if b = true then .yield ⟨none, ⟨⟩⟩ else .done ⟨some false, ⟨⟩⟩)) :
    semH P B (forIn l (⟨none, ⟨⟩⟩ : Option Bool × Unit) g) h (fun r h' => h' = h ∧ r = if p l = true then ⟨none, ⟨⟩⟩ else ⟨some false, ⟨⟩⟩) := by
  suffices ∀ l', (∃ l0, l = l0 ++ l') → semH P B (forIn l' (⟨none, ⟨⟩⟩ : Option Bool × Unit) g) h (fun r h' => h' = h ∧ r = if p l' = true then ⟨none, ⟨⟩⟩ else ⟨some false, ⟨⟩⟩) from this l ⟨[], rfl⟩
  intro l'
  induction l' with
  | nil =>
    intro _
    rw [List.forIn_nil, hn]
    exact ⟨rfl, rfl⟩
  | cons a l' ih =>
    rintro ⟨l0, hl⟩
    obtain ⟨b, h1, h2⟩ := hg a l' ⟨l0, hl⟩
    rw [List.forIn_cons, semH_bind, h1]
    refine semH_mono (fun s h' hs => ?_) h2
    obtain ⟨rfl, rfl⟩ := hs
    cases b with
    | true => exact ih ⟨l0 ++ [a], by rw [hl, List.append_assoc]; rfl⟩
    | false => exact ⟨rfl, rfl⟩
theorem semH_prog {α : Type} {f : Program → Sem α} {K : α → Heap → Prop} : semH P B (program >>= f) h K ↔ semH P B (f P) h K := by
  rw [semH_bind]
  exact Iff.rfl
theorem seqF_len {L : TypeId → Option (List Kd)} {f : Field} {fs : List Field} {o : Nat} {ks : List Kd} (h : seqF P L o (f :: fs) = some ks) :
    ∃ l ks' b, L f.type = some l ∧ aggB P f.type = some b ∧ f.offset = o ∧ szB P f.type = some l.length ∧ f.name ≠ "_" ∧ seqF P L (o + l.length) fs = some ks' ∧ ks = l ++ ks' := by
  simp only [seqF] at h
  split at h
  · rename_i l b hl hb
    split at h
    · rename_i hc
      obtain ⟨ks', h1, rfl⟩ := Option.map_eq_some_iff.1 h
      exact ⟨l, ks', b, hl, hb, hc.1, hc.2.1, hc.2.2, h1, rfl⟩
    · cases h
  · cases h
theorem flatB_one {m : Nat} {t : TypeId} {ks : List Kd} (h : flatB P m t = some ks) (hb : aggB P t = some false) : ks.length = 1 := by
  cases m with
  | zero => cases h
  | succ m =>
    simp only [flatB] at h
    unfold aggB at hb
    split at h
    · cases h; rfl
    · cases h; rfl
    · cases h; rfl
    · rename_i fs hu; rw [hu] at hb; cases hb
    · rename_i len e hu; rw [hu] at hb; cases hb
    · cases h
theorem semH_equalIn : ∀ (m n : Nat) (t : TypeId) (ks : List Kd) (b : Bool) (xs ys : List Value), flatB P m t = some ks → aggB P t = some b → fitL ks xs → fitL ks ys →
    semH P B (Op.equalIn (n + m) t (valOf b xs) (valOf b ys)) h (fun c h' => c = eqL xs ys ∧ h' = h)
  | 0, _, _, _, _, _, _, hk, _, _, _ => by cases hk
  | m + 1, n, t, ks, b, xs, ys, hk, hb, hx, hy => by
    have hk0 := hk
    simp only [flatB] at hk
    have hb0 := hb
    unfold aggB at hb
    rw [show n + (m + 1) = (n + m) + 1 from rfl]
    split at hk
    · rename_i hu
      rw [hu] at hb
      cases hb; cases hk
      match xs, ys, hx, hy with
      | [_], [_], ⟨⟨a, rfl⟩, _⟩, ⟨⟨c, rfl⟩, _⟩ =>
        unfold Op.equalIn; rw [semH_und hu]; exact ⟨by simp [eqL, leafEq], rfl⟩
      | _ :: _ :: _, _, ⟨_, hh⟩, _ => exact hh.elim
      | _, _ :: _ :: _, _, ⟨_, hh⟩ => exact hh.elim
    · rename_i k hu
      rw [hu] at hb
      cases hb; cases hk
      match xs, ys, hx, hy with
      | [_], [_], ⟨⟨a, rfl⟩, _⟩, ⟨⟨c, rfl⟩, _⟩ =>
        unfold Op.equalIn; rw [semH_und hu]
        show semH P B (if k = k then pure (a == c) else stuck "==: kinds differ") h _
        rw [if_pos rfl]
        exact ⟨by simp [eqL, leafEq], rfl⟩
      | _ :: _ :: _, _, ⟨_, hh⟩, _ => exact hh.elim
      | _, _ :: _ :: _, _, ⟨_, hh⟩ => exact hh.elim
    · rename_i hu
      rw [hu] at hb
      cases hb; cases hk
      match xs, ys, hx, hy with
      | [_], [_], ⟨⟨a, rfl⟩, _⟩, ⟨⟨c, rfl⟩, _⟩ =>
        unfold Op.equalIn; rw [semH_und hu]; exact ⟨by simp [eqL, leafEq], rfl⟩
      | _ :: _ :: _, _, ⟨_, hh⟩, _ => exact hh.elim
      | _, _ :: _ :: _, _, ⟨_, hh⟩ => exact hh.elim
    · rename_i fs hu
      rw [hu] at hb
      cases hb
      split at hk
      · rename_i hst
        unfold Op.equalIn
        rw [semH_und hu]
        simp only [valOf, if_true]
        rw [semH_prog, if_neg (by rw [hst]; decide)]
        rw [semH_bind, ← Array.forIn_toList]
        have key : ∀ (l : List Field) (o : Nat) (ks : List Kd), seqF P (flatB P m) o l = some ks → fitL ks (xs.drop o) → fitL ks (ys.drop o) → ∀ g : Field → Option Bool × Unit → Sem (ForInStep (Option Bool × Unit)),
            (∀ (f : Field) (cx cy : Value) (c : Bool), f.name ≠ "_" → (∀ {α : Type} (k : Value → Sem α) (K : α → Heap → Prop), semH P B (k cx) h K → semH P B (part f.type xs.toArray f.offset >>= k) h K) → (∀ {α : Type} (k : Value → Sem α) (K : α → Heap → Prop), semH P B (k cy) h K → semH P B (part f.type ys.toArray f.offset >>= k) h K) →
              semH P B (Op.equalIn (n + m) f.type cx cy) h (fun c' h' => c' = c ∧ h' = h) → semH P B (g f ⟨none, ⟨⟩⟩) h (fun s h' => h' = h ∧ s = if c = true then .yield ⟨none, ⟨⟩⟩ else .done ⟨some false, ⟨⟩⟩)) →
            semH P B (forIn l (⟨none, ⟨⟩⟩ : Option Bool × Unit) g) h (fun r h' => h' = h ∧ r = if eqL (xs.drop o) (ys.drop o) = true then ⟨none, ⟨⟩⟩ else ⟨some false, ⟨⟩⟩) := by
          intro l
          induction l with
          | nil =>
            intro o ks hs h1 h2 g _
            cases hs
            rw [List.forIn_nil]
            have e1 : xs.drop o = [] := List.length_eq_zero_iff.1 h1.length
            have e2 : ys.drop o = [] := List.length_eq_zero_iff.1 h2.length
            rw [e1, e2]
            exact ⟨rfl, rfl⟩
          | cons f l ih =>
            intro o ks hs h1 h2 g hg
            obtain ⟨l1, ks', bf, g1, g2, g3, g4, g5, g6, rfl⟩ := seqF_len hs
            have s1 := h1.split
            have s2 := h2.split
            have hone : bf = false → l1.length = 1 := fun e => flatB_one g1 (by rw [g2, e])
            have r1 := semH_equalIn m n f.type l1 bf _ _ g1 g2 s1.1 s2.1
            have st := hg f _ _ _ g5 (fun k K hK => semH_part _ g2 g4 (by rw [g3]; exact valOf_part s1.1 rfl hone) hK) (fun k K hK => semH_part _ g2 g4 (by rw [g3]; exact valOf_part s2.1 rfl hone) hK) r1
            rw [List.forIn_cons, semH_bind, eqL_cut (xs.drop o) (ys.drop o) l1.length (h1.length.trans h2.length.symm)]
            refine semH_mono (fun s h' hs' => ?_) st
            obtain ⟨rfl, rfl⟩ := hs'
            cases hc : eqL ((xs.drop o).take l1.length) ((ys.drop o).take l1.length) with
            | false => exact ⟨rfl, rfl⟩
            | true =>
              have := ih (o + l1.length) ks' g6 (by rw [← List.drop_drop]; exact s1.2) (by rw [← List.drop_drop]; exact s2.2) g hg
              simpa [List.drop_drop] using this
        refine semH_mono (fun r h' hr => ?_) (key fs.toList 0 ks hk (by simpa using hx) (by simpa using hy) _ ?_)
        · obtain ⟨rfl, rfl⟩ := hr
          simp only [List.drop_zero]
          cases eqL xs ys <;> exact ⟨rfl, rfl⟩
        · intro f cx cy c hne px py he
          simp only [hne, ne_eq, not_false_eq_true, if_true]
          refine px _ _ (py _ _ ?_)
          rw [semH_bind]
          refine semH_mono (fun c' h' hc => ?_) he
          obtain ⟨rfl, rfl⟩ := hc
          cases c' <;> exact ⟨rfl, rfl⟩
      · cases hk
    · rename_i len e hu
      rw [hu] at hb
      cases hb
      split at hk
      · rename_i l1 be g1 g2
        split at hk
        · rename_i g4
          cases hk
          unfold Op.equalIn
          rw [semH_und hu]
          simp only [valOf, if_true]
          rw [semH_sz g4]
          rw [semH_bind]
          simp only [Std.Legacy.Range.forIn_eq_forIn_range', Std.Legacy.Range.size, Nat.sub_zero, Nat.add_sub_cancel, Nat.div_one]
          have key : ∀ (c o : Nat), fitL (List.replicate c l1).flatten (xs.drop (o * l1.length)) → fitL (List.replicate c l1).flatten (ys.drop (o * l1.length)) → ∀ g : Nat → Option Bool × Unit → Sem (ForInStep (Option Bool × Unit)),
              (∀ (i : Nat) (cx cy : Value) (c : Bool), (∀ {α : Type} (k : Value → Sem α) (K : α → Heap → Prop), semH P B (k cx) h K → semH P B (part e xs.toArray (i * l1.length) >>= k) h K) → (∀ {α : Type} (k : Value → Sem α) (K : α → Heap → Prop), semH P B (k cy) h K → semH P B (part e ys.toArray (i * l1.length) >>= k) h K) →
                semH P B (Op.equalIn (n + m) e cx cy) h (fun c' h' => c' = c ∧ h' = h) → semH P B (g i ⟨none, ⟨⟩⟩) h (fun s h' => h' = h ∧ s = if c = true then .yield ⟨none, ⟨⟩⟩ else .done ⟨some false, ⟨⟩⟩)) →
              semH P B (forIn (List.range' o c 1) (⟨none, ⟨⟩⟩ : Option Bool × Unit) g) h (fun r h' => h' = h ∧ r = if eqL (xs.drop (o * l1.length)) (ys.drop (o * l1.length)) = true then ⟨none, ⟨⟩⟩ else ⟨some false, ⟨⟩⟩) := by
            intro c
            induction c with
            | zero =>
              intro o h1 h2 g _
              have e1 : xs.drop (o * l1.length) = [] := List.length_eq_zero_iff.1 h1.length
              have e2 : ys.drop (o * l1.length) = [] := List.length_eq_zero_iff.1 h2.length
              rw [e1, e2]
              exact ⟨rfl, rfl⟩
            | succ c ih =>
              intro o h1 h2 g hg
              rw [List.replicate_succ, List.flatten_cons] at h1 h2
              have s1 := h1.split
              have s2 := h2.split
              have hone : be = false → l1.length = 1 := fun e' => flatB_one g1 (by rw [g2, e'])
              have r1 := semH_equalIn m n e l1 be _ _ g1 g2 s1.1 s2.1
              have st := hg o _ _ _ (fun k K hK => semH_part _ g2 g4 (valOf_part s1.1 rfl hone) hK) (fun k K hK => semH_part _ g2 g4 (valOf_part s2.1 rfl hone) hK) r1
              rw [List.range'_succ, List.forIn_cons, semH_bind, eqL_cut (xs.drop (o * l1.length)) (ys.drop (o * l1.length)) l1.length (h1.length.trans h2.length.symm)]
              refine semH_mono (fun s h' hs' => ?_) st
              obtain ⟨rfl, rfl⟩ := hs'
              cases hc : eqL ((xs.drop (o * l1.length)).take l1.length) ((ys.drop (o * l1.length)).take l1.length) with
              | false => exact ⟨rfl, rfl⟩
              | true =>
                have eo : o * l1.length + l1.length = (o + 1) * l1.length := by rw [Nat.add_mul, Nat.one_mul]
                have := ih (o + 1) (by rw [← eo, ← List.drop_drop]; exact s1.2) (by rw [← eo, ← List.drop_drop]; exact s2.2) g hg
                rw [← eo, ← List.drop_drop, ← List.drop_drop] at this
                simpa using this
          refine semH_mono (fun r h' hr => ?_) (key len 0 (by simpa using hx) (by simpa using hy) _ ?_)
          · obtain ⟨rfl, rfl⟩ := hr
            simp only [Nat.zero_mul, List.drop_zero]
            cases eqL xs ys <;> exact ⟨rfl, rfl⟩
          · intro i cx cy c px py he
            refine px _ _ (py _ _ ?_)
            rw [semH_bind]
            refine semH_mono (fun c' h' hc => ?_) he
            obtain ⟨rfl, rfl⟩ := hc
            cases c' <;> exact ⟨rfl, rfl⟩
        · cases hk
      · cases hk
    · cases hk
def flat6B (P : Program) (t : TypeId) : Option (List Kd) := flatB P 6 t
def eqGB (P : Program) (t : TypeId) : Bool := P.eqGuardType P.depth t
variable {ρ : Operand → Value} {d : Option Nat} {ty : TypeId} {pos : String} {aft : Array Edge} {g : Option (Nat × Bool)} {K : Next → Heap → Prop}
theorem sem_aggEq {op : BinOp} {t t' : TypeId} {x y : Operand} (xs ys : List Value) (ks : List Kd) (r : Bool) (hop : op = .eql ∨ op = .neq) (hx : ρ x = .agg xs.toArray) (hy : ρ y = .agg ys.toArray) (ht : aggB P t = some true) (hf : flat6B P t = some ks) (hg : eqGB P t = false)
    (fx : fitL ks xs) (fy : fitL ks ys) (hr : (if op = .eql then eqL xs ys else !(eqL xs ys)) = r) (k : K (.value (.bool r)) h) : semH P B (execOp ρ ⟨d, .binOp op t x y t', ty, pos, aft, g⟩) h K := by
  refine sem_eqW _ _ hx hy ?_
  have he := semH_equalIn (h := h) (B := B) 6 9994 t ks true xs ys hf ht fx fy
  have guard : ∀ {α : Type} {f : Unit → Sem α} {K : α → Heap → Prop}, semH P B (f ()) h K → semH P B (eqGuard op t x y (.agg xs.toArray) (.agg ys.toArray) >>= f) h K := by
    intro α f K hk
    rw [semH_bind]
    unfold eqGuard
    rcases hop with rfl | rfl
    all_goals
      simp only [Bool.not_true, Bool.false_eq_true, if_false]
      rw [semH_prog, semH_prog]
      unfold eqGB at hg
      rw [hg]
      exact hk
  refine guard ?_
  rcases hop with rfl | rfl
  · have e : binOp .eql t (.agg xs.toArray) (.agg ys.toArray) = (do pure (.bool (← Op.equal t (.agg xs.toArray) (.agg ys.toArray)))) := rfl
    rw [e, semH_bind]
    refine semH_mono (fun c h' hc => ?_) he
    obtain ⟨rfl, rfl⟩ := hc
    rw [if_pos rfl] at hr
    subst hr; exact k
  · have e : binOp .neq t (.agg xs.toArray) (.agg ys.toArray) = (do pure (.bool (!(← Op.equal t (.agg xs.toArray) (.agg ys.toArray))))) := rfl
    rw [e, semH_bind]
    refine semH_mono (fun c h' hc => ?_) he
    obtain ⟨rfl, rfl⟩ := hc
    rw [if_neg (by decide)] at hr
    subst hr; exact k
theorem eqLV_eql {xs ys : List Value} : (if BinOp.eql = BinOp.eql then eqL xs ys else !(eqL xs ys)) = decide (eqL xs ys = true) := by simp
theorem eqLV_neq {xs ys : List Value} : (if BinOp.neq = BinOp.eql then eqL xs ys else !(eqL xs ys)) = !(decide (eqL xs ys = true)) := by simp
theorem eqLT_eql {xs ys : List Value} (h : eqL xs ys = true) : (if BinOp.eql = BinOp.eql then eqL xs ys else !(eqL xs ys)) = true := by simp [h]
theorem eqLT_neq {xs ys : List Value} (h : eqL xs ys = true) : (if BinOp.neq = BinOp.eql then eqL xs ys else !(eqL xs ys)) = false := by simp [h]
theorem eqLF_eql {xs ys : List Value} (h : ¬ (eqL xs ys = true)) : (if BinOp.eql = BinOp.eql then eqL xs ys else !(eqL xs ys)) = false := by simp [h]
theorem eqLF_neq {xs ys : List Value} (h : ¬ (eqL xs ys = true)) : (if BinOp.neq = BinOp.eql then eqL xs ys else !(eqL xs ys)) = true := by simp [h]
/-- A slice with all three bounds. -/
theorem sem_slice3L {t : TypeId} {x lo hi mx : Operand} {te sz bz : Nat} (a : Option Addr) (len cap : Nat) (l hh m : Int) (kk k1 k2 : IntKind) (hx : ρ x = .slice a len cap) (ht : slcB P t = some (te, sz, bz)) (hlo : ρ lo = .int kk l) (hhi : ρ hi = .int k1 hh) (hmx : ρ mx = .int k2 m)
    (h0 : 0 ≤ l) (h1 : l ≤ hh) (h2 : hh ≤ m) (h3 : m ≤ cap) (k : K (.value (.slice (if m.toNat = l.toNat then a else a.map (·.add (l.toNat * sz))) (hh.toNat - l.toNat) (m.toNat - l.toNat))) h) : semH P B (execOp ρ ⟨d, .slice t x (some lo) (some hi) (some mx), ty, pos, aft, g⟩) h K := by
  unfold slcB at ht
  split at ht
  · rename_i e' hu
    cases hin : P.info? e' with
    | none => rw [hin] at ht; cases ht
    | some inf =>
      rw [hin] at ht
      simp only [Option.map_some, Option.some.injEq, Prod.mk.injEq] at ht
      obtain ⟨rfl, rfl, rfl⟩ := ht
      refine semH_value.2 ?_
      simp only [hx, Instr.sliceAt]
      rw [semH_und hu]
      simp only [Instr.slice]
      rw [semH_und hu]
      have hb : Instr.sliceBounds true len cap (some (.int kk l)) (some (.int k1 hh)) (some (.int k2 m)) = pure (l.toNat, hh.toNat, m.toNat) := by
        unfold Instr.sliceBounds
        simp only [Instr.sliceBound, asIntOf, pure_bind]
        rw [if_pos ⟨by omega, by omega⟩]
        simp only [pure_bind]
        rw [if_pos ⟨by omega, by omega⟩]
        simp only [pure_bind]
        rw [if_pos ⟨by omega, by omega⟩]
        simp
      simp only [Option.map_some, hlo, hhi, hmx, hb, pure_bind]
      rw [semH_sz (n := inf.size) (by simp [szB, hin])]
      rw [semH_pure]
      exact k
  · cases ht
end
end Go.Proofs.Ythloobpjkeodgaa.H

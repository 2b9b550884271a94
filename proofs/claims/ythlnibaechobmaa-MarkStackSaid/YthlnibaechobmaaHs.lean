/- The heap logic, part 19: regions that draw their order, where several things may come up at once: a way for each. No condition. -/
import Derived.Test.YthlnibaechobmaaHr
import Derived.Orders
namespace Go.Proofs.Ythlnibaechobmaa.H
open Go
set_option linter.unusedVariables false

section
variable {P : Program} {B : RO}
theorem storeH_frame {h h2 : Heap} {b : Nat} {ob : AObj} {a : Addr} {v : Value} (hb : h b = none) (hs : storeH h a v = some h2) : storeH (h.set b ob) a v = some (h2.set b ob) ∧ h2 b = none := by
  unfold storeH at hs ⊢
  by_cases hsp : a.spot.isSome = true
  · rw [if_pos hsp] at hs; cases hs
  rw [if_neg hsp] at hs ⊢
  cases e : h a.block with
  | none => rw [e] at hs; cases hs
  | some o =>
    have hne : a.block ≠ b := fun x => by rw [x, hb] at e; cases e
    rw [Heap.set_ne _ _ _ _ hne, e]
    rw [e] at hs
    cases o with
    | raw o => cases hs
    | vec t fs n =>
      simp only at hs ⊢
      split at hs
      · rename_i h1
        rw [if_pos h1]
        split at hs
        · cases hs
          exact ⟨by rw [Heap.set_comm _ _ _ _ _ hne], by rw [Heap.set_ne _ _ _ _ (Ne.symm hne)]; exact hb⟩
        · cases hs
      · rename_i h1
        rw [if_neg h1]
        split at hs
        · rename_i h2
          rw [if_pos h2]
          cases hs
          exact ⟨by rw [Heap.set_comm _ _ _ _ _ hne], by rw [Heap.set_ne _ _ _ _ (Ne.symm hne)]; exact hb⟩
        · cases hs
theorem semH_frame {α : Type} {s : Sem α} {b : Nat} {ob : AObj} {K : α → Heap → Prop} : ∀ {h : Heap}, h b = none → B b = none → semH P B s h K → semH P B s (h.set b ob) (fun a h' => ∃ h1, h1 b = none ∧ h' = h1.set b ob ∧ K a h1) := by
  induction s with
  | pure a => intro h hb _ hs; exact ⟨h, hb, rfl, hs⟩
  | load m a k ih => rintro h hb hB ⟨v, hv, hs⟩; exact ⟨v, (Wk.new hb hB).cell hv, ih v hb hB hs⟩
  | store m a v k ih =>
    rintro h hb hB ⟨h1, h2, hh, hs⟩
    obtain ⟨e1, e2⟩ := storeH_frame (ob := ob) hb hh
    exact ⟨h1, _, e1, ih e2 hB hs⟩
  | new o k ih =>
    intro h hb hB hs c h1 h2
    have hne : c ≠ b := fun x => by rw [x, Heap.set_same] at h1; cases h1
    rw [Heap.set_ne _ _ _ _ hne] at h1
    rw [Heap.set_comm _ _ _ _ _ (Ne.symm hne)]
    exact ih c (by rw [Heap.set_ne _ _ _ _ (Ne.symm hne)]; exact hb) hB (hs c h1 h2)
  | shape r k ih => rintro h hb hB ⟨s, hs, hk'⟩; exact ⟨s, (Wk.new hb hB).shape hs, ih s hb hB hk'⟩
  | freeze a n k ih =>
    rintro h hb hB ⟨⟨t, fs, m, h1, h1'⟩, h2, hs⟩
    exact ⟨⟨t, fs, m, (Wk.new hb hB).1 _ _ h1, h1'⟩, h2, ih hb hB hs⟩
  | frozen a k ih => intro h hb hB hs c h1; exact ih c hb hB (hs c (fun x hc => h1 x ((Wk.new hb hB).frozen hc)))
  | getObj r k ih => rintro h hb hB ⟨o, h1, h2, hs⟩; exact ⟨o, (Wk.new hb hB).1 _ _ h1, h2, ih o hb hB hs⟩
  | setObj r o k ih =>
    rintro h hb hB ⟨⟨o', h1, h1'⟩, h2, hs⟩
    have hne : r ≠ b := fun x => by rw [x, hb] at h1; cases h1
    refine ⟨⟨o', (Wk.new hb hB).1 _ _ h1, h1'⟩, h2, ?_⟩
    rw [Heap.set_comm _ _ _ _ _ (Ne.symm hne)]
    exact ih (by rw [Heap.set_ne _ _ _ _ (Ne.symm hne)]; exact hb) hB hs
  | choose q k ih =>
    intro h hb hB hs
    simp only [semH] at hs ⊢
    split
    · rename_i hf; rw [if_pos hf] at hs; exact ih 0 hb hB hs
    · rename_i hf; rw [if_neg hf] at hs; intro n; exact ih _ hb hB (hs n)
  | sys c k ih => intro h hb hB hs; exact hs.elim
  | program k ih => intro h hb hB hs; exact ih P hb hB hs
  | mark m k ih => intro h hb hB hs; exact ih hb hB hs
  | halt e => intro h hb hB hs; exact hs.elim

/-- A block of plain cells. -/
def PlainO (ob : AObj) : Prop := ∃ t vs n, ob = .vec t (plains vs) n
/-- A told block is set aside: the frame has it. -/
theorem Rel.aside {F : Fr} {h : Heap} {w : World} {b : Nat} {ob : AObj} (hb : h b = none) (hB : B b = none) (hp : PlainO ob) (R : Rel B F (h.set b ob) w) :
    ∃ o, F.blocks b = none ∧ Rel B (F.add b o) h w ∧ ∀ (h1 : Heap) (w' : World), Rel B (F.add b o) h1 w' → h1 b = none ∧ Rel B F (h1.set b ob) w' := by
  obtain ⟨own, R⟩ := R
  obtain ⟨t, vs, n, rfl⟩ := hp
  obtain ⟨hob, hle, cs, fr, h1, h2, h3, h4⟩ := R.obj b _ (Heap.set_same _ _ _)
  have hF : F.blocks b = none := by
    cases e : F.blocks b with
    | none => rfl
    | some o => have := (R.fr b o e).2.1; rw [Heap.set_same] at this; cases this
  refine ⟨.cells cs t fr, hF, ⟨own, R.os, R.tape, R.output, R.low, ?_, ?_, ?_, R.owned⟩, ?_⟩
  · intro c o hc
    simp only [Fr.add] at hc
    split at hc
    · rename_i e; cases hc; subst e; exact ⟨h1, hb, hob⟩
    · rename_i e
      have := R.fr c o hc
      rw [Heap.set_ne _ _ _ _ e] at this
      exact this
  · intro c o hc
    have hcb : c ≠ b := fun e => by rw [e, hB] at hc; cases hc
    have := R.ro c o hc
    rw [Heap.set_ne _ _ _ _ hcb] at this
    simp only [Fr.add, if_neg hcb]
    exact this
  · intro c o hc
    have hcb : c ≠ b := fun e => by rw [e, hb] at hc; cases hc
    exact R.obj c o (by rw [Heap.set_ne _ _ _ _ hcb]; exact hc)
  · rintro h1' w' ⟨own', R'⟩
    have hfb := R'.fr b (.cells cs t fr) (by simp [Fr.add])
    refine ⟨hfb.2.1, own', R'.os, R'.tape, R'.output, R'.low, ?_, ?_, ?_, R'.owned⟩
    · intro c o hc
      have hcb : c ≠ b := fun e => by rw [e, hF] at hc; cases hc
      have := R'.fr c o (by simp only [Fr.add, if_neg hcb]; exact hc)
      rw [Heap.set_ne _ _ _ _ hcb]
      exact this
    · intro c o hc
      have hcb : c ≠ b := fun e => by rw [e, hB] at hc; cases hc
      have := R'.ro c o hc
      simp only [Fr.add, if_neg hcb] at this
      rw [Heap.set_ne _ _ _ _ hcb]
      exact this
    · intro c o hc
      by_cases hcb : c = b
      · subst hcb
        rw [Heap.set_same] at hc
        cases hc
        exact ⟨hfb.2.2, hle, cs, fr, hfb.1, h2, h3, fun i v hi f hf => by
          have := h4 i v hi f hf
          simp only [plains, List.getElem?_map] at hf
          cases hx : vs[i]? with
          | none => rw [hx] at hf; cases hf
          | some x => rw [hx] at hf; cases hf; exact this⟩
      · rw [Heap.set_ne _ _ _ _ hcb] at hc
        exact R'.obj c o hc
theorem Ent.frame1 {h h' : Heap} {b : Nat} {ob : AObj} (hb : h b = none) (hB : B b = none) (hp : PlainO ob) (he : Ent B h h') : Ent B (h.set b ob) (h'.set b ob) := by
  refine ⟨fun c e => ?_, fun F w R => ?_⟩
  · have hcb : c ≠ b := fun x => by rw [x, Heap.set_same] at e; cases e
    rw [Heap.set_ne _ _ _ _ hcb] at e ⊢
    exact he.1 c e
  · obtain ⟨o, hF, R1, back⟩ := Rel.aside hb hB hp R
    exact (back h' w (he.2 _ _ R1)).2
theorem Spec.frame1 {f : FuncId} {args : Array Value} {h : Heap} {b : Nat} {ob : AObj} {Post : Value → Heap → Prop} (hb : h b = none) (hB : B b = none) (hp : PlainO ob) (hs : Spec P B f args h Post) :
    Spec P B f args (h.set b ob) (fun v h' => ∃ h1, h1 b = none ∧ h' = h1.set b ob ∧ Post v h1) := by
  intro F w R
  obtain ⟨o, hF, R1, back⟩ := Rel.aside hb hB hp R
  refine (hs (F.add b o) w R1).mono fun ed w' ⟨v, h', e, R2, hpost⟩ => ?_
  obtain ⟨k1, k2⟩ := back h' w' R2
  exact ⟨v, _, e, k2, h', k1, rfl, hpost⟩
theorem RoundSpec.frame1 {l : Nat} {f : FuncId} {tmps : Array Value} {assign body : Code} {h : Heap} {b : Nat} {ob : AObj} {K : Value → Heap → Prop} (hb : h b = none) (hB : B b = none) (hp : PlainO ob) (hs : RoundSpec P B l f tmps assign body h K) :
    RoundSpec P B l f tmps assign body (h.set b ob) (fun v h' => ∃ h1, h1 b = none ∧ h' = h1.set b ob ∧ K v h1) := by
  intro F w c cs R
  obtain ⟨o, hF, R1, back⟩ := Rel.aside hb hB hp R
  obtain ⟨v, w', h', s1, R2, hk⟩ := hs (F.add b o) w c cs R1
  obtain ⟨k1, k2⟩ := back h' w' R2
  exact ⟨v, w', _, s1, k2, h', k1, rfl, hk⟩
theorem After.frame1 {nx : Next} {h : Heap} {b : Nat} {ob : AObj} {K : Value → Heap → Prop} (hb : h b = none) (hB : B b = none) (hp : PlainO ob) (ha : After P B nx h K) : After P B nx (h.set b ob) (fun v h' => ∃ h1, h1 b = none ∧ h' = h1.set b ob ∧ K v h1) := by
  cases nx with
  | value v => exact ⟨h, hb, rfl, ha⟩
  | skip => exact ⟨h, hb, rfl, ha⟩
  | enter f args => exact Spec.frame1 hb hB hp ha
  | round l f tmps assign body => exact RoundSpec.frame1 hb hB hp ha
  | _ => exact ha.elim
/-- A call of a function value, beside a block that it doesn't know of. -/
theorem CallV.frame1 {f : Value} {args : List Value} {h : Heap} {b : Nat} {ob : AObj} {K : Value → Heap → Prop} (hb : h b = none) (hB : B b = none) (hp : PlainO ob) (hc : CallV P B f args h K) : CallV P B f args (h.set b ob) (fun v h' => ∃ h1, h1 b = none ∧ h' = h1.set b ob ∧ K v h1) := by
  refine semH_mono (fun nx h' ⟨h1, k1, k2, ha⟩ => ?_) (semH_frame (ob := ob) hb hB hc)
  subst k2
  exact ha.frame1 k1 hB hp
end

/-- The ways through a region: a quiet operation as early as it may; of others, whichever may come up. -/
inductive Ord where
  | nil
  | q (i : Nat) (t : Ord)
  | x (i : Nat) (t alt : Ord)
  | no

def okT (ops : Array Oper) (z : List Nat) : Ord → Nat → Array Bool → Option (List Nat) → Bool
  | .nil, n, listed, none => n == 0 && (Region.ready .any ops listed).isEmpty
  | .q i t, n + 1, listed, none => (Region.ready .any ops listed).contains i && Region.free .any ops listed i && lastWaits ops z i && needC z listed && okT ops z t n (listed.setIfInBounds i true) none
  | .x i t alt, n + 1, listed, none => match Region.ready .any ops listed with
    | r :: rs => r == i && okT ops z t n (listed.setIfInBounds i true) none && okT ops z alt (n + 1) listed (some rs)
    | [] => false
  | .x i t alt, n + 1, listed, some (r :: rs) => r == i && okT ops z t n (listed.setIfInBounds i true) none && okT ops z alt (n + 1) listed (some rs)
  | .no, _, _, some [] => true
  | _, _, _, _ => false

section
variable {P : Program} {B : RO} {N : Nat} {ops : Array Oper} {k : List Item} {Φ : Lv → Env → Heap → Prop} {C : Heap → Prop} {z : List Nat}
def RunT (P : Program) (B : RO) (N : Nat) (ops : Array Oper) (k : List Item) (Φ : Lv → Env → Heap → Prop) (C : Heap → Prop) (z : List Nat) : Ord → Env → Heap → Prop
  | .nil, e, h => Run P B N k e h Φ
  | .q i t, e, h => ∃ o v, ops[i]? = some o ∧ YieldsC P B N ops C o v e ∧ RunT P B N ops k Φ C z t (updO e o.dst v) h
  | .x i t alt, e, h => OpH P B N ops i (fun e' h' => (z.contains i = false → C h') ∧ RunT P B N ops k Φ C z t e' h') e h ∧ RunT P B N ops k Φ C z alt e h
  | .no, _, _ => True

theorem RunT.any (hs : Region.noSelect ops = true) : ∀ (t : Ord),
    (∀ (n : Nat) (listed : Array Bool) (e : Env) (h : Heap), ClosedL ops listed → okT ops z t n listed none = true → (needC z listed = true → C h) → RunT P B N ops k Φ C z t e h → RunAny P B N ops k Φ C z n listed e h) ∧
    (∀ (n : Nat) (listed : Array Bool) (rs : List Nat) (e : Env) (h : Heap), ClosedL ops listed → okT ops z t n listed (some rs) = true → (∀ j ∈ rs, j ∈ Region.ready .any ops listed) → RunT P B N ops k Φ C z t e h → ∀ j ∈ rs, OpH P B N ops j (RunAny P B N ops k Φ C z (n - 1) (listed.setIfInBounds j true)) e h) := by
  have lateIn : ∀ {listed : Array Bool} {j : Nat}, j ∈ Region.ready .any ops listed → needC z (listed.setIfInBounds j true) = true → z.contains j = false := fun {listed j} hj' hn => by
    have hlt : j < listed.size := by
      have hun := (mem_ready.1 hj').1
      rcases Nat.lt_or_ge j listed.size with h' | h'
      · exact h'
      · simp [Array.getD, Nat.not_lt.2 h'] at hun
    cases hc : z.contains j with
    | false => rfl
    | true =>
      have hm : j ∈ z := by simpa using hc
      have := List.all_eq_true.1 hn j hm
      simp [Array.getD, hlt] at this
  intro t
  induction t with
  | nil =>
    refine ⟨fun n listed e h hcl hok hC hr => ?_, fun n listed rs e h hcl hok => by simp [okT] at hok⟩
    simp only [okT, Bool.and_eq_true, beq_iff_eq] at hok
    obtain ⟨rfl, h2⟩ := hok
    exact ⟨hC, by simpa using h2, hr⟩
  | no =>
    refine ⟨fun n listed e h hcl hok => by simp [okT] at hok, fun n listed rs e h hcl hok _ _ j hj => ?_⟩
    cases rs with
    | nil => cases hj
    | cons r rs => simp [okT] at hok
  | q i t ih =>
    refine ⟨fun n listed e h hcl hok hC hr => ?_, fun n listed rs e h hcl hok => by simp [okT] at hok⟩
    cases n with
    | zero => simp [okT] at hok
    | succ n =>
      simp only [okT, Bool.and_eq_true] at hok
      obtain ⟨⟨⟨⟨h1, h2⟩, h3⟩, h4⟩, h5⟩ := hok
      obtain ⟨o, v, ho, hy, hr⟩ := hr
      exact RunAny.first ho (Region.noSelect_spec hs) h3 n listed e h hcl (Region.free_spec ho h2) (by simpa using h1) hy (hC h4) h4 (ih.1 _ _ _ _ (hcl.set (by simpa using h1)) h5 (fun _ => hC h4) hr)
  | x i t alt iht iha =>
    have one : ∀ {n : Nat} {listed : Array Bool} {e : Env} {h : Heap}, ClosedL ops listed → i ∈ Region.ready .any ops listed → okT ops z t n (listed.setIfInBounds i true) none = true →
        OpH P B N ops i (fun e' h' => (z.contains i = false → C h') ∧ RunT P B N ops k Φ C z t e' h') e h → OpH P B N ops i (RunAny P B N ops k Φ C z n (listed.setIfInBounds i true)) e h := fun hcl hi hok ho =>
      ho.mono fun e' h' hh => iht.1 _ _ _ _ (hcl.set hi) hok (fun hn => hh.1 (lateIn hi hn)) hh.2
    refine ⟨fun n listed e h hcl hok hC hr => ?_, fun n listed rs e h hcl hok hrs hr j hj => ?_⟩
    · cases n with
      | zero => simp [okT] at hok
      | succ n =>
        simp only [okT] at hok
        cases hrd : Region.ready .any ops listed with
        | nil => rw [hrd] at hok; cases hok
        | cons r rs =>
          rw [hrd] at hok
          simp only [Bool.and_eq_true, beq_iff_eq] at hok
          obtain ⟨⟨rfl, h2⟩, h3⟩ := hok
          have hmem : r ∈ Region.ready .any ops listed := by rw [hrd]; simp
          refine ⟨hC, fun h0 => (by rw [hrd] at h0; cases h0), fun j hj => ?_⟩
          rw [hrd] at hj
          rcases List.mem_cons.1 hj with rfl | hj
          · exact one hcl hmem h2 hr.1
          · exact iha.2 (n + 1) listed rs e h hcl h3 (fun j' hj' => by rw [hrd]; exact List.mem_cons_of_mem _ hj') hr.2 j hj
    · cases n with
      | zero => cases rs <;> simp [okT] at hok
      | succ n =>
        cases rs with
        | nil => simp [okT] at hok
        | cons r rs =>
          simp only [okT, Bool.and_eq_true, beq_iff_eq] at hok
          obtain ⟨⟨rfl, h2⟩, h3⟩ := hok
          rcases List.mem_cons.1 hj with rfl | hj
          · exact one hcl (hrs j (by simp)) h2 hr.1
          · exact iha.2 (n + 1) listed rs e h hcl h3 (fun j' hj' => hrs j' (List.mem_cons_of_mem _ hj')) hr.2 j hj

theorem Run.drawT {id : Nat} {l : List Oper} {e : Env} {h : Heap} (C : Heap → Prop) (z : List Nat) (ord : Ord) (hm : P.follows .mixedOrders = true) (hs : (Region.noSelect l.toArray && okT l.toArray z ord l.length (Array.replicate l.length false) none) = true)
    (hC : C h) (hr : RunT P B N l.toArray k Φ C z ord e h) : Run P B N (.code (.region id l.toArray true) :: k) e h Φ := by
  simp only [Bool.and_eq_true] at hs
  refine Run.region_draw fun t => ?_
  simp only [Region.schedule, hm, Bool.true_or, if_true, Region.linearise]
  have := (RunT.any (C := C) (z := z) hs.1 ord).1 l.length (Array.replicate l.length false) e h (fun m om hm hl => by
    have hlt := (Array.getElem?_eq_some_iff.1 hm).1
    simp only [List.size_toArray] at hlt
    simp [Array.getD, hlt] at hl) hs.2 (fun _ => hC) hr
  simpa using RunAny.sound l.length t _ e h this
theorem RunT.quiet {i : Nat} {t : Ord} {o : Oper} {v : Value} {e : Env} {h : Heap} (ho : ops[i]? = some o) (hd : (dstOK N o && noDefer o) = true) (hw : Region.wanted o (yieldE ops e) = true) (hq : ∀ h', C h' → QuietAt P B o e h' v) (hr : RunT P B N ops k Φ C z t (updO e o.dst v) h) : RunT P B N ops k Φ C z (.q i t) e h := by
  simp only [Bool.and_eq_true] at hd
  exact ⟨o, v, ho, ⟨hd.1, hd.2, .inl ⟨hw, hq⟩⟩, hr⟩
theorem RunT.skip {i : Nat} {t : Ord} {o : Oper} {e : Env} {h : Heap} (ho : ops[i]? = some o) (hd : (dstOK N o && noDefer o) = true) (hw : Region.wanted o (yieldE ops e) = false) (hr : RunT P B N ops k Φ C z t (updO e o.dst undef) h) : RunT P B N ops k Φ C z (.q i t) e h := by
  simp only [Bool.and_eq_true] at hd
  exact ⟨o, undef, ho, ⟨hd.1, hd.2, .inr ⟨hw, rfl⟩⟩, hr⟩
end
section
variable {P : Program} {B : RO} {h : Heap} {ρ : Operand → Value} {d : Option Nat} {ty : TypeId} {pos : String} {aft : Array Edge} {g : Option (Nat × Bool)} {K : Next → Heap → Prop}
theorem sem_capSl {x : Operand} {t : TypeId} (a : Option Addr) (n c : Nat) (hx : ρ x = .slice a n c) (ht : slT P t = true) (k : K (.value (.int .i64 c)) h) : semH P B (execOp ρ ⟨d, .call ⟨.builtin .cap, #[x], #[t]⟩, ty, pos, aft, g⟩) h K := by
  unfold slT at ht
  split at ht
  · rename_i e hu
    rw [exec_builtin #[ρ x] (by simp)]
    show semH P B (do pure (.value (← Builtin.cap_ #[t] ty #[ρ x]))) h K
    rw [semH_value, hx]
    simp only [Builtin.cap_, List.getElem?_toArray, List.getElem?_cons_zero]
    rw [semH_und hu]
    exact k
  · cases ht
/-- An array's cells, as a slice. -/
theorem sem_sliceArrI {t : TypeId} {x : Operand} {lo hi : Option Operand} {n e sz : Nat} {b : Bool} (A : Addr) (l hh : Int) (hx : ρ x = .pointer (some A)) (ht : arrB P t = some (n, e, sz, b)) (hl : lowOf ρ lo l) (hhi : highOf ρ hi hh n) (h0 : 0 ≤ l) (h1 : l ≤ hh) (h2 : hh ≤ n)
    (k : K (.value (.slice (some (if n = l.toNat then A else A.add (l.toNat * sz))) (hh.toNat - l.toNat) (n - l.toNat))) h) : semH P B (execOp ρ ⟨d, .slice t x lo hi none, ty, pos, aft, g⟩) h K := by
  unfold arrB at ht
  split at ht
  · rename_i n' e' hu
    split at ht
    · rename_i s' b' hs hb
      simp only [Option.some.injEq, Prod.mk.injEq] at ht
      obtain ⟨rfl, rfl, rfl, rfl⟩ := ht
      refine semH_value.2 ?_
      simp only [hx, Instr.sliceAt]
      rw [semH_und hu]
      have hbd : Instr.sliceBounds false n' n' (lo.map ρ) (hi.map ρ) none = pure (l.toNat, hh.toNat, n') := by
        unfold Instr.sliceBounds
        have e1 : (match hi.map ρ, (none : Option Value) with
            | some v, some _ => Instr.sliceBound v n' .slice3B
            | some v, none => Instr.sliceBound v n' .sliceAlen
            | none, none => pure n'
            | none, some _ => stuck "Slice: max without high") = (pure hh.toNat : Sem Nat) := by
          cases hi with
          | none =>
            have : hh = n' := hhi
            subst this
            simp
          | some y =>
            obtain ⟨kk, hy⟩ := hhi
            simp only [Option.map_some, hy, Instr.sliceBound, asIntOf, pure_bind]
            rw [if_pos ⟨by omega, by omega⟩]
        have e2 : (match lo.map ρ with
            | some v => Instr.sliceBound v hh.toNat .sliceB
            | none => pure 0) = (pure l.toNat : Sem Nat) := by
          cases lo with
          | none =>
            have : l = 0 := hl
            subst this
            rfl
          | some y =>
            obtain ⟨kk, hy⟩ := hl
            simp only [Option.map_some, hy, Instr.sliceBound, asIntOf, pure_bind]
            rw [if_pos ⟨by omega, by omega⟩]
        cases lo with
        | none =>
          have : l = 0 := hl
          subst this
          cases hi with
          | none =>
            have : hh = n' := hhi
            subst this
            simp
          | some y =>
            obtain ⟨kk, hy⟩ := hhi
            simp only [Option.map_some, Option.map_none, hy, Instr.sliceBound, asIntOf, pure_bind]
            simp
            rw [if_pos ⟨by omega, by omega⟩]
            rfl
        | some x =>
          obtain ⟨kx, hx'⟩ := hl
          cases hi with
          | none =>
            have : hh = n' := hhi
            subst this
            simp only [Option.map_some, Option.map_none, hx', Instr.sliceBound, asIntOf, pure_bind]
            simp
            rw [if_pos ⟨by omega, by omega⟩]
            rfl
          | some y =>
            obtain ⟨kk, hy⟩ := hhi
            simp only [Option.map_some, hx', hy, Instr.sliceBound, asIntOf, pure_bind]
            simp
            rw [if_pos ⟨by omega, by omega⟩]
            simp only [pure_bind]
            rw [if_pos ⟨by omega, by omega⟩]
            rfl
      simp only [Instr.sureAddr, pure_bind, Option.map_none, hbd]
      rw [semH_sz hs]
      rw [semH_pure]
      exact k
    · cases ht
  · cases ht
end
end Go.Proofs.Ythlnibaechobmaa.H

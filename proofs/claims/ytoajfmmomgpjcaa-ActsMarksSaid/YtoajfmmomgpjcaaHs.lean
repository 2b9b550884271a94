/- The heap logic, part 19: regions that draw their order, where several things may come up at once: a way for each. No condition. -/
import Derived.Test.YtoajfmmomgpjcaaHr
import Derived.Orders
namespace Go.Proofs.Ytoajfmmomgpjcaa.H
open Go
set_option linter.unusedVariables false

/-- The ways through a region: a quiet operation as early as it may; of others, whichever may come up. -/
inductive Ord where
  | nil
  | q (i : Nat) (t : Ord)
  | x (i : Nat) (t alt : Ord)
  | no

def okT (ops : Array Oper) (z : List Nat) : Ord → Nat → Array Bool → Option (List Nat) → Bool
  | .nil, n, listed, none => n == 0 && (Region.ready .any ops listed).isEmpty
  | .q i t, n + 1, listed, none => (Region.ready .any ops listed).contains i && Region.free .any ops listed i && lastWaits ops z i && needC z listed && okT ops z t n (listed.setIfInBounds i true) none
  | .x i t alt, n + 1, listed, none => match Region.ready .any ops listed with
    | r :: rs => r == i && okT ops z t n (listed.setIfInBounds i true) none && okT ops z alt (n + 1) listed (some rs)
    | [] => false
  | .x i t alt, n + 1, listed, some (r :: rs) => r == i && okT ops z t n (listed.setIfInBounds i true) none && okT ops z alt (n + 1) listed (some rs)
  | .no, _, _, some [] => true
  | _, _, _, _ => false

section
variable {P : Program} {B : RO} {N : Nat} {ops : Array Oper} {k : List Item} {Φ : Lv → Env → Heap → Prop} {C : Heap → Prop} {z : List Nat}
def RunT (P : Program) (B : RO) (N : Nat) (ops : Array Oper) (k : List Item) (Φ : Lv → Env → Heap → Prop) (C : Heap → Prop) (z : List Nat) : Ord → Env → Heap → Prop
  | .nil, e, h => Run P B N k e h Φ
  | .q i t, e, h => ∃ o v, ops[i]? = some o ∧ YieldsC P B N ops C o v e ∧ RunT P B N ops k Φ C z t (updO e o.dst v) h
  | .x i t alt, e, h => OpH P B N ops i (fun e' h' => (z.contains i = false → C h') ∧ RunT P B N ops k Φ C z t e' h') e h ∧ RunT P B N ops k Φ C z alt e h
  | .no, _, _ => True

theorem RunT.any (hs : Region.noSelect ops = true) : ∀ (t : Ord),
    (∀ (n : Nat) (listed : Array Bool) (e : Env) (h : Heap), ClosedL ops listed → okT ops z t n listed none = true → (needC z listed = true → C h) → RunT P B N ops k Φ C z t e h → RunAny P B N ops k Φ C z n listed e h) ∧
    (∀ (n : Nat) (listed : Array Bool) (rs : List Nat) (e : Env) (h : Heap), ClosedL ops listed → okT ops z t n listed (some rs) = true → (∀ j ∈ rs, j ∈ Region.ready .any ops listed) → RunT P B N ops k Φ C z t e h → ∀ j ∈ rs, OpH P B N ops j (RunAny P B N ops k Φ C z (n - 1) (listed.setIfInBounds j true)) e h) := by
  have lateIn : ∀ {listed : Array Bool} {j : Nat}, j ∈ Region.ready .any ops listed → needC z (listed.setIfInBounds j true) = true → z.contains j = false := fun {listed j} hj' hn => by
    have hlt : j < listed.size := by
      have hun := (mem_ready.1 hj').1
      rcases Nat.lt_or_ge j listed.size with h' | h'
      · exact h'
      · simp [Array.getD, Nat.not_lt.2 h'] at hun
    cases hc : z.contains j with
    | false => rfl
    | true =>
      have hm : j ∈ z := by simpa using hc
      have := List.all_eq_true.1 hn j hm
      simp [Array.getD, hlt] at this
  intro t
  induction t with
  | nil =>
    refine ⟨fun n listed e h hcl hok hC hr => ?_, fun n listed rs e h hcl hok => by simp [okT] at hok⟩
    simp only [okT, Bool.and_eq_true, beq_iff_eq] at hok
    obtain ⟨rfl, h2⟩ := hok
    exact ⟨hC, by simpa using h2, hr⟩
  | no =>
    refine ⟨fun n listed e h hcl hok => by simp [okT] at hok, fun n listed rs e h hcl hok _ _ j hj => ?_⟩
    cases rs with
    | nil => cases hj
    | cons r rs => simp [okT] at hok
  | q i t ih =>
    refine ⟨fun n listed e h hcl hok hC hr => ?_, fun n listed rs e h hcl hok => by simp [okT] at hok⟩
    cases n with
    | zero => simp [okT] at hok
    | succ n =>
      simp only [okT, Bool.and_eq_true] at hok
      obtain ⟨⟨⟨⟨h1, h2⟩, h3⟩, h4⟩, h5⟩ := hok
      obtain ⟨o, v, ho, hy, hr⟩ := hr
      exact RunAny.first ho (Region.noSelect_spec hs) h3 n listed e h hcl (Region.free_spec ho h2) (by simpa using h1) hy (hC h4) h4 (ih.1 _ _ _ _ (hcl.set (by simpa using h1)) h5 (fun _ => hC h4) hr)
  | x i t alt iht iha =>
    have one : ∀ {n : Nat} {listed : Array Bool} {e : Env} {h : Heap}, ClosedL ops listed → i ∈ Region.ready .any ops listed → okT ops z t n (listed.setIfInBounds i true) none = true →
        OpH P B N ops i (fun e' h' => (z.contains i = false → C h') ∧ RunT P B N ops k Φ C z t e' h') e h → OpH P B N ops i (RunAny P B N ops k Φ C z n (listed.setIfInBounds i true)) e h := fun hcl hi hok ho =>
      ho.mono fun e' h' hh => iht.1 _ _ _ _ (hcl.set hi) hok (fun hn => hh.1 (lateIn hi hn)) hh.2
    refine ⟨fun n listed e h hcl hok hC hr => ?_, fun n listed rs e h hcl hok hrs hr j hj => ?_⟩
    · cases n with
      | zero => simp [okT] at hok
      | succ n =>
        simp only [okT] at hok
        cases hrd : Region.ready .any ops listed with
        | nil => rw [hrd] at hok; cases hok
        | cons r rs =>
          rw [hrd] at hok
          simp only [Bool.and_eq_true, beq_iff_eq] at hok
          obtain ⟨⟨rfl, h2⟩, h3⟩ := hok
          have hmem : r ∈ Region.ready .any ops listed := by rw [hrd]; simp
          refine ⟨hC, fun h0 => (by rw [hrd] at h0; cases h0), fun j hj => ?_⟩
          rw [hrd] at hj
          rcases List.mem_cons.1 hj with rfl | hj
          · exact one hcl hmem h2 hr.1
          · exact iha.2 (n + 1) listed rs e h hcl h3 (fun j' hj' => by rw [hrd]; exact List.mem_cons_of_mem _ hj') hr.2 j hj
    · cases n with
      | zero => cases rs <;> simp [okT] at hok
      | succ n =>
        cases rs with
        | nil => simp [okT] at hok
        | cons r rs =>
          simp only [okT, Bool.and_eq_true, beq_iff_eq] at hok
          obtain ⟨⟨rfl, h2⟩, h3⟩ := hok
          rcases List.mem_cons.1 hj with rfl | hj
          · exact one hcl (hrs j (by simp)) h2 hr.1
          · exact iha.2 (n + 1) listed rs e h hcl h3 (fun j' hj' => hrs j' (List.mem_cons_of_mem _ hj')) hr.2 j hj

theorem Run.drawT {id : Nat} {l : List Oper} {e : Env} {h : Heap} (C : Heap → Prop) (z : List Nat) (ord : Ord) (hm : P.follows .mixedOrders = true) (hs : (Region.noSelect l.toArray && okT l.toArray z ord l.length (Array.replicate l.length false) none) = true)
    (hC : C h) (hr : RunT P B N l.toArray k Φ C z ord e h) : Run P B N (.code (.region id l.toArray true) :: k) e h Φ := by
  simp only [Bool.and_eq_true] at hs
  refine Run.region_draw fun t => ?_
  simp only [Region.schedule, hm, Bool.true_or, if_true, Region.linearise]
  have := (RunT.any (C := C) (z := z) hs.1 ord).1 l.length (Array.replicate l.length false) e h (fun m om hm hl => by
    have hlt := (Array.getElem?_eq_some_iff.1 hm).1
    simp only [List.size_toArray] at hlt
    simp [Array.getD, hlt] at hl) hs.2 (fun _ => hC) hr
  simpa using RunAny.sound l.length t _ e h this
theorem RunT.quiet {i : Nat} {t : Ord} {o : Oper} {v : Value} {e : Env} {h : Heap} (ho : ops[i]? = some o) (hd : (dstOK N o && noDefer o) = true) (hw : Region.wanted o (yieldE ops e) = true) (hq : ∀ h', C h' → QuietAt P B o e h' v) (hr : RunT P B N ops k Φ C z t (updO e o.dst v) h) : RunT P B N ops k Φ C z (.q i t) e h := by
  simp only [Bool.and_eq_true] at hd
  exact ⟨o, v, ho, ⟨hd.1, hd.2, .inl ⟨hw, hq⟩⟩, hr⟩
theorem RunT.skip {i : Nat} {t : Ord} {o : Oper} {e : Env} {h : Heap} (ho : ops[i]? = some o) (hd : (dstOK N o && noDefer o) = true) (hw : Region.wanted o (yieldE ops e) = false) (hr : RunT P B N ops k Φ C z t (updO e o.dst undef) h) : RunT P B N ops k Φ C z (.q i t) e h := by
  simp only [Bool.and_eq_true] at hd
  exact ⟨o, undef, ho, ⟨hd.1, hd.2, .inr ⟨hw, rfl⟩⟩, hr⟩
end
section
variable {P : Program} {B : RO} {h : Heap} {ρ : Operand → Value} {d : Option Nat} {ty : TypeId} {pos : String} {aft : Array Edge} {g : Option (Nat × Bool)} {K : Next → Heap → Prop}
theorem sem_capSl {x : Operand} {t : TypeId} (a : Option Addr) (n c : Nat) (hx : ρ x = .slice a n c) (ht : slT P t = true) (k : K (.value (.int .i64 c)) h) : semH P B (execOp ρ ⟨d, .call ⟨.builtin .cap, #[x], #[t]⟩, ty, pos, aft, g⟩) h K := by
  unfold slT at ht
  split at ht
  · rename_i e hu
    rw [exec_builtin #[ρ x] (by simp)]
    show semH P B (do pure (.value (← Builtin.cap_ #[t] ty #[ρ x]))) h K
    rw [semH_value, hx]
    simp only [Builtin.cap_, List.getElem?_toArray, List.getElem?_cons_zero]
    rw [semH_und hu]
    exact k
  · cases ht
/-- An array's cells, as a slice. -/
theorem sem_sliceArrI {t : TypeId} {x : Operand} {lo hi : Option Operand} {n e sz : Nat} {b : Bool} (A : Addr) (l hh : Int) (hx : ρ x = .pointer (some A)) (ht : arrB P t = some (n, e, sz, b)) (hl : lowOf ρ lo l) (hhi : highOf ρ hi hh n) (h0 : 0 ≤ l) (h1 : l ≤ hh) (h2 : hh ≤ n)
    (k : K (.value (.slice (some (if n = l.toNat then A else A.add (l.toNat * sz))) (hh.toNat - l.toNat) (n - l.toNat))) h) : semH P B (execOp ρ ⟨d, .slice t x lo hi none, ty, pos, aft, g⟩) h K := by
  unfold arrB at ht
  split at ht
  · rename_i n' e' hu
    split at ht
    · rename_i s' b' hs hb
      simp only [Option.some.injEq, Prod.mk.injEq] at ht
      obtain ⟨rfl, rfl, rfl, rfl⟩ := ht
      refine semH_value.2 ?_
      simp only [hx, Instr.sliceAt]
      rw [semH_und hu]
      have hbd : Instr.sliceBounds false n' n' (lo.map ρ) (hi.map ρ) none = pure (l.toNat, hh.toNat, n') := by
        unfold Instr.sliceBounds
        have e1 : (match hi.map ρ, (none : Option Value) with
            | some v, some _ => Instr.sliceBound v n' .slice3B
            | some v, none => Instr.sliceBound v n' .sliceAlen
            | none, none => pure n'
            | none, some _ => stuck "Slice: max without high") = (pure hh.toNat : Sem Nat) := by
          cases hi with
          | none =>
            have : hh = n' := hhi
            subst this
            simp
          | some y =>
            obtain ⟨kk, hy⟩ := hhi
            simp only [Option.map_some, hy, Instr.sliceBound, asIntOf, pure_bind]
            rw [if_pos ⟨by omega, by omega⟩]
        have e2 : (match lo.map ρ with
            | some v => Instr.sliceBound v hh.toNat .sliceB
            | none => pure 0) = (pure l.toNat : Sem Nat) := by
          cases lo with
          | none =>
            have : l = 0 := hl
            subst this
            rfl
          | some y =>
            obtain ⟨kk, hy⟩ := hl
            simp only [Option.map_some, hy, Instr.sliceBound, asIntOf, pure_bind]
            rw [if_pos ⟨by omega, by omega⟩]
        cases lo with
        | none =>
          have : l = 0 := hl
          subst this
          cases hi with
          | none =>
            have : hh = n' := hhi
            subst this
            simp
          | some y =>
            obtain ⟨kk, hy⟩ := hhi
            simp only [Option.map_some, Option.map_none, hy, Instr.sliceBound, asIntOf, pure_bind]
            simp
            rw [if_pos ⟨by omega, by omega⟩]
            rfl
        | some x =>
          obtain ⟨kx, hx'⟩ := hl
          cases hi with
          | none =>
            have : hh = n' := hhi
            subst this
            simp only [Option.map_some, Option.map_none, hx', Instr.sliceBound, asIntOf, pure_bind]
            simp
            rw [if_pos ⟨by omega, by omega⟩]
            rfl
          | some y =>
            obtain ⟨kk, hy⟩ := hhi
            simp only [Option.map_some, hx', hy, Instr.sliceBound, asIntOf, pure_bind]
            simp
            rw [if_pos ⟨by omega, by omega⟩]
            simp only [pure_bind]
            rw [if_pos ⟨by omega, by omega⟩]
            rfl
      simp only [Instr.sureAddr, pure_bind, Option.map_none, hbd]
      rw [semH_sz hs]
      rw [semH_pure]
      exact k
    · cases ht
  · cases ht
end
end Go.Proofs.Ytoajfmmomgpjcaa.H

/- The heap logic, part 5: regions that draw their order: one logical order serves every order. No condition. -/
import Derived.Test.YthloobpjkeodgaaHd
import Derived.Orders
namespace Go.Proofs.Ythloobpjkeodgaa.H
open Go
set_option linter.unusedVariables false

section
variable {P : Program} {B : RO} {N : Nat} {ops : Array Oper} {k : List Item} {Φ : Lv → Env → Heap → Prop} {C : Heap → Prop}

theorem updO_comm (e : Env) {x y : Option Nat} (v u : Value) (h : ∀ d, x = some d → y ≠ some d) : updO (updO e x v) y u = updO (updO e y u) x v := by
  cases x with
  | none => rfl
  | some d =>
    cases y with
    | none => rfl
    | some c =>
      have hne : d ≠ c := fun he => h d rfl (he ▸ rfl)
      funext t
      simp only [updO]
      by_cases h1 : t = d
      · subst h1
        rw [upd_ne _ _ _ _ hne, upd_same, upd_same]
      · by_cases h2 : t = c
        · subst h2
          rw [upd_same, upd_ne _ _ _ _ h1, upd_same]
        · rw [upd_ne _ _ _ _ h2, upd_ne _ _ _ _ h1, upd_ne _ _ _ _ h1, upd_ne _ _ _ _ h2]

theorem evalE_put {e : Env} {dst : Option Tmp} {v : Value} {x : Operand} (h : ∀ d, dst = some d → x ≠ .tmp d) : evalE (updO e dst v) x = evalE e x := by
  cases dst with
  | none => rfl
  | some d =>
    cases x with
    | tmp t =>
      have hne : t ≠ d := fun e => h d rfl (e ▸ rfl)
      exact upd_ne _ _ _ _ hne
    | _ => rfl
theorem execOp_putE (o : Oper) (hs : ∀ cs b, o.op ≠ .select cs b) (e : Env) (dst : Option Tmp) (v : Value) (h : ∀ d, dst = some d → d ∉ o.looksAt ops) : execOp (evalE (updO e dst v)) o = execOp (evalE e) o :=
  execOp_congr o hs fun x hx => evalE_put fun d hd hxd => h d hd (by
    subst hxd
    exact List.mem_append_left _ (List.mem_filterMap.2 ⟨.tmp d, by simpa using hx, rfl⟩))
theorem wanted_putE (o : Oper) (e : Env) (dst : Option Tmp) (v : Value) (h : ∀ d, dst = some d → d ∉ o.looksAt ops) : Region.wanted o (yieldE ops (updO e dst v)) = Region.wanted o (yieldE ops e) := by
  cases dst with
  | none => rfl
  | some d =>
    unfold Region.wanted
    cases hg : o.guard with
    | none => rfl
    | some p =>
      obtain ⟨g, want⟩ := p
      have hnot := h d rfl
      simp only [Oper.looksAt, hg, List.mem_append, not_or] at hnot
      simp only [yieldE]
      cases hb : (ops[g]?).bind (·.dst) with
      | none => rfl
      | some t =>
        have hne : t ≠ d := fun e' => hnot.2 (by simp [hb, e'])
        simp only [updO]
        rw [upd_ne _ _ _ _ hne]

def OpH (P : Program) (B : RO) (N : Nat) (ops : Array Oper) (i : Nat) (K : Env → Heap → Prop) (e : Env) (h : Heap) : Prop :=
  match ops[i]? with
  | none => False
  | some o => dstOK N o = true ∧ noDefer o = true ∧
    ((Region.wanted o (yieldE ops e) = true ∧ semH P B (execOp (evalE e) o) h (fun nx h' => After P B nx h' (fun v h'' => K (updO e o.dst v) h''))) ∨
     (Region.wanted o (yieldE ops e) = false ∧ K (updO e o.dst undef) h))

theorem OpH.mono {i : Nat} {K K' : Env → Heap → Prop} {e : Env} {h : Heap} (hk : ∀ e h, K e h → K' e h) (hh : OpH P B N ops i K e h) : OpH P B N ops i K' e h := by
  unfold OpH at *
  split
  · rename_i hn; simp only [hn] at hh
  · rename_i o ho
    simp only [ho] at hh
    obtain ⟨h1, h2, h3⟩ := hh
    refine ⟨h1, h2, h3.imp (fun h => ⟨h.1, semH_mono (fun nx h' ha => ha.mono (fun v h'' hk' => hk _ _ hk')) h.2⟩) (fun h => ⟨h.1, hk _ _ h.2⟩)⟩

/-- While none of the late operations (z) has come up, the class is asked. -/
def needC (z : List Nat) (listed : Array Bool) : Bool := z.all fun z => !listed.getD z true

def RunAny (P : Program) (B : RO) (N : Nat) (ops : Array Oper) (k : List Item) (Φ : Lv → Env → Heap → Prop) (C : Heap → Prop) (z : List Nat) : Nat → Array Bool → Env → Heap → Prop
  | 0, listed, e, h => (needC z listed = true → C h) ∧ Region.ready .any ops listed = [] ∧ Run P B N k e h Φ
  | fuel + 1, listed, e, h => (needC z listed = true → C h) ∧ (Region.ready .any ops listed = [] → Run P B N k e h Φ) ∧ ∀ i ∈ Region.ready .any ops listed, OpH P B N ops i (RunAny P B N ops k Φ C z fuel (listed.setIfInBounds i true)) e h

theorem RunAny.sound {z : List Nat} : ∀ (fuel t : Nat) (listed : Array Bool) (e : Env) (h : Heap), RunAny P B N ops k Φ C z fuel listed e h → Run P B N (.inRegion ops (Region.linearise.go .any ops fuel t listed []) :: k) e h Φ := by
  intro fuel
  induction fuel with
  | zero => intro t listed e h hr; exact Run.region_end hr.2.2
  | succ fuel ih =>
    intro t listed e h hr
    obtain ⟨_, h0, h1⟩ := hr
    simp only [Region.linearise.go]
    change Run P B N (.inRegion ops (match (Region.ready .any ops listed)[t % (Region.ready .any ops listed).length]? with
      | some i => Region.linearise.go .any ops fuel (t / (Region.ready .any ops listed).length) (listed.setIfInBounds i true) [i]
      | none => [].reverse) :: k) e h Φ
    cases hi : (Region.ready .any ops listed)[t % (Region.ready .any ops listed).length]? with
    | none =>
      have hnil : Region.ready .any ops listed = [] := by
        cases hr : Region.ready .any ops listed with
        | nil => rfl
        | cons x xs =>
          rw [hr] at hi
          have hlt : t % (x :: xs).length < (x :: xs).length := Nat.mod_lt _ (by simp)
          simp at hi
          simp at hlt
          omega
      exact Run.region_end (h0 hnil)
    | some i =>
      simp only []
      rw [linearise_go_acc, List.reverse_singleton, List.singleton_append]
      have h2 := h1 i (List.mem_of_getElem? hi)
      unfold OpH at h2
      split at h2
      · exact h2.elim
      · rename_i o ho
        obtain ⟨a1, a2, a3⟩ := h2
        refine Run.op ho a1 a2 (a3.imp (fun hx => ⟨hx.1, semH_mono (fun nx h' ha => ha.mono (fun v h'' hk => ih _ _ _ _ hk)) hx.2⟩) (fun hx => ⟨hx.1, ih _ _ _ _ hx.2⟩))

/-- In every heap of the class the operation leaves 'v' in its temporary, and the heap as it is. -/
def QuietAt (P : Program) (B : RO) (o : Oper) (e : Env) (h : Heap) (v : Value) : Prop := semH P B (execOp (evalE e) o) h (fun nx h' => After P B nx h' (fun v' h'' => v' = v ∧ h'' = h))
def YieldsC (P : Program) (B : RO) (N : Nat) (ops : Array Oper) (C : Heap → Prop) (o : Oper) (v : Value) (e : Env) : Prop :=
  dstOK N o = true ∧ noDefer o = true ∧ ((Region.wanted o (yieldE ops e) = true ∧ ∀ h, C h → QuietAt P B o e h v) ∨ (Region.wanted o (yieldE ops e) = false ∧ v = undef))

theorem YieldsC.op {i : Nat} {o : Oper} {v : Value} {e : Env} {h : Heap} (hi : ops[i]? = some o) (hy : YieldsC P B N ops C o v e) (hC : C h) {K : Env → Heap → Prop} (hk : K (updO e o.dst v) h) : OpH P B N ops i K e h := by
  unfold OpH
  simp only [hi]
  obtain ⟨h1, h2, h3⟩ := hy
  refine ⟨h1, h2, ?_⟩
  rcases h3 with ⟨hw, hv⟩ | ⟨hw, rfl⟩
  · exact .inl ⟨hw, semH_mono (fun nx h' ha => ha.mono (fun v' h'' hv' => by obtain ⟨rfl, rfl⟩ := hv'; exact hk)) (hv h hC)⟩
  · exact .inr ⟨hw, hk⟩

theorem OpH.put {j : Nat} {oi oj : Oper} {v : Value} (hj : ops[j]? = some oj) (hap : oi.apart ops oj = true) (hsi : ∀ cs b, oi.op ≠ .select cs b) (hsj : ∀ cs b, oj.op ≠ .select cs b) {K : Env → Heap → Prop} {e : Env} {h : Heap}
    (hy : YieldsC P B N ops C oi v e) (hh : OpH P B N ops j K (updO e oi.dst v) h) : OpH P B N ops j (fun e' h' => YieldsC P B N ops C oi v e' ∧ K (updO e' oi.dst v) h') e h := by
  obtain ⟨h1, h2, h3⟩ := Oper.apart_spec hap
  have keep : ∀ (e : Env), YieldsC P B N ops C oi v e → ∀ u, YieldsC P B N ops C oi v (updO e oj.dst u) := fun e hy u => by
    unfold YieldsC QuietAt at *
    rwa [execOp_putE oi hsi e oj.dst u h3, wanted_putE oi e oj.dst u h3]
  unfold OpH at *
  simp only [hj] at *
  rw [wanted_putE oj e oi.dst v h1, execOp_putE oj hsj e oi.dst v h1] at hh
  obtain ⟨a1, a2, a3⟩ := hh
  refine ⟨a1, a2, a3.imp (fun hx => ⟨hx.1, semH_mono (fun nx h' ha => ha.mono (fun u h'' hk => ⟨keep e hy u, by rw [← updO_comm e v u h2]; exact hk⟩)) hx.2⟩) (fun hx => ⟨hx.1, keep e hy _, by rw [← updO_comm e v undef h2]; exact hx.2⟩)⟩

/-- Operation z comes behind operation i: at once, or by way of others. -/
def waits (ops : Array Oper) : Nat → Nat → Nat → Bool
  | 0, _, _ => false
  | n + 1, z, i => match ops[z]? with
    | none => false
    | some o => (o.after.any fun e => Region.binds .any e && e.on == i) || (o.after.any fun e => Region.binds .any e && waits ops n e.on i)
/-- The late operations wait for operation i. -/
def lastWaits (ops : Array Oper) (z : List Nat) (i : Nat) : Bool := z.all fun z => z != i && waits ops ops.size z i
/-- What is listed has all listed that it waits for. -/
def ClosedL (ops : Array Oper) (listed : Array Bool) : Prop := ∀ m om, ops[m]? = some om → listed.getD m true = true → ∀ e ∈ om.after, Region.binds .any e = true → listed.getD e.on true = true
theorem getD_set_true {listed : Array Bool} {j k : Nat} (h : listed.getD k true = true) : (listed.setIfInBounds j true).getD k true = true := by
  by_cases hjk : j = k
  · subst hjk
    rcases Nat.lt_or_ge j listed.size with h' | h'
    · simp [Array.getD, h']
    · simp [Array.getD, Nat.not_lt.2 h']
  · rw [getD_set_ne true hjk]; exact h
theorem ClosedL.set {listed : Array Bool} {j : Nat} (hc : ClosedL ops listed) (hj : j ∈ Region.ready .any ops listed) : ClosedL ops (listed.setIfInBounds j true) := by
  obtain ⟨_, oj, hoj, hall⟩ := mem_ready.1 hj
  have up : ∀ k, listed.getD k true = true ∨ (∃ b, listed[k]? = some b ∧ b = true) → listed.getD k true = true := fun k hk => by
    rcases hk with h | ⟨b, h1, rfl⟩
    · exact h
    · simp [Array.getD_eq_getD_getElem?, h1]
  intro m om hm hl e he hb
  refine getD_set_true ?_
  by_cases hjm : j = m
  · subst hjm
    rw [hoj] at hm; cases hm
    have := hall e he hb
    simp only [Array.getD_eq_getD_getElem?] at this ⊢
    cases hx : listed[e.on]? with
    | none => rfl
    | some b => rw [hx] at this; simpa using this
  · rw [getD_set_ne true hjm] at hl
    exact hc m om hm hl e he hb
theorem waits_listed {listed : Array Bool} (hc : ClosedL ops listed) {i : Nat} : ∀ (n z : Nat) (oz : Oper), ops[z]? = some oz → waits ops n z i = true → (∀ e ∈ oz.after, Region.binds .any e = true → listed.getD e.on true = true) → listed.getD i true = true
  | 0, _, _, _, hw, _ => by cases hw
  | n + 1, z, oz, hz, hw, hall => by
    simp only [waits, hz, Bool.or_eq_true, Array.any_eq_true', Bool.and_eq_true, beq_iff_eq] at hw
    rcases hw with ⟨e, he, hb, rfl⟩ | ⟨e, he, hb, hr⟩
    · exact hall e he hb
    · have hl := hall e he hb
      cases ho : ops[e.on]? with
      | none => cases n <;> simp [waits, ho] at hr
      | some om => exact waits_listed hc n e.on om ho hr (fun e' he' hb' => hc _ om ho hl e' he' hb')

theorem needC_set {z : List Nat} {listed : Array Bool} {j : Nat} (hn : needC z listed = true) (hj : ∀ z' ∈ z, z' ≠ j) : needC z (listed.setIfInBounds j true) = true := by
  unfold needC at *
  rw [List.all_eq_true] at *
  intro z' hz'
  rw [getD_set_ne true (fun e => hj z' hz' e.symm)]
  exact hn z' hz'

theorem RunAny.first {z : List Nat} {i : Nat} {oi : Oper} {v : Value} (hi : ops[i]? = some oi) (hsel : ∀ (j : Nat) (o : Oper) cs b, ops[j]? = some o → o.op ≠ .select cs b) (hz : lastWaits ops z i = true) :
    ∀ (fuel : Nat) (listed : Array Bool) (e : Env) (h : Heap),
      ClosedL ops listed → (∀ j oj, ops[j]? = some oj → j ≠ i → listed.getD j true = false → (∀ e ∈ oj.after, Region.binds .any e = true → e.on ≠ i) → oi.apart ops oj = true) →
      i ∈ Region.ready .any ops listed → YieldsC P B N ops C oi v e → C h → needC z listed = true →
      RunAny P B N ops k Φ C z fuel (listed.setIfInBounds i true) (updO e oi.dst v) h → RunAny P B N ops k Φ C z (fuel + 1) listed e h := by
  intro fuel
  induction fuel with
  | zero =>
    intro listed e h _ _ hr hy hC hn H
    refine ⟨fun _ => hC, fun h0 => (by rw [h0] at hr; cases hr), fun j hj => ?_⟩
    by_cases hji : j = i
    · subst hji; exact hy.op hi hC H
    · have := ready_mono hj hji
      rw [H.2.1] at this
      cases this
  | succ fuel ih =>
    intro listed e h hcl hfree hr hy hC hn H
    refine ⟨fun _ => hC, fun h0 => (by rw [h0] at hr; cases hr), fun j hj => ?_⟩
    by_cases hji : j = i
    · subst hji; exact hy.op hi hC H
    · have h1 := H.2.2 j (ready_mono hj hji)
      obtain ⟨hjun, oj, hoj, hall⟩ := mem_ready.1 hj
      have hnot : ∀ e ∈ oj.after, Region.binds .any e = true → e.on ≠ i := fun e he hb heq => by
        have h1 := hall e he hb
        have h0 := (mem_ready.1 hr).1
        rw [heq] at h1
        rcases Nat.lt_or_ge i listed.size with h' | h'
        · simp [h'] at h0 h1; rw [h0] at h1; cases h1
        · simp [Array.getElem?_eq_none h'] at h1
      have hz' := List.all_eq_true.1 hz
      have hzi : ∀ z' ∈ z, z' ≠ i := fun z' hm => by
        have := hz' z' hm
        simp only [Bool.and_eq_true, bne_iff_ne] at this
        exact this.1
      have hjz : ∀ z' ∈ z, z' ≠ j := by
        intro z' hm he
        subst he
        have := hz' z' hm
        simp only [Bool.and_eq_true, bne_iff_ne] at this
        have hi' := waits_listed hcl _ z' oj hoj this.2 (fun e' he' hb' => by
          have := hall e' he' hb'
          simp only [Array.getD_eq_getD_getElem?] at this ⊢
          cases hx : listed[e'.on]? with
          | none => rfl
          | some b => rw [hx] at this; simpa using this)
        have h0 := (mem_ready.1 hr).1
        rw [hi'] at h0; cases h0
      have hn' : needC z (listed.setIfInBounds j true) = true := needC_set hn hjz
      have hn'' : needC z ((listed.setIfInBounds i true).setIfInBounds j true) = true := needC_set (needC_set hn hzi) hjz
      have h2 := OpH.put hoj (hfree j oj hoj hji hjun hnot) (fun cs b => hsel i oi cs b hi) (fun cs b => hsel j oj cs b hoj) hy h1
      have hfree' : ∀ k ok, ops[k]? = some ok → k ≠ i → (listed.setIfInBounds j true).getD k true = false → (∀ e ∈ ok.after, Region.binds .any e = true → e.on ≠ i) → oi.apart ops ok = true := fun k ok hk hki hun hno => by
        refine hfree k ok hk hki ?_ hno
        by_cases hjk : j = k
        · subst hjk; exact hjun
        · rw [getD_set_ne true hjk] at hun; exact hun
      refine h2.mono (fun e' h' h3 => ?_)
      have hC' : C h' := by
        have := h3.2
        cases fuel with
        | zero => exact this.1 hn''
        | succ fuel => exact this.1 hn''
      refine ih (listed.setIfInBounds j true) e' h' (hcl.set hj) hfree' (ready_mono hr (Ne.symm hji)) h3.1 hC' hn' ?_
      rw [Array.setIfInBounds_comm _ _ hji]
      exact h3.2

inductive Stp where
  | q (i : Nat)
  | x (i : Nat)

/-- The logical order: quiet operations as early as they may; the others where nothing else may come up. -/
def okOrder (ops : Array Oper) (z : List Nat) : List Stp → Array Bool → Bool
  | [], listed => (Region.ready .any ops listed).isEmpty
  | .q i :: l, listed => (Region.ready .any ops listed).contains i && Region.free .any ops listed i && lastWaits ops z i && needC z listed && okOrder ops z l (listed.setIfInBounds i true)
  | .x i :: l, listed => (Region.ready .any ops listed == [i]) && okOrder ops z l (listed.setIfInBounds i true)

def RunO (P : Program) (B : RO) (N : Nat) (ops : Array Oper) (k : List Item) (Φ : Lv → Env → Heap → Prop) (C : Heap → Prop) (z : List Nat) : List Stp → Env → Heap → Prop
  | [], e, h => Run P B N k e h Φ
  | .q i :: l, e, h => ∃ o v, ops[i]? = some o ∧ YieldsC P B N ops C o v e ∧ RunO P B N ops k Φ C z l (updO e o.dst v) h
  | .x i :: l, e, h => OpH P B N ops i (fun e' h' => (z.contains i = false → C h') ∧ RunO P B N ops k Φ C z l e' h') e h

theorem RunO.any {z : List Nat} (hs : Region.noSelect ops = true) : ∀ (l : List Stp) (listed : Array Bool) (e : Env) (h : Heap), ClosedL ops listed → okOrder ops z l listed = true → (needC z listed = true → C h) → RunO P B N ops k Φ C z l e h → RunAny P B N ops k Φ C z l.length listed e h := by
  intro l
  induction l with
  | nil =>
    intro listed e h _ hok hC hr
    exact ⟨hC, by simpa [okOrder] using hok, hr⟩
  | cons s l ih =>
    intro listed e h hcl hok hC hr
    cases s with
    | q i =>
      simp only [okOrder, Bool.and_eq_true] at hok
      obtain ⟨⟨⟨⟨h1, h2⟩, h3⟩, h4⟩, h5⟩ := hok
      obtain ⟨o, v, ho, hy, hr⟩ := hr
      refine RunAny.first ho (Region.noSelect_spec hs) h3 l.length listed e h hcl (Region.free_spec ho h2) (by simpa using h1) hy (hC h4) h4 (ih _ _ _ (hcl.set (by simpa using h1)) h5 (fun _ => hC h4) hr)
    | x i =>
      simp only [okOrder, Bool.and_eq_true, beq_iff_eq] at hok
      obtain ⟨h1, h5⟩ := hok
      refine ⟨hC, fun h0 => (by rw [h0] at h1; cases h1), fun j hj => ?_⟩
      rw [h1] at hj
      obtain rfl : j = i := by simpa using hj
      refine OpH.mono (fun e' h' h3 => ih _ _ _ (hcl.set (by rw [h1]; simp)) h5 (fun hn => h3.1 ?_) h3.2) hr
      have hj' : j ∈ Region.ready .any ops listed := by rw [h1]; simp
      have hlt : j < listed.size := by
        have hun := (mem_ready.1 hj').1
        rcases Nat.lt_or_ge j listed.size with h' | h'
        · exact h'
        · simp [Array.getD, Nat.not_lt.2 h'] at hun
      cases hc : z.contains j with
      | false => rfl
      | true =>
        have hm : j ∈ z := by simpa using hc
        have := List.all_eq_true.1 hn j hm
        simp [Array.getD, hlt] at this

theorem Run.draw {id : Nat} {l : List Oper} {e : Env} {h : Heap} (C : Heap → Prop) (z : List Nat) (ord : List Stp) (hm : P.follows .mixedOrders = true) (hs : (Region.noSelect l.toArray && (ord.length == l.length) && okOrder l.toArray z ord (Array.replicate l.length false)) = true)
    (hC : C h) (hr : RunO P B N l.toArray k Φ C z ord e h) : Run P B N (.code (.region id l.toArray true) :: k) e h Φ := by
  simp only [Bool.and_eq_true, beq_iff_eq] at hs
  refine Run.region_draw fun t => ?_
  simp only [Region.schedule, hm, Bool.true_or, if_true, Region.linearise]
  have := RunO.any hs.1.1 ord _ e h (fun m om hm hl => by
    have hlt := (Array.getElem?_eq_some_iff.1 hm).1
    simp only [List.size_toArray] at hlt
    simp [Array.getD, hlt] at hl) hs.2 (fun _ => hC) hr
  rw [hs.1.2] at this
  simpa using RunAny.sound l.length t _ e h this
theorem OpH.go {i : Nat} {o : Oper} {K : Env → Heap → Prop} {e : Env} {h : Heap} (ho : ops[i]? = some o) (hd : (dstOK N o && noDefer o) = true) (hw : Region.wanted o (yieldE ops e) = true) (hs : semH P B (execOp (evalE e) o) h (fun nx h' => After P B nx h' (fun v h'' => K (updO e o.dst v) h''))) : OpH P B N ops i K e h := by
  simp only [Bool.and_eq_true] at hd
  unfold OpH
  simp only [ho]
  exact ⟨hd.1, hd.2, .inl ⟨hw, hs⟩⟩
theorem OpH.no {i : Nat} {o : Oper} {K : Env → Heap → Prop} {e : Env} {h : Heap} (ho : ops[i]? = some o) (hd : (dstOK N o && noDefer o) = true) (hw : Region.wanted o (yieldE ops e) = false) (hs : K (updO e o.dst undef) h) : OpH P B N ops i K e h := by
  simp only [Bool.and_eq_true] at hd
  unfold OpH
  simp only [ho]
  exact ⟨hd.1, hd.2, .inr ⟨hw, hs⟩⟩
theorem RunO.quiet {z : List Nat} {i : Nat} {l : List Stp} {o : Oper} {v : Value} {e : Env} {h : Heap} (ho : ops[i]? = some o) (hd : (dstOK N o && noDefer o) = true) (hw : Region.wanted o (yieldE ops e) = true) (hq : ∀ h', C h' → QuietAt P B o e h' v) (hr : RunO P B N ops k Φ C z l (updO e o.dst v) h) : RunO P B N ops k Φ C z (.q i :: l) e h := by
  simp only [Bool.and_eq_true] at hd
  exact ⟨o, v, ho, ⟨hd.1, hd.2, .inl ⟨hw, hq⟩⟩, hr⟩
theorem RunO.skip {z : List Nat} {i : Nat} {l : List Stp} {o : Oper} {e : Env} {h : Heap} (ho : ops[i]? = some o) (hd : (dstOK N o && noDefer o) = true) (hw : Region.wanted o (yieldE ops e) = false) (hr : RunO P B N ops k Φ C z l (updO e o.dst undef) h) : RunO P B N ops k Φ C z (.q i :: l) e h := by
  simp only [Bool.and_eq_true] at hd
  exact ⟨o, undef, ho, ⟨hd.1, hd.2, .inr ⟨hw, rfl⟩⟩, hr⟩
theorem quiet_eq {o : Oper} {e : Env} {h : Heap} {v : Value} (hq : QuietAt P B o e h v) : ∀ h', h' = h → QuietAt P B o e h' v := fun _ e => e ▸ hq
end
end Go.Proofs.Ythloobpjkeodgaa.H

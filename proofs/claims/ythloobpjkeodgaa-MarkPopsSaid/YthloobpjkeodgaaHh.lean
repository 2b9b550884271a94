/- The heap logic, part 8: append, copy, clear, bytes and strings, comparisons with nil, rows that own their block. No condition. -/
import Derived.Test.YthloobpjkeodgaaHg
namespace Go.Proofs.Ythloobpjkeodgaa.H
open Go
set_option linter.unusedVariables false

section
variable {P : Program} {B : RO} {h : Heap}

theorem add_at (k o i : Nat) : (⟨k, o, none⟩ : Addr).add i = ⟨k, o + i, none⟩ := by
  unfold Addr.add
  split
  · rename_i e; subst e; rfl
  · rfl

/-! ### Rows -/
/-- A slice value over the first cells of a whole block. -/
def SlRow (h : Heap) (v : Value) (e : TypeId) (sz : Nat) (xs : List Value) : Prop :=
  (v = .slice none 0 0 ∧ xs = []) ∨
  ∃ k m c nn js, v = .slice (some ⟨k, 0, none⟩) m c ∧ h k = some (.vec e (plains (xs ++ js)) nn) ∧ m * sz = xs.length ∧ m ≤ c ∧ c * sz ≤ nn

theorem CellsAt.of_vec {k o nn : Nat} {t : TypeId} {fs : List Fld} : ∀ (ys : List Value) (i : Nat), h k = some (.vec t fs nn) → (∀ j y, ys[j]? = some y → fs[o + i + j]? = some (.plain y)) → CellsAt B h ⟨k, o, none⟩ i ys := by
  intro ys
  induction ys with
  | nil => intro i _ _; trivial
  | cons y ys ih =>
    intro i hk hy
    refine ⟨?_, ih (i + 1) hk (fun j y' hj => by have := hy (j + 1) y' (by simpa using hj); rwa [show o + (i + 1) + j = o + i + (j + 1) by omega])⟩
    rw [add_at]
    have := hy 0 y (by simp)
    simp only [cellH, hk, Option.isSome_none, Bool.false_eq_true, if_false]
    rw [show o + i = o + i + 0 by omega, this]

theorem plains_get_some {xs : List Value} {i : Nat} {y : Value} (hx : xs[i]? = some y) : (plains xs)[i]? = some (.plain y) := by rw [plains_get, hx]; rfl

/-- Storing behind, and over, what is told of a block. -/
theorem StoresAt.over {k nn : Nat} {t : TypeId} : ∀ (ys : List Value) (h : Heap) (o i : Nat) (fs gs : List Value), (∀ y ∈ ys, isOne y = true) → h k = some (.vec t (plains (fs ++ gs)) nn) → fs.length = o + i → o + i + ys.length ≤ nn →
    ∃ h', StoresAt ⟨k, o, none⟩ h i ys h' ∧ (ys = [] → h' = h) ∧ (ys ≠ [] → h' = h.set k (.vec t (plains (fs ++ ys ++ gs.drop ys.length)) nn)) := by
  intro ys
  induction ys with
  | nil => intro h o i fs gs _ _ _ _; exact ⟨h, rfl, fun _ => rfl, fun e => absurd rfl e⟩
  | cons y ys ih =>
    intro h o i fs gs ho hk hl hn
    simp only [List.length_cons] at hn
    have hst : storeH h ((⟨k, o, none⟩ : Addr).add i) y = some (h.set k (.vec t (plains ((fs ++ [y]) ++ gs.drop 1)) nn)) := by
      rw [add_at]
      simp only [storeH, hk, Option.isSome_none, Bool.false_eq_true, if_false, plains_length, List.length_append]
      cases gs with
      | nil =>
        rw [if_neg (by simp; omega), if_pos (by simp; omega)]
        simp [plains]
      | cons g gs =>
        rw [if_pos (by simp; omega)]
        have : (plains (fs ++ g :: gs))[o + i]? = some (.plain g) := plains_get_some (by rw [← hl]; simp)
        rw [this]
        simp only [Option.some.injEq]
        rw [plains_set, ← hl]
        simp
    obtain ⟨h', h1, h2, h3⟩ := ih (h.set k (.vec t (plains ((fs ++ [y]) ++ gs.drop 1)) nn)) o (i + 1) (fs ++ [y]) (gs.drop 1) (fun y' hy' => ho y' (by simp [hy'])) (Heap.set_same _ _ _) (by simp; omega) (by omega)
    refine ⟨h', ⟨ho y (by simp), _, hst, h1⟩, (fun e => absurd e (by simp)), fun _ => ?_⟩
    by_cases hys : ys = []
    · subst hys
      rw [h2 rfl]
      simp
    · rw [h3 hys, Heap.set_set]
      congr 3
      simp

/-! ### append -/
/-- What append reads at its end. -/
def Src (B : RO) (h : Heap) (x : Value) (sz n : Nat) (ys : List Value) : Prop :=
  ys.length = n * sz ∧ (∀ y ∈ ys, isOne y = true) ∧
  ((∃ A c, x = .slice (some A) n c ∧ CellsAt B h A 0 ys) ∨ (∃ c, x = .slice none n c ∧ n = 0) ∨ (∃ s : ByteArray, x = .string s ∧ n = s.size ∧ ys = s.data.toList.map fun b => .int .u8 b.toNat))

def Appd (B : RO) (h : Heap) (v : Value) (e : TypeId) (sz : Nat) (xs ys : List Value) (v' : Value) (h' : Heap) : Prop :=
  (ys = [] ∧ v' = v ∧ h' = h) ∨
  ∃ k m n c nn js, n ≠ 0 ∧ v' = .slice (some ⟨k, 0, none⟩) (m + n) c ∧ h' = h.set k (.vec e (plains (xs ++ ys ++ js)) nn) ∧ m * sz = xs.length ∧ n * sz = ys.length ∧ m + n ≤ c ∧ c * sz ≤ nn ∧
    ((v = .slice (some ⟨k, 0, none⟩) m c ∧ ∃ is, h k = some (.vec e (plains (xs ++ is)) nn)) ∨ (h k = none ∧ B k = none))

theorem nextcap_le (need cap : Nat) (hc : cap < need) : Builtin.nextslicecap need cap ≤ 2 * need + 200 := by
  unfold Builtin.nextslicecap
  split
  · omega
  · split
    · omega
    · have key : ∀ r c, c ≤ 2 * need + 200 → Builtin.growBy need r c ≤ 2 * need + 200 := by
        intro r
        induction r with
        | zero => intro c hc; exact hc
        | succ r ih =>
          intro c hc
          unfold Builtin.growBy
          split
          · exact hc
          · exact ih _ (by omega)
      exact key 4 cap (by omega)

theorem semH_askRoom {n : Nat} {α : Type} {f : Unit → Sem α} {K : α → Heap → Prop} (k : semH P B (f ()) h K) : semH P B (askRoom n >>= f) h K := by
  rw [semH_bind]
  unfold askRoom
  split
  · exact k
  · exact k

theorem semH_choose {q : Question} {α : Type} {f : Nat → Sem α} {K : α → Heap → Prop} (hq : q.forced = false) (k : ∀ n, semH P B (f (q.cut n)) h K) : semH P B (choose q >>= f) h K := by
  rw [semH_bind]
  show semH P B (.choose q .pure) h _
  simp only [semH, hq, Bool.false_eq_true, if_false]
  exact k

theorem semH_firstCells {x : Value} {sz n : Nat} {ys : List Value} (hs : Src B h x sz n ys) {α : Type} {f : Array Value → Sem α} {K : α → Heap → Prop} (k : semH P B (f ys.toArray) h K) : semH P B (Builtin.firstCells sz n x >>= f) h K := by
  obtain ⟨hl, _, hs⟩ := hs
  rcases hs with ⟨A, c, rfl, hc⟩ | ⟨c, rfl, rfl⟩ | ⟨s, rfl, rfl, rfl⟩
  · rw [semH_bind]
    show semH P B (loadCellsFrom A 0 (n * sz) #[]) h _
    rw [← hl]
    refine semH_loadCells ys 0 #[] hc ?_
    simpa using k
  · have : ys = [] := by simpa using hl
    subst this
    exact k
  · have e : Builtin.firstCells sz s.size (.string s) = pure ((s.data.toList.map fun b => (.int .u8 b.toNat : Value)).toArray) := by
      have : (s.extract 0 s.size) = s := ByteArray.extract_zero_size
      simp only [Builtin.firstCells, this]
      congr 1
      apply Array.toList_inj.1
      simp
    rw [e, pure_bind]
    exact k

theorem zeroCells_size (zs : Array Value) (n : Nat) : (Builtin.zeroCells zs n).size = n * zs.size := by simp [Builtin.zeroCells]

theorem semH_append {t tx ty e : TypeId} {sz bz : Nat} {v x : Value} {xs ys zs : List Value} {n : Nat} {K : Value → Heap → Prop} (ht : slcB P t = some (e, sz, bz)) (hz : zeroB P e = some zs) (hzs : zs.length = sz) (hsz : 0 < sz) (hbz : 0 < bz) (hux : (P.underlying tx).isSome = true) (hix : intB P tx = none)
    (hv : SlRow h v e sz xs) (hx : Src B h x sz n ys) (hb : (xs.length + ys.length) * bz ≤ 1099511627776) (hk : ∀ v' h', Appd B h v e sz xs ys v' h' → K v' h') : semH P B (Builtin.append_ #[t, tx] ty #[v, x]) h K := by
  have hn : Builtin.lenOf x = pure n := by
    obtain ⟨_, _, hs⟩ := hx
    rcases hs with ⟨A, c, rfl, hc⟩ | ⟨c, rfl, rfl⟩ | ⟨s, rfl, rfl, rfl⟩ <;> rfl
  unfold slcB at ht
  split at ht
  · rename_i e' hu
    cases hin : P.info? e' with
    | none => rw [hin] at ht; cases ht
    | some inf =>
      rw [hin] at ht
      simp only [Option.map_some, Option.some.injEq, Prod.mk.injEq] at ht
      obtain ⟨rfl, rfl, rfl⟩ := ht
      -- the slice's own shape
      obtain ⟨base, m, c, hvs, hm, hmc⟩ : ∃ base m c, v = .slice base m c ∧ m * inf.size = xs.length ∧ m ≤ c := by
        rcases hv with ⟨rfl, rfl⟩ | ⟨k, m, c, nn, js, rfl, _, h2, h3, _⟩
        · exact ⟨none, 0, 0, rfl, by simp, Nat.le_refl _⟩
        · exact ⟨_, m, c, rfl, h2, h3⟩
      have hyl := hx.1
      unfold Builtin.append_
      subst hvs
      simp only [List.getElem?_toArray, List.getElem?_cons_zero, List.getElem?_cons_succ]
      rw [semH_und hu]
      dsimp only
      rw [semH_sz (n := inf.size) (by simp [szB, hin])]
      obtain ⟨dx, hdx⟩ := Option.isSome_iff_exists.1 hux
      rw [semH_und hdx]
      split
      · exfalso
        simp [intB, hdx] at hix
      simp only [pure_bind, Bool.false_eq_true, if_false, hn, Bool.not_false, if_true]
      by_cases hroom : m + n ≤ c
      · rw [if_pos hroom]
        refine semH_firstCells hx ?_
        by_cases hy0 : n = 0
        · subst hy0
          have hy0' : ys = [] := by simpa using hyl
          subst hy0'
          cases base with
          | none => exact hk _ _ (.inl ⟨rfl, by simp, rfl⟩)
          | some a =>
            simp only [storeCells, pure_bind]
            exact hk _ _ (.inl ⟨rfl, by simp, rfl⟩)
        · rcases hv with ⟨h1, _⟩ | ⟨k, m', c', nn, js, h1, h2, h3, h4, h5⟩
          · cases h1
            omega
          · cases h1
            simp only
            have hcn : (m + n) * inf.size ≤ nn := Nat.le_trans (Nat.mul_le_mul_right _ hroom) h5
            rw [Nat.add_mul, hm, ← hyl] at hcn
            obtain ⟨h', s1, s2, s3⟩ := StoresAt.over ys h (m * inf.size) 0 xs js hx.2.1 h2 (by omega) (by omega)
            have hyne : ys ≠ [] := by
              intro e0
              rw [e0] at hyl
              have : 0 < n * inf.size := Nat.mul_pos (by omega) hsz
              simp at hyl
              omega
            rw [semH_bind, add_at, Nat.zero_add]
            refine semH_storeCells ys 0 s1 ?_
            exact hk _ _ (.inr ⟨k, m, n, c, nn, _, hy0, rfl, s3 hyne, hm, hyl.symm, hroom, h5, .inl ⟨rfl, js, h2⟩⟩)
      · rw [if_neg hroom]
        have hxl : m ≤ xs.length := by rw [← hm]; exact Nat.le_mul_of_pos_right _ hsz
        have hyl' : n ≤ ys.length := by rw [hyl]; exact Nat.le_mul_of_pos_right _ hsz
        have hn0 : n ≠ 0 := by omega
        have hsmall : (m + n) * inf.bytes ≤ 1099511627776 := Nat.le_trans (Nat.mul_le_mul_right _ (by omega)) hb
        have hcap : Builtin.nextslicecap (m + n) c * inf.bytes ≤ 281474976710656 := by
          have h1 := nextcap_le (m + n) c (by omega)
          have h2 : Builtin.nextslicecap (m + n) c * inf.bytes ≤ (2 * (m + n) + 200) * inf.bytes := Nat.mul_le_mul_right _ h1
          have h3 : inf.bytes ≤ (m + n) * inf.bytes := Nat.le_mul_of_pos_left _ (by omega)
          have h4 : (2 * (m + n) + 200) * inf.bytes = 2 * ((m + n) * inf.bytes) + 200 * inf.bytes := by rw [Nat.add_mul, Nat.mul_assoc]
          omega
        have hmax : ¬ (((m + n : Nat) : Int) > IntKind.i64.max ∧ (False ∨ inf.bytes = 0)) := by
          rintro ⟨h1, h2 | h2⟩
          · exact h2
          · omega
        rw [semH_info hin, if_neg (by simpa using hmax), semH_info hin, if_neg (by show ¬ (_ > 2 ^ 48); omega)]
        refine semH_choose rfl fun q => ?_
        have hcut : m + n ≤ (Question.appendCap (m + n) c e').cut q := by simp [Question.cut]
        generalize (Question.appendCap (m + n) c e').cut q = nc at hcut
        rw [semH_info hin]
        refine semH_askRoom ?_
        have hold : ∀ {α : Type} {f : Array Value → Sem α} {K : α → Heap → Prop}, semH P B (f xs.toArray) h K → semH P B (Builtin.firstCells inf.size m (.slice base m c) >>= f) h K := by
          intro α f K k
          rcases hv with ⟨h1, h2⟩ | ⟨k', m', c', nn, js, h1, h2, h3, h4, h5⟩
          · cases h1
            subst h2
            exact k
          · cases h1
            rw [semH_bind]
            show semH P B (loadCellsFrom ⟨k', 0, none⟩ 0 (m * inf.size) #[]) h _
            rw [h3]
            refine semH_loadCells xs 0 #[] (CellsAt.of_vec xs 0 h2 (fun j y hj => ?_)) ?_
            · simp only [Nat.zero_add]
              exact plains_get_some (by rw [List.getElem?_append_left (List.getElem?_eq_some_iff.1 hj).1]; exact hj)
            · simpa using k
        refine hold ?_
        refine semH_firstCells hx ?_
        refine semH_zero hz fun z hzc => ?_
        have hzc' : z.cells.size = inf.size := by rw [← hzs, ← hzc]; simp
        refine semH_newRow fun b hb1 hb2 => ?_
        have e1 : (xs.toArray ++ ys.toArray ++ Builtin.zeroCells z.cells (nc - (m + n))).toList = xs ++ ys ++ (Builtin.zeroCells z.cells (nc - (m + n))).toList := by simp
        have e2 : (xs.toArray ++ ys.toArray ++ Builtin.zeroCells z.cells (nc - (m + n))).size = xs.length + ys.length + (nc - (m + n)) * inf.size := by simp [zeroCells_size, hzc']
        have e3 : nc * inf.size ≤ xs.length + ys.length + (nc - (m + n)) * inf.size := by
          rw [← hm, hyl, ← Nat.add_mul, ← Nat.add_mul]
          exact Nat.mul_le_mul_right _ (by omega)
        rw [e1, e2]
        exact hk _ _ (.inr ⟨b, m, n, nc, xs.length + ys.length + (nc - (m + n)) * inf.size, (Builtin.zeroCells z.cells (nc - (m + n))).toList, hn0, rfl, rfl, hm, hyl.symm, hcut, e3, .inr ⟨hb1, hb2⟩⟩)
  · cases ht

/-! ### What append, and a cut, leave is a row again -/
theorem SlRow.nil (h : Heap) (e : TypeId) (sz : Nat) : SlRow h (.slice none 0 0) e sz [] := .inl ⟨rfl, rfl⟩
theorem Appd.row {v v' : Value} {e : TypeId} {sz : Nat} {xs ys : List Value} {h' : Heap} (hv : SlRow h v e sz xs) (ha : Appd B h v e sz xs ys v' h') : SlRow h' v' e sz (xs ++ ys) := by
  rcases ha with ⟨rfl, rfl, rfl⟩ | ⟨k, m, n, c, nn, js, hn, rfl, rfl, h1, h2, h3, h4, _⟩
  · simpa using hv
  · exact .inr ⟨k, m + n, c, nn, js, rfl, Heap.set_same _ _ _, by rw [Nat.add_mul, h1, h2]; simp, h3, h4⟩
/-- Blocks that append did not touch. -/
theorem Appd.get {v v' : Value} {e : TypeId} {sz : Nat} {xs ys : List Value} {h' : Heap} (ha : Appd B h v e sz xs ys v' h') {c : Nat} {o : AObj} (hc : h c = some o) (hne : ∀ k m cc, v = .slice (some ⟨k, 0, none⟩) m cc → c ≠ k) : h' c = some o := by
  rcases ha with ⟨rfl, rfl, rfl⟩ | ⟨k, m, n, c', nn, js, hn, rfl, rfl, h1, h2, h3, h4, h5⟩
  · exact hc
  · rw [Heap.set_ne, hc]
    rcases h5 with ⟨h5, _⟩ | ⟨h5, _⟩
    · exact hne _ _ _ h5
    · intro e0; rw [e0, h5] at hc; cases hc

/-! ### Operations that are told by their own precondition -/
variable {ρ : Operand → Value} {d : Option Nat} {ty : TypeId} {pos : String} {aft : Array Edge} {g : Option (Nat × Bool)} {K : Next → Heap → Prop}
theorem sem_appendW {args : Array Operand} {tys : Array TypeId} (vs : Array Value) (ha : args.map ρ = vs) (hs : semH P B (Builtin.append_ tys ty vs) h (fun v h' => K (.value v) h')) : semH P B (execOp ρ ⟨d, .call ⟨.builtin .append, args, tys⟩, ty, pos, aft, g⟩) h K := by
  rw [exec_builtin vs ha]
  exact semH_value.2 hs
theorem sem_copyW {args : Array Operand} {tys : Array TypeId} (vs : Array Value) (ha : args.map ρ = vs) (hs : semH P B (Builtin.copy_ tys ty vs) h (fun v h' => K (.value v) h')) : semH P B (execOp ρ ⟨d, .call ⟨.builtin .copy, args, tys⟩, ty, pos, aft, g⟩) h K := by
  rw [exec_builtin vs ha]
  exact semH_value.2 hs
theorem sem_clearW {args : Array Operand} {tys : Array TypeId} (vs : Array Value) (ha : args.map ρ = vs) (hs : semH P B (Builtin.clear_ tys ty vs) h (fun v h' => K (.value v) h')) : semH P B (execOp ρ ⟨d, .call ⟨.builtin .clear, args, tys⟩, ty, pos, aft, g⟩) h K := by
  rw [exec_builtin vs ha]
  exact semH_value.2 hs
theorem sem_convW {s t : TypeId} {x : Operand} (v : Value) (hx : ρ x = v) (hs : semH P B (convert s t v) h (fun v h' => K (.value v) h')) : semH P B (execOp ρ ⟨d, .convert s t x, ty, pos, aft, g⟩) h K := by
  subst hx; exact semH_value.2 hs
theorem sem_eqW {op : BinOp} {t t' : TypeId} {x y : Operand} (a b : Value) (hx : ρ x = a) (hy : ρ y = b) (hs : semH P B (do eqGuard op t x y a b; binOp op t a b) h (fun v h' => K (.value v) h')) : semH P B (execOp ρ ⟨d, .binOp op t x y t', ty, pos, aft, g⟩) h K := by
  subst hx hy; exact semH_value.2 hs
theorem sem_makeSliceW {t : TypeId} {l c : Operand} (a b : Value) (hx : ρ l = a) (hy : ρ c = b) (hs : semH P B (Instr.makeSlice t a b) h (fun v h' => K (.value v) h')) : semH P B (execOp ρ ⟨d, .makeSlice t l c, ty, pos, aft, g⟩) h K := by
  subst hx hy; exact semH_value.2 hs

/-! ### Comparisons with nil, of bools -/
theorem semH_eqPtr {n : Nat} {t e : TypeId} {p : Option Addr} {K : Bool → Heap → Prop} (hd : P.underlying t = some (.pointer e)) (k : K p.isNone h) : semH P B (Op.equalIn (n + 1) t (.pointer p) (.pointer none)) h K := by
  unfold Op.equalIn; rw [semH_und hd]; cases p <;> exact k
theorem semH_eqSl {n : Nat} {t e : TypeId} {p : Option Addr} {a c : Nat} {K : Bool → Heap → Prop} (hd : P.underlying t = some (.slice e)) (k : K p.isNone h) : semH P B (Op.equalIn (n + 1) t (.slice p a c) (.slice none 0 0)) h K := by
  unfold Op.equalIn; rw [semH_und hd]; cases p <;> exact k
theorem semH_eqBool {n : Nat} {t : TypeId} {a b : Bool} {K : Bool → Heap → Prop} (hd : P.underlying t = some .bool) (k : K (a == b) h) : semH P B (Op.equalIn (n + 1) t (.bool a) (.bool b)) h K := by
  unfold Op.equalIn; rw [semH_und hd]; exact k
theorem semH_eqW {op : BinOp} {t : TypeId} {x y : Operand} {a b : Value} {K : Value → Heap → Prop} (hop : op = .eql ∨ op = .neq) (ha : (∀ cs, a ≠ .agg cs) ∧ a ≠ .nilIface) (hk : (∀ k n, a ≠ .int k n) ∧ (∀ s, a ≠ .string s) ∧ (∀ k f, a ≠ .float k f) ∧ (∀ k f f', a ≠ .complex k f f')) {r : Bool}
    (he : semH P B (Op.equal t a b) h (fun c h' => c = r ∧ h' = h)) (k : K (.bool (if op = .eql then r else !r)) h) : semH P B (do eqGuard op t x y a b; binOp op t a b) h K := by
  refine semH_eqGuard ha ?_
  rcases hop with rfl | rfl
  · have e : binOp .eql t a b = (do pure (.bool (← Op.equal t a b))) := by
      unfold binOp
      cases a <;> first
        | exact absurd rfl (hk.1 _ _)
        | exact absurd rfl (hk.2.1 _)
        | exact absurd rfl (hk.2.2.1 _ _)
        | exact absurd rfl (hk.2.2.2 _ _ _)
        | rfl
    rw [e, semH_bind]
    refine semH_mono (fun c h' hc => ?_) he
    obtain ⟨rfl, rfl⟩ := hc
    rw [semH_pure]
    simpa using k
  · have e : binOp .neq t a b = (do pure (.bool (!(← Op.equal t a b)))) := by
      unfold binOp
      cases a <;> first
        | exact absurd rfl (hk.1 _ _)
        | exact absurd rfl (hk.2.1 _)
        | exact absurd rfl (hk.2.2.1 _ _)
        | exact absurd rfl (hk.2.2.2 _ _ _)
        | rfl
    rw [e, semH_bind]
    refine semH_mono (fun c h' hc => ?_) he
    obtain ⟨rfl, rfl⟩ := hc
    rw [semH_pure]
    simpa using k
theorem sem_ptrNil {op : BinOp} {t t' : TypeId} {x y : Operand} (p : Option Addr) (hop : op = .eql ∨ op = .neq) (hx : ρ x = .pointer p) (hy : ρ y = .pointer none) (ht : ptrB P t = true) (k : K (.value (.bool (if op = .eql then p.isNone else !p.isNone))) h) : semH P B (execOp ρ ⟨d, .binOp op t x y t', ty, pos, aft, g⟩) h K := by
  unfold ptrB at ht
  split at ht
  · rename_i e hu
    refine sem_eqW _ _ hx hy (semH_eqW hop ⟨by simp, by simp⟩ ⟨by simp, by simp, by simp, by simp⟩ (r := p.isNone) ?_ k)
    exact semH_eqPtr (n := 9999) hu ⟨rfl, rfl⟩
  · cases ht
theorem sem_slNil {op : BinOp} {t t' : TypeId} {x y : Operand} (p : Option Addr) (n c : Nat) (hop : op = .eql ∨ op = .neq) (hx : ρ x = .slice p n c) (hy : ρ y = .slice none 0 0) (ht : slT P t = true) (k : K (.value (.bool (if op = .eql then p.isNone else !p.isNone))) h) : semH P B (execOp ρ ⟨d, .binOp op t x y t', ty, pos, aft, g⟩) h K := by
  unfold slT at ht
  split at ht
  · rename_i e hu
    refine sem_eqW _ _ hx hy (semH_eqW hop ⟨by simp, by simp⟩ ⟨by simp, by simp, by simp, by simp⟩ (r := p.isNone) ?_ k)
    exact semH_eqSl (n := 9999) hu ⟨rfl, rfl⟩
  · cases ht
theorem sem_boolEq {op : BinOp} {t t' : TypeId} {x y : Operand} (a b : Bool) (hop : op = .eql ∨ op = .neq) (hx : ρ x = .bool a) (hy : ρ y = .bool b) (ht : boolT P t = true) (k : K (.value (.bool (if op = .eql then a == b else !(a == b)))) h) : semH P B (execOp ρ ⟨d, .binOp op t x y t', ty, pos, aft, g⟩) h K := by
  unfold boolT at ht
  split at ht
  · rename_i hu
    refine sem_eqW _ _ hx hy (semH_eqW hop ⟨by simp, by simp⟩ ⟨by simp, by simp, by simp, by simp⟩ (r := a == b) ?_ k)
    exact semH_eqBool (n := 9999) hu ⟨rfl, rfl⟩
  · cases ht

/-! ### A field's slice, closed behind what was done with it -/
/-- All that h0 tells, but for block b, h tells too. -/
def Sub (h0 : Heap) (b : Nat) (h : Heap) : Prop := ∀ c o, c ≠ b → h0 c = some o → h c = some o
theorem Ent.close_row {h0 h : Heap} {b n i : Nat} {t e : TypeId} {sz : Nat} {fs : List Fld} {v : Value} {xs : List Value} (hsub : Sub h0 b h) (hb : h b = some (.vec t fs n)) (hi : fs[i]? = some (.plain v)) (hv : SlRow h v e sz xs)
    (hn : ∀ k m c, v = .slice (some ⟨k, 0, none⟩) m c → h0 k = none ∧ k ≠ b) : Ent B h (h0.set b (.vec t (fs.set i (.own e sz xs)) n)) := by
  rcases hv with ⟨rfl, rfl⟩ | ⟨k, m, c, nn, js, rfl, h2, h3, h4, h5⟩
  · refine (Ent.close_nil (e := e) (sz := sz) hb hi).trans (Ent.forget fun c o hc => ?_)
    by_cases hcb : c = b
    · subst hcb; rw [Heap.set_same] at hc ⊢; exact hc
    · rw [Heap.set_ne _ _ _ _ hcb] at hc ⊢; exact hsub c o hcb hc
  · obtain ⟨n1, n2⟩ := hn k m c rfl
    have htr : Ent B h (h.set k (.vec e (plains xs) nn)) := by
      refine ⟨fun c' e' => by rw [Heap.set_ne _ _ _ _ (fun x => by rw [x, h2] at e'; cases e')]; exact e', ?_⟩
      rintro F w ⟨own, R⟩
      obtain ⟨ho, hle, hvec⟩ := R.obj _ _ h2
      refine ⟨own, R.change (by simp [h2]) rfl rfl rfl (Nat.le_refl _) (fun _ _ _ => rfl) ⟨?_, hvec.imp rfl ?_⟩⟩
      · simp [plains] at hle ⊢; omega
      · intro j u hu f hf
        refine hu f ?_
        simp only [plains, List.getElem?_map] at hf ⊢
        cases hx : xs[j]? with
        | none => rw [hx] at hf; cases hf
        | some x =>
          rw [hx] at hf
          rw [List.getElem?_append_left (List.getElem?_eq_some_iff.1 hx).1, hx]
          exact hf
    have hb' : (h.set k (.vec e (plains xs) nn)) b = some (.vec t fs n) := by rw [Heap.set_ne _ _ _ _ (Ne.symm n2)]; exact hb
    refine htr.trans ((Ent.close (B := B) (e := e) (sz := sz) (xs := xs) hb' hi (Heap.set_same _ _ _) n2 h3 h4 h5).trans (Ent.forget fun c' o hc => ?_))
    by_cases hcb : c' = b
    · subst hcb; rw [Heap.set_same] at hc ⊢; exact hc
    · rw [Heap.set_ne _ _ _ _ hcb] at hc ⊢
      have hck : c' ≠ k := fun e0 => by rw [e0, n1] at hc; cases hc
      rw [Heap.del_ne _ _ _ hck, Heap.set_ne _ _ _ _ hck]
      exact hsub c' o hcb hc
end
end Go.Proofs.Ythloobpjkeodgaa.H

/- The heap logic, part 22: noughts behind a row, copies, overlaps; what slices.Insert does. No condition. -/
import Derived.Test.YthloobpjkeodgaaHu
import Derived.Test.YthloobpjkeodgaaMa
namespace Go.Proofs.Ythloobpjkeodgaa.H
open Go
set_option linter.unusedVariables false
set_option maxRecDepth 100000

section
variable {P : Program} {B : RO} {h0 h h' : Heap} {L : List (Option (Nat × AObj))} {r : Option (Nat × AObj)} {e : TypeId} {sz : Nat} {xs : List Value} {α : Type} {cells : α → List Value} {l : List α} {a : Option Addr} {m c : Nat}
/-- Noughts behind a row that has no room for them: a new block. -/
theorem semH_appendZ {t tx ty : TypeId} {bz : Nat} {zs : List Value} {n : Nat} {ki : IntKind} {K : Value → Heap → Prop} (ht : slcB P t = some (e, sz, bz)) (hz : zeroB P e = some zs) (hzs : zs.length = sz) (hsz : 0 < sz) (hbz : 0 < bz) (hix : intB P tx = some ki)
    (hv : SlRow h (.slice a m c) e sz xs) (hgrow : c < m + n) (h0 : 0 < n) (hb : (m + n) * bz ≤ 1099511627776)
    (hk : ∀ b nc nn ys js, h b = none → B b = none → ys.length = n * sz → m + n ≤ nc → nc * sz ≤ nn → K (.slice (some ⟨b, 0, none⟩) (m + n) nc) (h.set b (.vec e (plains (xs ++ ys ++ js)) nn))) : semH P B (Builtin.append_ #[t, tx] ty #[.slice a m c, .int .i64 (n : Nat)]) h K := by
  have hn1 : n * bz ≤ 1099511627776 := Nat.le_trans (Nat.mul_le_mul_right _ (by omega)) hb
  have hn2 : n ≤ 1099511627776 := Nat.le_trans (Nat.le_mul_of_pos_right _ hbz) hn1
  have hmn : m + n ≤ 1099511627776 := Nat.le_trans (Nat.le_mul_of_pos_right _ hbz) hb
  unfold slcB at ht
  split at ht
  · rename_i e' hu
    cases hin : P.info? e' with
    | none => rw [hin] at ht; cases ht
    | some inf =>
      rw [hin] at ht
      simp only [Option.map_some, Option.some.injEq, Prod.mk.injEq] at ht
      obtain ⟨rfl, rfl, rfl⟩ := ht
      unfold Builtin.append_
      simp only [List.getElem?_toArray, List.getElem?_cons_zero, List.getElem?_cons_succ]
      rw [semH_und hu]
      dsimp only
      rw [semH_sz (n := inf.size) (by simp [szB, hin])]
      have htx : ∃ k', P.underlying tx = some (.int k') := by
        unfold intB at hix
        split at hix
        · rename_i k' hk'; exact ⟨k', hk'⟩
        · cases hix
      obtain ⟨k', hk'⟩ := htx
      rw [semH_und hk']
      have hw : IntKind.i64.wrap (n : Int) = n := IntWalk.i64_in n ⟨by omega, by omega⟩
      have hsmall : (n : Int) * (inf.bytes : Int) ≤ 1099511627776 := by
        have : ((n * inf.bytes : Nat) : Int) ≤ 1099511627776 := Int.ofNat_le.2 hn1
        rw [Int.natCast_mul] at this
        exact this
      simp only [pure_bind, if_true, asInt, asIntOf, hw]
      rw [if_neg (by omega), semH_info hin, if_neg (by show ¬ (_ > (2 : Int) ^ 48); omega)]
      simp only [Bool.not_true, Bool.false_eq_true, if_false, Int.toNat_natCast]
      rw [if_neg (by omega), semH_info hin]
      have hcap : Builtin.nextslicecap (m + n) c * inf.bytes ≤ 281474976710656 := by
        have h1 := nextcap_le (m + n) c (by omega)
        have h2 : Builtin.nextslicecap (m + n) c * inf.bytes ≤ (2 * (m + n) + 200) * inf.bytes := Nat.mul_le_mul_right _ h1
        have h3 : inf.bytes ≤ (m + n) * inf.bytes := Nat.le_mul_of_pos_left _ (by omega)
        have h4 : (2 * (m + n) + 200) * inf.bytes = 2 * ((m + n) * inf.bytes) + 200 * inf.bytes := by rw [Nat.add_mul, Nat.mul_assoc]
        omega
      have hmx : IntKind.i64.max = 9223372036854775807 := by decide
      rw [if_neg (by rw [hmx]; omega), semH_info hin, if_neg (by show ¬ (_ > 2 ^ 48); omega)]
      refine semH_choose rfl fun q => ?_
      have hcut : m + n ≤ (Question.appendCap (m + n) c e').cut q := by simp [Question.cut]
      generalize (Question.appendCap (m + n) c e').cut q = nc at hcut
      rw [semH_info hin]
      refine semH_askRoom ?_
      have hold : ∀ {α : Type} {f : Array Value → Sem α} {K : α → Heap → Prop}, semH P B (f xs.toArray) h K → semH P B (Builtin.firstCells inf.size m (.slice a m c) >>= f) h K := by
        intro α f K k
        rcases hv with ⟨h1, h2⟩ | ⟨k', m', c', nn, js, h1, h2, h3, h4, h5⟩
        · cases h1
          subst h2
          exact k
        · cases h1
          rw [semH_bind]
          show semH P B (loadCellsFrom ⟨k', 0, none⟩ 0 (m * inf.size) #[]) h _
          rw [h3]
          refine semH_loadCells xs 0 #[] (CellsAt.of_vec xs 0 h2 (fun j y hj => ?_)) ?_
          · simp only [Nat.zero_add]
            exact plains_get_some (by rw [List.getElem?_append_left (List.getElem?_eq_some_iff.1 hj).1]; exact hj)
          · simpa using k
      refine hold ?_
      have hns : ¬ (n * inf.size = 0) := by
        intro hh
        rcases Nat.mul_eq_zero.1 hh with h | h <;> omega
      rw [if_neg hns, bind_assoc]
      refine semH_zero hz fun z hzc => ?_
      have hzc' : z.cells.size = inf.size := by rw [← hzs, ← hzc]; simp
      simp only [pure_bind]
      refine semH_zero hz fun z' hzc2 => ?_
      have hzc2' : z'.cells.size = inf.size := by rw [← hzs, ← hzc2]; simp
      have hxl : xs.length = m * inf.size := by
        rcases hv with ⟨h1, h2⟩ | ⟨k', m', c', nn, js, h1, h2, h3, h4, h5⟩
        · cases h1; subst h2; simp
        · cases h1; exact h3.symm
      refine semH_newRow fun b hb1 hb2 => ?_
      have e1 : (xs.toArray ++ Builtin.zeroCells z.cells n ++ Builtin.zeroCells z'.cells (nc - (m + n))).toList = xs ++ (Builtin.zeroCells z.cells n).toList ++ (Builtin.zeroCells z'.cells (nc - (m + n))).toList := by simp
      have e2 : (xs.toArray ++ Builtin.zeroCells z.cells n ++ Builtin.zeroCells z'.cells (nc - (m + n))).size = m * inf.size + n * inf.size + (nc - (m + n)) * inf.size := by simp [zeroCells_size, hzc', hzc2', hxl, Nat.add_assoc]
      have e3 : nc * inf.size ≤ m * inf.size + n * inf.size + (nc - (m + n)) * inf.size := by
        rw [← Nat.add_mul, ← Nat.add_mul]
        exact Nat.mul_le_mul_right _ (by omega)
      have hyl : (Builtin.zeroCells z.cells n).toList.length = n * inf.size := by simp [zeroCells_size, hzc']
      rw [e1, e2]
      exact hk _ _ _ _ _ hb1 hb2 hyl hcut e3
  · cases ht
/-- Cells copied, out of a slice into one. -/
theorem semH_copySl {t tx ty : TypeId} {bz nS cS dLen cD : Nat} {A D : Addr} {ys : List Value} {K : Value → Heap → Prop} (ht : slcB P t = some (e, sz, bz)) (hc : CellsAt B h A 0 ys) (hl : ys.length = min nS dLen * sz) (st : StoresAt D h 0 ys h') (hk : K (.int .i64 ((min nS dLen : Nat) : Int)) h') :
    semH P B (Builtin.copy_ #[t, tx] ty #[.slice (some D) dLen cD, .slice (some A) nS cS]) h K := by
  unfold slcB at ht
  split at ht
  · rename_i e' hu
    cases hin : P.info? e' with
    | none => rw [hin] at ht; cases ht
    | some inf =>
      rw [hin] at ht
      simp only [Option.map_some, Option.some.injEq, Prod.mk.injEq] at ht
      obtain ⟨rfl, rfl, rfl⟩ := ht
      unfold Builtin.copy_
      simp only [List.getElem?_toArray, List.getElem?_cons_zero, List.getElem?_cons_succ]
      rw [semH_und hu]
      dsimp only
      have hlen : Builtin.lenOf (.slice (some A) nS cS) = pure nS := rfl
      rw [hlen, pure_bind, semH_sz (n := inf.size) (by simp [szB, hin])]
      rw [semH_bind]
      show semH P B (loadCellsFrom A 0 (min nS dLen * inf.size) #[]) h _
      rw [← hl]
      refine semH_loadCells ys 0 #[] hc ?_
      simp only [Array.empty_append]
      rw [semH_bind]
      exact semH_storeCells ys 0 st hk
  · cases ht
/-- Slices in two blocks, neither of bytes, have nothing in common. -/
theorem semH_overlaps {t tb : TypeId} {bz la ca lb cb ka kb oa ob na nb : Nat} {fa fb : List Fld} {ea eb : TypeId} {K : Value → Heap → Prop} (ht : slcB P t = some (e, sz, bz)) (ha : h ka = some (.vec ea fa na)) (hb : h kb = some (.vec eb fb nb)) (hne : ka ≠ kb) (h5 : ea ≠ 5 ∧ eb ≠ 5) (hn : na ≠ 0 ∧ nb ≠ 0) (hk : K (.bool false) h) :
    semH P B (Extern.SlicesOverlaps.overlaps #[t, t] #[tb] #[.slice (some ⟨ka, oa, none⟩) la ca, .slice (some ⟨kb, ob, none⟩) lb cb]) h K := by
  unfold slcB at ht
  split at ht
  · rename_i e' hu
    cases hin : P.info? e' with
    | none => rw [hin] at ht; cases ht
    | some inf =>
      rw [hin] at ht
      simp only [Option.map_some, Option.some.injEq, Prod.mk.injEq] at ht
      obtain ⟨rfl, rfl, rfl⟩ := ht
      have fz : ∀ (o : Nat), frozenH B h ⟨ka, o, none⟩ = some false := fun o => by
        unfold frozenH; simp [ha, h5.1]
      have fz2 : ∀ (o : Nat), frozenH B h ⟨kb, o, none⟩ = some false := fun o => by
        unfold frozenH; simp [hb, h5.2]
      have sh : shapeH B h ka = some (some (ea, na)) := by unfold shapeH; simp [ha]
      have sh2 : shapeH B h kb = some (some (eb, nb)) := by unfold shapeH; simp [hb]
      have hbn : (ka != kb) = true := by simpa using hne
      have hbn' : (ka == kb) = false := by simpa using hne
      show semH P B (α := Value) (do
        let .slice elem ← underlying t | stuck "slices.overlaps: slice type expected"
        let size ← sizeOf elem
        if la = 0 ∨ lb = 0 ∨ size = 0 then pure (Value.bool false)
        else if ka != kb && (← frozen ⟨ka, oa, none⟩) && (← frozen ⟨kb, ob, none⟩) then unsupported .addressObserved
        else do
          if ka != kb then do
            noView ⟨ka, oa, none⟩; noView ⟨kb, ob, none⟩
            if ← mayBeOne ⟨ka, oa, none⟩ ⟨kb, ob, none⟩ then return Value.bool ((← choose (.extern "sameAddr.stringBytes" 2)) == 1)
          pure (Value.bool (ka == kb && oa < ob + lb * size && ob < oa + la * size))) h K
      rw [semH_und hu]
      dsimp only
      rw [semH_sz (n := inf.size) (by simp [szB, hin])]
      split
      · exact hk
      · have frz : ∀ {α : Type} {A : Addr} {f : Bool → Sem α} {K : α → Heap → Prop}, frozenH B h A = some false → semH P B (f false) h K → semH P B (frozen A >>= f) h K := fun {α A f K} e k => by
          rw [semH_bind]
          show semH P B (.frozen A .pure) h _
          intro b hb
          rw [hb false e]; exact k
        have shp : ∀ {α : Type} {q : Nat} {s : Option (TypeId × Nat)} {f : Option (TypeId × Nat) → Sem α} {K : α → Heap → Prop}, shapeH B h q = some s → semH P B (f s) h K → semH P B (shape q >>= f) h K := fun {α q s f K} e k => by
          rw [semH_bind]
          exact ⟨s, e, k⟩
        have nv : ∀ {α : Type} {q o : Nat} {s : TypeId × Nat} {f : Unit → Sem α} {K : α → Heap → Prop}, shapeH B h q = some (some s) → semH P B (f ()) h K → semH P B (noView ⟨q, o, none⟩ >>= f) h K := fun {α q o s f K} e k => by
          unfold noView viewAt
          simp only [bind_assoc]
          refine shp e ?_
          exact k
        have sg : ∀ {α : Type} {q o : Nat} {s : TypeId × Nat} {f : Bool → Sem α} {K : α → Heap → Prop}, shapeH B h q = some (some s) → (∀ o, frozenH B h ⟨q, o, none⟩ = some false) → semH P B (f false) h K → semH P B (stringish ⟨q, o, none⟩ >>= f) h K := fun {α q o s f K} e e2 k => by
          unfold stringish
          simp only [bind_assoc]
          refine frz (e2 _) ?_
          simp only [Bool.false_eq_true, if_false, bind_assoc]
          refine shp e ?_
          exact frz (e2 _) k
        refine frz (fz _) (frz (fz2 _) ?_)
        simp only [hbn, hbn', Bool.and_false, Bool.false_eq_true, if_false]
        refine nv sh (nv sh2 ?_)
        unfold mayBeOne
        simp only [bind_assoc]
        refine sg sh fz (sg sh2 fz2 (shp sh (shp sh2 ?_)))
        exact hk
  · cases ht
end
end Go.Proofs.Ythloobpjkeodgaa.H

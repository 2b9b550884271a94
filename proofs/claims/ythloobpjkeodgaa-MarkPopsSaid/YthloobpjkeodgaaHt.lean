/- The heap logic, part 20: appends out of other rows, and of noughts; rows cut. No condition. -/
import Derived.Test.YthloobpjkeodgaaHs
import Derived.IntWalk
namespace Go.Proofs.Ythloobpjkeodgaa.H
open Go
set_option linter.unusedVariables false

section
variable {P : Program} {B : RO} {h0 h h' : Heap} {L : List (Option (Nat × AObj))} {r : Option (Nat × AObj)} {e : TypeId} {sz : Nat} {xs : List Value} {α : Type} {cells : α → List Value} {l : List α} {a : Option Addr} {m c : Nat}
/-- A row as what is appended. -/
theorem Row.src (R : Row r (.slice a m c) e sz (l.flatMap cells)) (hr : ∀ k o, r = some (k, o) → h k = some o) (hc : ∀ x, (cells x).length = sz) (h0 : 0 < sz) (ho : ∀ x, ∀ y ∈ cells x, isOne y = true) : Src B h (.slice a m c) sz m (l.flatMap cells) := by
  obtain ⟨rfl, hrd⟩ := R.rd (B := B) hc h0
  exact (hrd h hr).src hc ho
/-- Things are appended that lie elsewhere. -/
theorem Keep.pushS (E : Keep B h0 L h) (q : Nat) {t tx : TypeId} {bz n : Nat} {zs ys : List Value} {x : Value} (hq : L[q]? = some r) (R : Row r (.slice a m c) e sz xs) (ht : slcB P t = some (e, sz, bz)) (hz : zeroB P e = some zs) (hzs : zs.length = sz) (hsz : 0 < sz) (hbz : 0 < bz) (hst : slT P tx = true)
    (hx : Src B h x sz n ys) (hb : (xs.length + ys.length) * bz ≤ 1099511627776) {K : Value → Heap → Prop}
    (hK : ∀ a' m' c' r' h'', Row r' (.slice a' m' c') e sz (xs ++ ys) → Keep B h0 (L.set q r') h'' → K (.slice a' m' c') h'') {ty : TypeId} : semH P B (Builtin.append_ #[t, tx] ty #[.slice a m c, x]) h K := by
  have tf := slT_facts hst
  refine semH_append (n := n) (ys := ys) ht hz hzs hsz hbz tf.1 tf.2 (E.sl q hq R) hx hb ?_
  intro v' h'' ap
  obtain ⟨r', R', E'⟩ := E.appd q hq R ap
  obtain ⟨a', m', c', rfl⟩ := R'.slice
  exact hK _ _ _ _ _ R' E'
/-- The first ones, with the room behind them. -/
theorem Row.cut (R : Row r (.slice a m c) e sz xs) {n : Nat} (hn : n ≤ m) : Row r (.slice a n c) e sz (xs.take (n * sz)) := by
  rcases R with ⟨e0, e1, e2⟩ | ⟨k, m', c', nn, js, e0, e1, e3, e4, e5⟩
  · cases e1
    have : n = 0 := by omega
    subst this
    exact .inl ⟨e0, rfl, by rw [e2]; simp⟩
  · cases e1
    have h1 : n * sz ≤ m * sz := Nat.mul_le_mul_right _ hn
    refine .inr ⟨k, n, c, nn, xs.drop (n * sz) ++ js, ?_, rfl, by rw [List.length_take]; omega, by omega, e5⟩
    rw [← List.append_assoc, List.take_append_drop]; exact e0
theorem optAdd0 (a : Option Addr) (n k : Nat) : (if n = Int.toNat 0 then a else Option.map (fun x => Addr.add x (Int.toNat 0 * k)) a) = a := by
  split
  · rfl
  · cases a
    · rfl
    · show some (Addr.add _ (0 * k)) = _
      rw [Nat.zero_mul]; rfl
theorem semH_appendZ0 {t tx ty : TypeId} {bz : Nat} {zs : List Value} {n : Int} {ki : IntKind} {K : Value → Heap → Prop} (ht : slcB P t = some (e, sz, bz)) (hz : zeroB P e = some zs) (hzs : zs.length = sz) (hsz : 0 < sz) (hbz : 0 < bz) (hix : intB P tx = some ki)
    (h0 : 0 < n) (hb : n.toNat * bz ≤ 1099511627776) (hk : ∀ ys v' h', ys.length = n.toNat * sz → Appd B h (.slice none 0 0) e sz [] ys v' h' → K v' h') : semH P B (Builtin.append_ #[t, tx] ty #[.slice none 0 0, .int .i64 n]) h K := by
  have hn1 : n.toNat ≤ 1099511627776 := Nat.le_trans (Nat.le_mul_of_pos_right _ hbz) hb
  unfold slcB at ht
  split at ht
  · rename_i e' hu
    cases hin : P.info? e' with
    | none => rw [hin] at ht; cases ht
    | some inf =>
      rw [hin] at ht
      simp only [Option.map_some, Option.some.injEq, Prod.mk.injEq] at ht
      obtain ⟨rfl, rfl, rfl⟩ := ht
      unfold Builtin.append_
      simp only [List.getElem?_toArray, List.getElem?_cons_zero, List.getElem?_cons_succ]
      rw [semH_und hu]
      dsimp only
      rw [semH_sz (n := inf.size) (by simp [szB, hin])]
      have htx : ∃ k', P.underlying tx = some (.int k') := by
        unfold intB at hix
        split at hix
        · rename_i k' hk'; exact ⟨k', hk'⟩
        · cases hix
      obtain ⟨k', hk'⟩ := htx
      rw [semH_und hk']
      have hw : IntKind.i64.wrap n = n := IntWalk.i64_in n ⟨by omega, by omega⟩
      have hnn : ((n.toNat : Nat) : Int) = n := by omega
      have hsmall : n * (inf.bytes : Int) ≤ 1099511627776 := by
        have : ((n.toNat * inf.bytes : Nat) : Int) ≤ 1099511627776 := Int.ofNat_le.2 hb
        rw [Int.natCast_mul, hnn] at this
        exact this
      simp only [pure_bind, if_true, asInt, asIntOf, hw]
      rw [if_neg (by omega), semH_info hin, if_neg (by show ¬ (_ > (2 : Int) ^ 48); omega)]
      simp only [Bool.not_true, Bool.false_eq_true, if_false, Nat.zero_add]
      rw [if_neg (by omega), semH_info hin]
      have hcap : Builtin.nextslicecap n.toNat 0 * inf.bytes ≤ 281474976710656 := by
        have h1 := nextcap_le n.toNat 0 (by omega)
        have h2 : Builtin.nextslicecap n.toNat 0 * inf.bytes ≤ (2 * n.toNat + 200) * inf.bytes := Nat.mul_le_mul_right _ h1
        have h3 : inf.bytes ≤ n.toNat * inf.bytes := Nat.le_mul_of_pos_left _ (by omega)
        have h4 : (2 * n.toNat + 200) * inf.bytes = 2 * (n.toNat * inf.bytes) + 200 * inf.bytes := by rw [Nat.add_mul, Nat.mul_assoc]
        omega
      have hmx : IntKind.i64.max = 9223372036854775807 := by decide
      rw [if_neg (by rw [hmx]; omega), semH_info hin, if_neg (by show ¬ (_ > 2 ^ 48); omega)]
      refine semH_choose rfl fun q => ?_
      have hcut : n.toNat ≤ (Question.appendCap n.toNat 0 e').cut q := by simp [Question.cut]
      generalize (Question.appendCap n.toNat 0 e').cut q = nc at hcut
      rw [semH_info hin]
      refine semH_askRoom ?_
      have hold : ∀ {α : Type} {f : Array Value → Sem α} {K : α → Heap → Prop}, semH P B (f #[]) h K → semH P B (Builtin.firstCells inf.size 0 (.slice none 0 0) >>= f) h K := fun k => k
      refine hold ?_
      have hns : ¬ (n.toNat * inf.size = 0) := by
        intro hh
        rcases Nat.mul_eq_zero.1 hh with h | h <;> omega
      rw [if_neg hns, bind_assoc]
      refine semH_zero hz fun z hzc => ?_
      have hzc' : z.cells.size = inf.size := by rw [← hzs, ← hzc]; simp
      simp only [pure_bind]
      refine semH_zero hz fun z' hzc2 => ?_
      have hzc2' : z'.cells.size = inf.size := by rw [← hzs, ← hzc2]; simp
      refine semH_newRow fun b hb1 hb2 => ?_
      have e1 : (#[] ++ Builtin.zeroCells z.cells n.toNat ++ Builtin.zeroCells z'.cells (nc - n.toNat)).toList = [] ++ (Builtin.zeroCells z.cells n.toNat).toList ++ (Builtin.zeroCells z'.cells (nc - n.toNat)).toList := by simp
      have e2 : (#[] ++ Builtin.zeroCells z.cells n.toNat ++ Builtin.zeroCells z'.cells (nc - n.toNat)).size = n.toNat * inf.size + (nc - n.toNat) * inf.size := by simp [zeroCells_size, hzc', hzc2']
      have e3 : nc * inf.size ≤ n.toNat * inf.size + (nc - n.toNat) * inf.size := by
        rw [← Nat.add_mul]
        exact Nat.mul_le_mul_right _ (by omega)
      have hyl : (Builtin.zeroCells z.cells n.toNat).toList.length = n.toNat * inf.size := by simp [zeroCells_size, hzc']
      rw [e1, e2]
      exact hk _ _ _ hyl (.inr ⟨b, 0, n.toNat, nc, n.toNat * inf.size + (nc - n.toNat) * inf.size, (Builtin.zeroCells z'.cells (nc - n.toNat)).toList, by omega, by rw [Nat.zero_add], rfl, by simp, hyl.symm, by omega, e3, .inr ⟨hb1, hb2⟩⟩)
  · cases ht
end
end Go.Proofs.Ythloobpjkeodgaa.H

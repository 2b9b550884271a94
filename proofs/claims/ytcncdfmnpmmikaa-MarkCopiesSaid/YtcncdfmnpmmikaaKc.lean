/- What the functions of the document's answer for the stylus do, and put and great: contracts. No condition. -/
import Derived.Test.YtcncdfmnpmmikaaKa
import Derived.Test.YtcncdfmnpmmikaaHl
namespace Go.Proofs.Ytcncdfmnpmmikaa.H
open Go
set_option linter.unusedVariables false
set_option maxRecDepth 100000

theorem TK.byteStr : byteStr PG TY.s_uint8 TY.string = true := by kernel_rfl

section
variable {B : RO} {h : Heap}

theorem one_string {k : Nat} {x : Int} {u : UInt8} {K : Value → Heap → Prop} (hk : h k = some (.vec TY.uint8 (plains [.int .u8 x]) 1)) (hx : x = ((u.toNat : Nat) : Int)) (hK : K (.string (ba [u])) h) :
    semH PG B (convert TY.s_uint8 TY.string (.slice (some ⟨k, 0, none⟩) 1 1)) h K := by
  subst hx
  refine semH_convB TK.byteStr (semH_bytesToString (e := TY.uint8) (bs := [u]) (.inr ⟨k, 1, 1, 1, [], rfl, hk, rfl, by omega, by omega⟩) hK)

structure Item where
  kind : Int
  n : Int
  s : ByteArray
def Item.cells (x : Item) : List Value := [.int .i64 x.kind, .int .i64 x.n, .string x.s]
def Item.ok (x : Item) : Prop := -9223372036854775808 ≤ x.n ∧ x.n ≤ 9223372036854775807
theorem Item_key {H : Type} {enc : TypeId × Value → H} {P : Program} {w : World} {base : Nat} {spare : Nat → Bool} {held : Bool} (vs : List Value) (h : KdsOk enc P w base spare held [.int .i64, .int .i64, .str] vs) : ∃ x : Item, vs = x.cells ∧ x.ok := by
  obtain ⟨z1, v1, rfl, _, h⟩ := h.int
  obtain ⟨z2, v2, rfl, w2, h⟩ := h.int
  obtain ⟨s, v3, rfl, _, h⟩ := h.str
  obtain rfl := h.nil
  exact ⟨⟨z1, z2, s⟩, rfl, wf64 w2⟩
def Item.bytes (x : Item) : List UInt8 :=
  if x.kind = 0 then natI x.n else if x.kind = 1 then natB (zig x.n) else if x.kind = 2 then bl x.s else if x.kind = 3 then natB x.s.size ++ bl x.s else []
def itemsB (l : List Item) : List UInt8 := l.flatMap Item.bytes

def itemsRoom (l : List Item) : Nat := (l.map fun x => x.s.size + 50).sum
theorem Item.bytes_length {x : Item} (h : x.ok) (hs : x.s.size ≤ 1099511627776) : x.bytes.length ≤ x.s.size + 10 := by
  unfold Item.bytes
  split
  · have := natI_length h.2; omega
  · split
    · have := natB_length (zig_lt h.1 h.2); omega
    · split
      · rw [bl_length]; omega
      · split
        · have := natB_length (n := x.s.size) (by omega)
          rw [List.length_append, bl_length]; omega
        · simp
theorem itemsB_length : ∀ (l : List Item), (∀ x ∈ l, x.ok) → itemsRoom l ≤ 1099511627776 → (itemsB l).length + 40 * l.length ≤ itemsRoom l
  | [], _, _ => by simp [itemsB, itemsRoom]
  | x :: l, h, hr => by
    simp only [itemsRoom, List.map_cons, List.sum_cons] at hr
    have h1 := Item.bytes_length (h x (by simp)) (by omega)
    have h2 := itemsB_length l (fun y hy => h y (by simp [hy])) (by simp only [itemsRoom]; omega)
    simp only [itemsB, itemsRoom, List.flatMap_cons, List.length_append, List.map_cons, List.sum_cons, List.length_cons] at *
    omega
theorem itemsB_take_succ (l : List Item) (k : Nat) (hk : k < l.length) : itemsB (l.take (k + 1)) = itemsB (l.take k) ++ l[k].bytes := by
  unfold itemsB; rw [List.take_succ_eq_append_getElem hk, List.flatMap_append, List.flatMap_cons, List.flatMap_nil, List.append_nil]
theorem itemsRoom_at (l : List Item) (k : Nat) (hk : k < l.length) : itemsRoom (l.take k) + (l[k].s.size + 50) ≤ itemsRoom l := by
  have : l = l.take k ++ (l[k] :: l.drop (k + 1)) := by rw [← List.drop_eq_getElem_cons hk, List.take_append_drop]
  conv => rhs; rw [this]
  simp only [itemsRoom, List.map_append, List.sum_append, List.map_cons, List.sum_cons]; omega

def itemsSum (l : List Item) : Nat := (l.map fun x => x.s.size).sum
theorem itemsSum_take_succ (l : List Item) (k : Nat) (hk : k < l.length) : itemsSum (l.take (k + 1)) = itemsSum (l.take k) + l[k].s.size := by
  unfold itemsSum; rw [List.take_succ_eq_append_getElem hk, List.map_append, List.sum_append]; rfl
theorem itemsRoom_sum (l : List Item) : itemsRoom l = itemsSum l + 50 * l.length := by
  unfold itemsRoom itemsSum
  induction l with
  | nil => rfl
  | cons x l ih => simp only [List.map_cons, List.sum_cons, List.length_cons]; omega

end
end Go.Proofs.Ytcncdfmnpmmikaa.H

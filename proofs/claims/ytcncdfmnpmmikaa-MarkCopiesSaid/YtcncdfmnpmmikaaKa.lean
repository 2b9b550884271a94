/- What the stylus' functions do: contracts. No condition. -/
import Derived.Test.YtcncdfmnpmmikaaXmT
import Derived.Test.YtcncdfmnpmmikaaHj
import Derived.Test.YtcncdfmnpmmikaaMa
namespace Go.Proofs.Ytcncdfmnpmmikaa.H
open Go
set_option linter.unusedVariables false
set_option maxRecDepth 100000

theorem TK.slc_bytes : slcB PG TY.s_uint8 = some (TY.uint8, 1, 1) := by kernel_rfl
theorem TK.zero_byte : zeroB PG TY.uint8 = some [.int .u8 0] := by kernel_rfl
theorem TK.sl_bytes : slT PG TY.s_uint8 = true := by kernel_rfl
theorem TK.str : isStr PG TY.string = true := by kernel_rfl

section
variable {B : RO} {h : Heap}

theorem Addr.add_block (A : Addr) (i : Nat) : (A.add i).block = A.block := by unfold Addr.add; split <;> rfl

/-- A stylus that has written bytes. -/
def stylO (bs : List UInt8) : AObj := .vec TY.stylus_Stylus [.own TY.uint8 1 (bs.map byteV)] 1

theorem natI_length {i : Int} (h : i ≤ 9223372036854775807) : (natI i).length ≤ 10 := by
  unfold natI; split
  · simp
  · exact natB_length (by omega)
theorem natsB_length : ∀ (l : List Int), (∀ n ∈ l, n ≤ 9223372036854775807) → (natsB l).length ≤ 10 * l.length
  | [], _ => by simp [natsB]
  | n :: l, h => by
    have h1 := natI_length (h n (by simp))
    have h2 := natsB_length l (fun m hm => h m (by simp [hm]))
    simp only [natsB, List.flatMap_cons, List.length_append, List.length_cons] at *
    omega
theorem natsB_one (n : Nat) : natsB [((n : Nat) : Int)] = natB n := by
  simp only [natsB, natI, List.flatMap_cons, List.flatMap_nil, List.append_nil]
  rw [if_neg (by omega)]; rfl
theorem natsB_one' {i : Int} (h : ¬ i < 0) : natsB [i] = natB i.toNat := by
  simp only [natsB, natI, List.flatMap_cons, List.flatMap_nil, List.append_nil]
  rw [if_neg h]
theorem natsB_take_succ (l : List Int) (k : Nat) (hk : k < l.length) : natsB (l.take (k + 1)) = natsB (l.take k) ++ natI l[k] := by
  unfold natsB; rw [List.take_succ_eq_append_getElem hk, List.flatMap_append, List.flatMap_cons, List.flatMap_nil, List.append_nil]
theorem intsB_take_succ (l : List Int) (k : Nat) (hk : k < l.length) : intsB (l.take (k + 1)) = intsB (l.take k) ++ natB (zig l[k]) := by
  unfold intsB; rw [List.take_succ_eq_append_getElem hk, List.flatMap_append, List.flatMap_cons, List.flatMap_nil, List.append_nil]
theorem intsB_length : ∀ (l : List Int), (∀ n ∈ l, zig n < 18446744073709551616) → (intsB l).length ≤ 10 * l.length
  | [], _ => by simp [intsB]
  | n :: l, h => by
    have h1 := natB_length (h n (by simp))
    have h2 := intsB_length l (fun m hm => h m (by simp [hm]))
    simp only [intsB, List.flatMap_cons, List.length_append, List.length_cons] at *
    omega
theorem zig_lt {i : Int} (h : -9223372036854775808 ≤ i) (h' : i ≤ 9223372036854775807) : zig i < 18446744073709551616 := by
  unfold zig; split <;> omega

/-- One more byte behind what is written. -/
theorem stylus_byte {b : Nat} {bs : List UInt8} {x : Int} {u : UInt8} {K : Value → Heap → Prop} (hx : x = ((u.toNat : Nat) : Int)) (hb : h b = some (stylO bs)) (hbd : bs.length + 1 ≤ 1099511627776)
    (hK : ∀ a' n' c' h3 h4, storeH h3 ⟨b, 0, none⟩ (.slice a' n' c') = some h4 → Ent B h4 (h.set b (stylO (bs ++ [u]))) → K (.slice a' n' c') h3) :
    LdSl B h ⟨b, 0, none⟩ (fun a m c h1 => ∀ k, h1 k = none → B k = none → ∀ h2, h2 = Heap.set h1 k (.vec TY.uint8 (plains [.int .u8 x]) 1) → semH PG B (Builtin.append_ #[TY.s_uint8, TY.s_uint8] TY.s_uint8 #[.slice a m c, .slice (some ⟨k, 0, none⟩) 1 1]) h2 K) := by
  subst hx
  refine app_own (len := 1) (ys := [.int .u8 ((u.toNat : Nat) : Int)]) (xs := bs.map byteV) TK.slc_bytes TK.zero_byte rfl (by omega) (by omega) TK.sl_bytes hb rfl rfl (by simp [isOne]) (by simp; omega) ?_
  intro a' n' c' h3 h4 s1 s2
  refine hK a' n' c' h3 h4 s1 ?_
  simpa [stylO, byteV] using s2

/-- A reader: what is left, and whether something was missed. -/
def readO (s : ByteArray) (bad : Bool) : AObj := .vec TY.stylus_Reader (plains [.string s, .bool bad]) 2

/-- A new stylus has written nothing. -/
theorem styl_new {k : Nat} {hh : Heap} (e : hh k = some (.vec TY.stylus_Stylus (plains [Value.slice none 0 0]) 1)) : Ent B hh (hh.set k (stylO [])) :=
  Ent.close_nil (e := TY.uint8) (sz := 1) (i := 0) e rfl
/-- What an argument's list of one thing reads. -/
theorem one_read {b k : Nat} {t : TypeId} {v : Value} (hk : h k = some (.vec t (plains [v]) 1)) (hne : k ≠ b) : ∀ i w, [v][i]? = some w → ∃ A, (some (⟨k, 0, none⟩ : Addr)) = some A ∧ A.block ≠ b ∧ cellH B h (A.add i) = some w := by
  intro i w hi
  cases i with
  | zero => cases hi; exact ⟨_, rfl, hne, cellH_vec hk rfl⟩
  | succ i => cases hi

theorem natI_300 : natI 300 = [172, 2] := by
  rw [natI, if_neg (by decide), natB_hi (by decide), natB_lo (by decide)]; rfl
theorem zig_m2 : natB (zig (-2)) = [3] := by rw [natB_lo (by decide)]; rfl

end
end Go.Proofs.Ytcncdfmnpmmikaa.H

/- Tomes: the bytes; the word of the law's package: contracts. No condition. -/
import Derived.Test.YtcncdfmnpmmikaaTb
namespace Go.Proofs.Ytcncdfmnpmmikaa.H
open Go
set_option linter.unusedVariables false
set_option maxRecDepth 100000

def fileB (x : Int × Bool × ByteArray) : List UInt8 := natI x.1 ++ (natB x.2.2.size ++ bl x.2.2)
def tomeB (l : List (FileS × Int)) : List UInt8 := (filesOf l).flatMap fileB
/-- What a tome of the program is always. -/
structure TomeOk (l : List (FileS × Int)) : Prop where
  n6 : l.length = 6
  good : ∀ x ∈ l, goodF x.1.1 x.1.2 = true
theorem TomeOk.size {l : List (FileS × Int)} (k : TomeOk l) : ∀ x ∈ l, x.1.2.size ≤ 32 := fun x hx => by
  have := k.good x hx
  unfold goodF at this
  simp only [Bool.and_eq_true, decide_eq_true_eq] at this
  exact this.1
theorem TomeOk.zero : TomeOk (List.replicate 6 ((false, ByteArray.empty), 0)) := ⟨rfl, fun x hx => by
  rw [List.mem_replicate] at hx
  rw [hx.2]; decide⟩
theorem TomeOk.set {l : List (FileS × Int)} (k : TomeOk l) (n : Int) (b : Bool) (s : ByteArray) (ver : Int) : TomeOk (setF l n b s ver) := by
  refine ⟨by rw [setF_len]; exact k.n6, fun x hx => ?_⟩
  unfold setF at hx
  split at hx
  · rename_i h
    unfold setB at h
    rw [Bool.and_eq_true] at h
    rcases List.mem_or_eq_of_mem_set hx with h1 | h1
    · exact k.good x h1
    · rw [h1]; exact h.1
  · exact k.good x hx
theorem allF_mem {l : List (FileS × Int)} {x : Int × Bool × ByteArray} (h : x ∈ allF l) : ∃ y ∈ l, x.2 = y.1 ∧ 0 ≤ x.1 ∧ x.1 < l.length := by
  obtain ⟨q, hq⟩ := List.getElem?_of_mem h
  rw [allF_get] at hq
  obtain ⟨y, hy, rfl⟩ := Option.map_eq_some_iff.1 hq
  have := (List.getElem?_eq_some_iff.1 hy).1
  exact ⟨y, List.mem_of_getElem? hy, rfl, by simp, by simp only; omega⟩
theorem filesOf_mem {l : List (FileS × Int)} {x : Int × Bool × ByteArray} (h : x ∈ filesOf l) : ∃ y ∈ l, x.2 = y.1 ∧ 0 ≤ x.1 ∧ x.1 < l.length := allF_mem (List.mem_filter.1 h).1
theorem fileB_len (k : (x : Int × Bool × ByteArray) → Prop) {x : Int × Bool × ByteArray} (h1 : x.1 ≤ 1000) (h2 : x.2.2.size ≤ 1000) : (fileB x).length ≤ 1020 := by
  unfold fileB
  have a := natI_length (i := x.1) (by omega)
  have b := natB_length (n := x.2.2.size) (by omega)
  rw [List.length_append, List.length_append, bl_length]
  omega
theorem flat_len {x : Int × Bool × ByteArray} : ∀ (l : List (Int × Bool × ByteArray)), (∀ x ∈ l, x.1 ≤ 1000 ∧ x.2.2.size ≤ 1000) → (l.flatMap fileB).length ≤ 1020 * l.length
  | [], _ => by simp
  | y :: l, h => by
    have h1 := fileB_len (fun _ => True) (h y (by simp)).1 (h y (by simp)).2
    have h2 := flat_len (x := x) l (fun z hz => h z (by simp [hz]))
    rw [List.flatMap_cons, List.length_append, List.length_cons]
    omega

section
variable {B : RO} {h0 h h' : Heap} {L : List (Option (Nat × AObj))} {r : Option (Nat × AObj)} {i kT kR : Nat} {v : Value} {l : List (FileS × Int)}
end
end Go.Proofs.Ytcncdfmnpmmikaa.H

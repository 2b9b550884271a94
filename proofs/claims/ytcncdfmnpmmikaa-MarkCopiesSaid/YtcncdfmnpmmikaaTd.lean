/- The laws of tomes: the sets; TomeApart. No condition. -/
import Derived.Test.YtcncdfmnpmmikaaTc
import Derived.Test.YtcncdfmnpmmikaaHl
namespace Go.Proofs.Ytcncdfmnpmmikaa.H
open Go Go.RowKit
set_option linter.unusedVariables false
set_option maxRecDepth 100000

structure FSetR where
  i : Int
  b : Bool
  s : ByteArray
  v : Int
def FSetR.cells (x : FSetR) : List Value := [.int .i64 x.i, .bool x.b, .string x.s, .int .i64 x.v]
theorem arg_cap {H : Type} {enc : TypeId × Value → H} {P : Program} {w : World} {base : Nat} {spare : Nat → Bool} {held : Bool} {t e : TypeId} {m : Nat} {ks : List Kd} {a : Option Addr} {len cap : Nat} {d : DataW H} {p : List MemPlace} (ht : P.underlying t = some (.slice e)) (hk : leafB P m e = some ks) (h : DataW.Trod enc P w base spare held t (.slice a len cap) d p) : len ≤ cap := by
  obtain ⟨n, hn⟩ := h
  exact (trod_rows ht hk (show DataW.trod enc P w base spare held n t [.slice a len cap] = some (d, p) from hn)).1

/-! The plain law. -/
abbrev FL := List (FileS × Int)
def zF : FL := List.replicate 6 ((false, ByteArray.empty), 0)
def apF (l : FL) (x : FSetR) : FL := setF l x.i x.b x.s x.v
theorem TomeOk.foldl {l : FL} (k : TomeOk l) (sets : List FSetR) : TomeOk (sets.foldl apF l) := by
  induction sets generalizing l with
  | nil => exact k
  | cons x t ih => exact ih (k.set x.i x.b x.s x.v)
theorem setB_len {l l' : FL} (h : l.length = l'.length) (n : Int) (b : Bool) (s : ByteArray) : setB l n b s = setB l' n b s := by unfold setB; rw [h]
theorem setF_comm (l : FL) {n m : Int} (hn : n ≠ m) (b c : Bool) (s t : ByteArray) (v w : Int) : setF (setF l n b s v) m c t w = setF (setF l m c t w) n b s v := by
  have e1 : setB (setF l n b s v) m c t = setB l m c t := setB_len (setF_len l n b s v) m c t
  have e2 : setB (setF l m c t w) n b s = setB l n b s := setB_len (setF_len l m c t w) n b s
  rw [setF, e1, setF, setF, e2, setF]
  split <;> split <;> try rfl
  rename_i h1 h2
  unfold setB at h1 h2
  simp only [Bool.and_eq_true, decide_eq_true_eq] at h1 h2
  exact List.set_comm _ _ (by omega)
theorem apF_comm {list : List FSetR} (hd : ∀ x ∈ list, ∀ y ∈ list, x.i = y.i → x = y) : ∀ x ∈ list, ∀ y ∈ list, ∀ z, apF (apF z x) y = apF (apF z y) x := fun x hx y hy z => by
  by_cases h : x.i = y.i
  · rw [hd x hx y hy h]
  · exact setF_comm z h _ _ _ _ _ _
theorem rot_fold {list : List FSetR} (hd : ∀ x ∈ list, ∀ y ∈ list, x.i = y.i → x = y) (p : Nat) (z : FL) : (rotL list p).foldl apF z = list.foldl apF z :=
  (rotL_perm list p).foldl_eq' (fun x hx y hy z => apF_comm hd x ((rotL_perm list p).mem_iff.1 hx) y ((rotL_perm list p).mem_iff.1 hy) z) z
theorem fold_take {l : List FSetR} {z : FL} (j : Nat) (x : FSetR) (h : l[j]? = some x) : apF ((l.take j).foldl apF z) x = (l.take (j + 1)).foldl apF z := by
  obtain ⟨hq, rfl⟩ := List.getElem?_eq_some_iff.1 h
  rw [List.take_succ_eq_append_getElem hq, List.foldl_append]; rfl
def DistF (list : List FSetR) (n : Nat) : Prop := ∀ p q x y, p < n → q < p → list[p]? = some x → list[q]? = some y → x.i ≠ y.i
theorem DistF.mem {list : List FSetR} (d : DistF list list.length) : ∀ x ∈ list, ∀ y ∈ list, x.i = y.i → x = y := fun x hx y hy e => by
  obtain ⟨p, hp⟩ := List.getElem?_of_mem hx
  obtain ⟨q, hq⟩ := List.getElem?_of_mem hy
  have lp := (List.getElem?_eq_some_iff.1 hp).1
  have lq := (List.getElem?_eq_some_iff.1 hq).1
  rcases Nat.lt_trichotomy p q with h | h | h
  · exact absurd e.symm (d q p y x lq h hq hp)
  · subst h; rw [hp] at hq; exact Option.some.inj hq
  · exact absurd e (d p q x y lp h hp hq)

section
variable {B : RO} {h0 h h' : Heap} {a : Option Addr} {c : Nat} {list : List FSetR} {Q : Bool → Heap → Prop} {kA kA' kB kB' : Nat} {va vb : Value} {ra rb : Option (Nat × AObj)}
theorem tome_cases {L : List (Option (Nat × AObj))} {r' : Option (Nat × AObj)} : (tomE kA kA' va ra ++ L).set 2 r' = tomE kA kA' va r' ++ L := rfl
end
end Go.Proofs.Ytcncdfmnpmmikaa.H

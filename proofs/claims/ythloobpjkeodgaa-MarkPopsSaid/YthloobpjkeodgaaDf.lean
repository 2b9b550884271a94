/- Drafts of file_File: contracts. No condition. -/
import Derived.Test.YthloobpjkeodgaaXfT
import Derived.Test.YthloobpjkeodgaaDi
namespace Go.Proofs.Ythloobpjkeodgaa.H
open Go
set_option linter.unusedVariables false
set_option maxRecDepth 100000

def entC_file_File (x : Int × (Bool × ByteArray)) : List Value := [.int .i64 x.1, .bool x.2.1, .string x.2.2]
theorem entC_file_File_len (x : Int × (Bool × ByteArray)) : (entC_file_File x).length = 3 := rfl
theorem entC_file_File_one (x : Int × (Bool × ByteArray)) : ∀ y ∈ entC_file_File x, isOne y = true := fun y hy => by simp [entC_file_File] at hy; rcases hy with rfl | rfl | rfl <;> rfl
theorem TK.slc_ent_file_File : slcB PG TY.s_draft_entry_file_File = some (TY.draft_entry_file_File, 3, 32) := by kernel_rfl
theorem TK.zero_ent_file_File : zeroB PG TY.draft_entry_file_File = some [.int .i64 0, .bool false, .string ByteArray.empty] := by kernel_rfl
theorem TK.sl_ent_file_File : slT PG TY.s_draft_entry_file_File = true := by kernel_rfl
theorem TK.int_ent_file_File : intB PG TY.int = some .i64 := by kernel_rfl
def DRow_file_File (r : Option (Nat × AObj)) (v : Value) (l : List (Int × (Bool × ByteArray))) : Prop := Row r v TY.draft_entry_file_File 3 (l.flatMap entC_file_File)
def drO_file_File (v : Value) : AObj := .vec TY.draft_Draft_file_File (plains [v]) 1
structure DAt_file_File (L : List (Option (Nat × AObj))) (i k : Nat) (v : Value) (r : Option (Nat × AObj)) : Prop where
  p : L[i]? = some (some (k, drO_file_File v))
  q : L[i + 1]? = some r
def drE_file_File (k : Nat) (v : Value) (r : Option (Nat × AObj)) : List (Option (Nat × AObj)) := [some (k, drO_file_File v), r]

section
variable {B : RO} {h0 h h' : Heap} {L : List (Option (Nat × AObj))} {r : Option (Nat × AObj)} {i k : Nat} {a : Option Addr} {m c : Nat} {v : Value} {l : List (Int × (Bool × ByteArray))}
theorem DRow_file_File.len (R : DRow_file_File r (.slice a m c) l) : m = l.length := (Row.rd (B := fun _ => none) R entC_file_File_len (by omega)).1
theorem copy_file_File_wp {Q : Option Addr → Heap → Prop} (E : Keep B h0 L h) (A : DAt_file_File L i k v r) (R : DRow_file_File r v l) (hl : l.length ≤ 100000) (hQ : ∀ k' v' r' h', DRow_file_File r' v' l → Keep B h0 (L ++ drE_file_File k' v' r') h' → Q (some ⟨k', 0, none⟩) h') : C_draft_Draft_file_File_Copy B (some ⟨k, 0, none⟩) h Q := by
  refine C_draft_Draft_file_File_Copy.of ?_
  unfold S_draft_Draft_file_File_Copy
  obtain ⟨a, m, c, rfl⟩ := Row.slice R
  have hm := DRow_file_File.len R
  subst hm
  have hfl := flatMap_length entC_file_File_len l
  refine ⟨fun e => (by cases e), fun _ => ⟨_, rfl, .inl ⟨a, _, c, E.cell i A.p rfl, ?_⟩⟩⟩
  refine C_slices_Clone_s_draft_entry_file_File_draft_entry_file_File.of ?_
  unfold S_slices_Clone_s_draft_entry_file_File_draft_entry_file_File
  have swap : ∀ {h1 : Heap} {k1 : Nat} {v1 : Value} {r1 : Option (Nat × AObj)}, Keep B h0 (L ++ [r1] ++ [some (k1, drO_file_File v1)]) h1 → Keep B h0 (L ++ drE_file_File k1 v1 r1) h1 := fun {h1 k1 v1 r1} E1 => by
    have e0 : L ++ drE_file_File k1 v1 r1 = L ++ [some (k1, drO_file_File v1)] ++ [r1] := by simp [drE_file_File]
    rw [e0]
    have E2 := E1.swapLast
    exact E2
  refine ⟨fun hn => Fin.of ?_, fun hn => ?_⟩
  · intro k14 a14 b14 h15 e15
    have h0' : l = [] := by
      rcases R with ⟨_, e1, e2⟩ | ⟨kr, m', c', nn, js, e0, e1, e3, e4, e5⟩
      · rw [e2] at hfl; simp at hfl; exact List.length_eq_zero_iff.1 (by omega)
      · cases e1; cases hn
    subst h0'
    exact Fin.of (hQ k14 _ none h15 (Row.nil _ _) (swap (E.gap.made a14 b14 e15)))
  · intro k8 a8 b8 h9 e9
    have E1 := E.made a8 b8 e9
    have R1 : Row (some (k8, AObj.vec TY.draft_entry_file_File [] 0)) (.slice (some ⟨k8, 0, none⟩) 0 0) TY.draft_entry_file_File 3 [] := .inr ⟨k8, 0, 0, 0, [], rfl, rfl, by simp, Nat.le_refl _, by simp⟩
    have hsrc := Row.src (B := B) (h := h9) R (fun k o e => E1.at (i + 1) (by rw [up_app _ A.q, e])) entC_file_File_len (by omega) entC_file_File_one
    refine E1.pushS L.length (by rw [List.getElem?_append_right (Nat.le_refl _), Nat.sub_self]; rfl) R1 TK.slc_ent_file_File TK.zero_ent_file_File rfl (by omega) (by omega) TK.sl_ent_file_File hsrc (by rw [hfl]; simp; omega) fun a' m' c' r' h10 R' E2 => ⟨_, _, _, rfl, Fin.of ?_⟩
    intro k14 a14 b14 h15 e15
    rw [List.set_append_right _ _ (Nat.le_refl _), Nat.sub_self] at E2
    have E3 := E2.made a14 b14 e15
    exact Fin.of (hQ k14 _ r' h15 (by rw [List.nil_append] at R'; exact R') (swap E3))
theorem new_file_File {k4 : Nat} {h5 : Heap} (E : Keep B h0 L h) (a4 : h k4 = none) (b4 : B k4 = none) (e5 : h5 = h.set k4 (.vec TY.draft_Draft_file_File (plains [.slice none 0 0]) 1)) : Keep B h0 (L ++ drE_file_File k4 (.slice none 0 0) none) h5 ∧ DRow_file_File none (.slice none 0 0) [] := by
  have E1 := (E.made a4 b4 e5).gap
  rw [List.append_assoc] at E1
  exact ⟨E1, Row.nil _ _⟩
end
end Go.Proofs.Ythloobpjkeodgaa.H

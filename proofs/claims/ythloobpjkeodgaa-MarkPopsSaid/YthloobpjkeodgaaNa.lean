/- States and marks: contracts. No condition. -/
import Derived.Test.YthloobpjkeodgaaDf
import Derived.Test.YthloobpjkeodgaaHx
import Derived.Test.YthloobpjkeodgaaHl
namespace Go.Proofs.Ythloobpjkeodgaa.H
open Go Go.RowKit
set_option linter.unusedVariables false
set_option maxRecDepth 100000

/-- Where a state's things lie. -/
structure StI where
  kd : Nat
  vd : Value
  rd : Option (Nat × AObj)
  ks : Nat
  kf : Nat
  vf : Value
  rf : Option (Nat × AObj)
  kc : Nat
/-- What a state is. -/
structure StV where
  d : List (Int × Int)
  f : List (Int × (Bool × ByteArray))
  c0 : Int
  c1 : Int
  c2 : Int
def StV.z : StV := ⟨[], [], 0, 0, 0⟩
def shO (kf : Nat) : AObj := .vec TY.sheet_Sheet (plains [.pointer (some ⟨kf, 0, none⟩)]) 1
def curO (s : StV) : AObj := .vec TY.cursor_Cursor (plains [.int .i64 s.c0, .int .i64 s.c1, .int .i64 s.c2]) 3
def StI.e (x : StI) (s : StV) : List (Option (Nat × AObj)) := [some (x.kd, drO_int x.vd), x.rd, some (x.ks, shO x.kf), some (x.kf, drO_file_File x.vf), x.rf, some (x.kc, curO s)]
structure StI.Ok (x : StI) (s : StV) : Prop where
  d : DRow_int x.rd x.vd s.d
  f : DRow_file_File x.rf x.vf s.f
structure StAt (L : List (Option (Nat × AObj))) (i : Nat) (x : StI) (s : StV) : Prop where
  d : DAt_int L i x.kd x.vd x.rd
  sh : L[i + 2]? = some (some (x.ks, shO x.kf))
  f : DAt_file_File L (i + 3) x.kf x.vf x.rf
  c : L[i + 5]? = some (some (x.kc, curO s))
theorem StAt.app {L M : List (Option (Nat × AObj))} {i : Nat} {x : StI} {s : StV} (A : StAt L i x s) : StAt (L ++ M) i x s :=
  ⟨⟨up_app _ A.d.p, up_app _ A.d.q⟩, up_app _ A.sh, ⟨up_app _ A.f.p, up_app _ A.f.q⟩, up_app _ A.c⟩
structure Reg4 where
  a : Int
  b : Int
  c : Int
  d : Int
/-- A mark as it lies in a stack. -/
structure MarkR where
  x : StI
  g : Reg4
  m : Reg4
  place : Int
def MarkR.cells (m : MarkR) : List Value := [.pointer (some ⟨m.x.kd, 0, none⟩), .pointer (some ⟨m.x.ks, 0, none⟩), .pointer (some ⟨m.x.kc, 0, none⟩), .int .i64 m.g.a, .int .i64 m.g.b, .int .i64 m.g.c, .int .i64 m.g.d, .int .i64 m.m.a, .int .i64 m.m.b, .int .i64 m.m.c, .int .i64 m.m.d, .int .i64 m.place]
theorem MarkR.len (m : MarkR) : m.cells.length = 12 := rfl
theorem MarkR.one (m : MarkR) : ∀ y ∈ m.cells, isOne y = true := fun y hy => by
  simp only [MarkR.cells, List.mem_cons, List.not_mem_nil, or_false] at hy
  rcases hy with rfl | rfl | rfl | rfl | rfl | rfl | rfl | rfl | rfl | rfl | rfl | rfl <;> rfl
theorem TK.slc_mark : slcB PG TY.s_mark_Mark = some (TY.mark_Mark, 12, 96) := by kernel_rfl
theorem TK.zero_mark : zeroB PG TY.mark_Mark = some [.pointer none, .pointer none, .pointer none, .int .i64 0, .int .i64 0, .int .i64 0, .int .i64 0, .int .i64 0, .int .i64 0, .int .i64 0, .int .i64 0, .int .i64 0] := by kernel_rfl
theorem TK.sl_mark : slT PG TY.s_mark_Mark = true := by kernel_rfl
def skO (v : Value) : AObj := .vec TY.mark_Stack (plains [v]) 1
def MRow (r : Option (Nat × AObj)) (v : Value) (l : List MarkR) : Prop := Row r v TY.mark_Mark 12 (l.flatMap MarkR.cells)
structure SkAt (L : List (Option (Nat × AObj))) (i k : Nat) (v : Value) (r : Option (Nat × AObj)) : Prop where
  p : L[i]? = some (some (k, skO v))
  q : L[i + 1]? = some r

section
variable {B : RO} {h0 h h' : Heap} {L : List (Option (Nat × AObj))} {r : Option (Nat × AObj)} {i j k : Nat} {a : Option Addr} {m c : Nat} {v : Value} {l : List MarkR} {x : StI} {s : StV} {g mm : Reg4} {place : Int}
theorem sheet_new_wp {Q : Option Addr → Heap → Prop} (hQ : ∀ ks kf h', Keep B h [some (ks, shO kf), some (kf, drO_file_File (.slice none 0 0)), none] h' → Q (some ⟨ks, 0, none⟩) h') : C_sheet_New B h Q := by
  refine C_sheet_New.of ?_
  unfold S_sheet_New
  intro k2 a2 b2 h3 e3 k4 a4 b4 h5 e5
  have E := ((Keep.nil B h).made a2 b2 e3).made a4 b4 e5
  exact Fin.of (hQ k4 k2 h5 (E.picks [1, 0, 9] (by decide)))
theorem sheet_copy_wp {Q : Option Addr → Heap → Prop} (E : Keep B h0 L h) (A : StAt L i x s) (O : x.Ok s) (hf : s.f.length ≤ 100000) (hQ : ∀ ks kf vf rf h', DRow_file_File rf vf s.f → Keep B h0 (L ++ [some (ks, shO kf), some (kf, drO_file_File vf), rf]) h' → Q (some ⟨ks, 0, none⟩) h') : C_sheet_Sheet_Copy B (some ⟨x.ks, 0, none⟩) h Q := by
  refine C_sheet_Sheet_Copy.of ?_
  unfold S_sheet_Sheet_Copy
  refine ⟨fun e => (by cases e), fun _ => ⟨_, rfl, _, E.cell (i + 2) A.sh rfl, copy_file_File_wp E A.f O.f hf fun k' v' r' h7 R E1 => ?_⟩⟩
  intro k9 a9 b9 h10 e10
  have E2 := E1.made a9 b9 e10
  refine Fin.of (hQ k9 k' v' r' h10 R ?_)
  have E3 := Keep.rot3 E2
  exact E3
theorem cursor_copy_wp {Q : Option Addr → Heap → Prop} (E : Keep B h0 L h) (A : StAt L i x s) (hQ : ∀ kc h', Keep B h0 (L ++ [some (kc, curO s)]) h' → Q (some ⟨kc, 0, none⟩) h') : C_cursor_Cursor_Copy B (some ⟨x.kc, 0, none⟩) h Q := by
  refine C_cursor_Cursor_Copy.of ?_
  unfold S_cursor_Cursor_Copy
  refine ⟨fun e => (by cases e), fun _ => ⟨_, rfl, _, _, _, ⟨E.cell (i + 5) A.c rfl, E.cell (i + 5) A.c rfl, E.cell (i + 5) A.c rfl, trivial⟩, fun k9 a9 b9 h10 e10 => ?_⟩⟩
  have E1 := E.made a9 b9 e10
  refine ⟨_, stores_whole E1.last rfl (by simp) (by simp [isOne]) (by simp), ?_⟩
  have E2 := E1.putLast (curO s)
  exact Fin.of (hQ k9 _ E2)
theorem fresh_wp {Q : Option Addr → Option Addr → Option Addr → Int → Int → Int → Int → Heap → Prop} (hQ : ∀ x h', StI.Ok x StV.z → Keep B h (x.e StV.z) h' → Q (some ⟨x.kd, 0, none⟩) (some ⟨x.ks, 0, none⟩) (some ⟨x.kc, 0, none⟩) g.a g.b g.c g.d h') : C_mark_Fresh B g.a g.b g.c g.d h Q := by
  refine C_mark_Fresh.of ?_
  unfold S_mark_Fresh
  intro k12 a12 b12 h13 e13 k14 a14 b14 h15 e15
  have E := ((Keep.nil B h).made a12 b12 e13).made a14 b14 e15
  have c12 : ∀ {M : List (Option (Nat × AObj))} {h1 : Heap}, Keep B h ([] ++ [some (k12, AObj.vec TY.api_Regs (plains [.int .i64 g.a, .int .i64 g.b, .int .i64 g.c, .int .i64 g.d]) 4)] ++ M) h1 → CellsAt B h1 ⟨k12, 0, none⟩ 0 [.int .i64 g.a, .int .i64 g.b, .int .i64 g.c, .int .i64 g.d] := fun {M h1} E1 => ⟨E1.cell 0 rfl rfl, E1.cell 0 rfl rfl, E1.cell 0 rfl rfl, E1.cell 0 rfl rfl, trivial⟩
  have fin : ∀ {kd ks kf kc : Nat} {h1 : Heap}, Keep B h [some (k14, .vec TY.mark_State (plains [.pointer none, .pointer none, .pointer none, .int .i64 0, .int .i64 0, .int .i64 0, .int .i64 0]) 7), some (kd, drO_int (.slice none 0 0)), some (ks, shO kf), some (kf, drO_file_File (.slice none 0 0)), some (kc, curO StV.z)] h1 → ∃ h2, StoresAt ⟨k14, 0, none⟩ h1 0 [.pointer (some ⟨kd, 0, none⟩), .pointer (some ⟨ks, 0, none⟩), .pointer (some ⟨kc, 0, none⟩), .int .i64 g.a, .int .i64 g.b, .int .i64 g.c, .int .i64 g.d] h2 ∧ ∃ p33 : Option Addr, ∃ p34 : Option Addr, ∃ p35 : Option Addr, ∃ i36 : Int, ∃ i37 : Int, ∃ i38 : Int, ∃ i39 : Int, CellsAt B h2 ⟨k14, 0, none⟩ 0 [(Value.pointer p33), (Value.pointer p34), (Value.pointer p35), (Value.int .i64 (i36)), (Value.int .i64 (i37)), (Value.int .i64 (i38)), (Value.int .i64 (i39))] ∧ Fin B h2 (Q p33 p34 p35 (i36) (i37) (i38) (i39)) := fun {kd ks kf kc h1} E1 => by
    refine ⟨_, stores_whole (E1.at 0 rfl) rfl (by simp) (by simp [isOne]) (by simp), ?_⟩
    have E2 := E1.put (o' := .vec TY.mark_State (plains [.pointer (some ⟨kd, 0, none⟩), .pointer (some ⟨ks, 0, none⟩), .pointer (some ⟨kc, 0, none⟩), .int .i64 g.a, .int .i64 g.b, .int .i64 g.c, .int .i64 g.d]) 7) 0 rfl
    refine ⟨_, _, _, _, _, _, _, ⟨E2.cell 0 rfl rfl, E2.cell 0 rfl rfl, E2.cell 0 rfl rfl, E2.cell 0 rfl rfl, E2.cell 0 rfl rfl, E2.cell 0 rfl rfl, E2.cell 0 rfl rfl, trivial⟩, Fin.of ?_⟩
    exact hQ ⟨kd, .slice none 0 0, none, ks, kf, .slice none 0 0, none, kc⟩ _ ⟨Row.nil _ _, Row.nil _ _⟩ (E2.picks [1, 9, 2, 3, 10, 4] (by decide))
  refine ⟨_, _, _, _, c12 E, fun k23 a23 b23 h24 e24 => ?_, ?_, fun k85 a85 b85 h86 e86 => ?_⟩
  · have E1 := E.made a23 b23 e24
    refine ⟨⟨E1.cell 0 rfl rfl, E1.cell 0 rfl rfl, E1.cell 0 rfl rfl, E1.cell 0 rfl rfl, trivial⟩, sheet_new_wp fun ks kf h26 E2 => ?_, fun k40 a40 b40 h41 e41 => ?_⟩
    · have E3 := E1.append E2
      refine ⟨⟨E3.cell 0 rfl rfl, E3.cell 0 rfl rfl, E3.cell 0 rfl rfl, E3.cell 0 rfl rfl, trivial⟩, fun k29 a29 b29 h30 e30 => ?_⟩
      have E4 := E3.made a29 b29 e30
      exact ⟨⟨E4.cell 0 rfl rfl, E4.cell 0 rfl rfl, E4.cell 0 rfl rfl, E4.cell 0 rfl rfl, trivial⟩, fin (E4.picks [1, 2, 3, 4, 6] (by decide))⟩
    · have E3 := E1.made a40 b40 e41
      refine ⟨⟨E3.cell 0 rfl rfl, E3.cell 0 rfl rfl, E3.cell 0 rfl rfl, E3.cell 0 rfl rfl, trivial⟩, sheet_new_wp fun ks kf h26 E2 => ?_⟩
      have E4 := E3.append E2
      exact ⟨⟨E4.cell 0 rfl rfl, E4.cell 0 rfl rfl, E4.cell 0 rfl rfl, E4.cell 0 rfl rfl, trivial⟩, fin (E4.picks [1, 2, 4, 5, 3] (by decide))⟩
  · refine sheet_new_wp fun ks kf h54 E2 => ?_
    have E3 := E.append E2
    refine ⟨⟨E3.cell 0 rfl rfl, E3.cell 0 rfl rfl, E3.cell 0 rfl rfl, E3.cell 0 rfl rfl, trivial⟩, fun k57 a57 b57 h58 e58 => ?_, fun k71 a71 b71 h72 e72 => ?_⟩
    · have E4 := E3.made a57 b57 e58
      refine ⟨⟨E4.cell 0 rfl rfl, E4.cell 0 rfl rfl, E4.cell 0 rfl rfl, E4.cell 0 rfl rfl, trivial⟩, fun k60 a60 b60 h61 e61 => ?_⟩
      have E5 := E4.made a60 b60 e61
      exact ⟨⟨E5.cell 0 rfl rfl, E5.cell 0 rfl rfl, E5.cell 0 rfl rfl, E5.cell 0 rfl rfl, trivial⟩, fin (E5.picks [1, 5, 2, 3, 6] (by decide))⟩
    · have E4 := E3.made a71 b71 e72
      refine ⟨⟨E4.cell 0 rfl rfl, E4.cell 0 rfl rfl, E4.cell 0 rfl rfl, E4.cell 0 rfl rfl, trivial⟩, fun k74 a74 b74 h75 e75 => ?_⟩
      have E5 := E4.made a74 b74 e75
      exact ⟨⟨E5.cell 0 rfl rfl, E5.cell 0 rfl rfl, E5.cell 0 rfl rfl, E5.cell 0 rfl rfl, trivial⟩, fin (E5.picks [1, 6, 2, 3, 5] (by decide))⟩
  · have E1 := E.made a85 b85 e86
    refine ⟨⟨E1.cell 0 rfl rfl, E1.cell 0 rfl rfl, E1.cell 0 rfl rfl, E1.cell 0 rfl rfl, trivial⟩, fun k88 a88 b88 h89 e89 => ?_, sheet_new_wp fun ks kf h102 E2 => ?_⟩
    · have E3 := E1.made a88 b88 e89
      refine ⟨⟨E3.cell 0 rfl rfl, E3.cell 0 rfl rfl, E3.cell 0 rfl rfl, E3.cell 0 rfl rfl, trivial⟩, sheet_new_wp fun ks kf h91 E2 => ?_⟩
      have E4 := E3.append E2
      exact ⟨⟨E4.cell 0 rfl rfl, E4.cell 0 rfl rfl, E4.cell 0 rfl rfl, E4.cell 0 rfl rfl, trivial⟩, fin (E4.picks [1, 3, 4, 5, 2] (by decide))⟩
    · have E3 := E1.append E2
      refine ⟨⟨E3.cell 0 rfl rfl, E3.cell 0 rfl rfl, E3.cell 0 rfl rfl, E3.cell 0 rfl rfl, trivial⟩, fun k105 a105 b105 h106 e106 => ?_⟩
      have E4 := E3.made a105 b105 e106
      exact ⟨⟨E4.cell 0 rfl rfl, E4.cell 0 rfl rfl, E4.cell 0 rfl rfl, E4.cell 0 rfl rfl, trivial⟩, fin (E4.picks [1, 6, 3, 4, 2] (by decide))⟩
theorem state_copy_wp {Q : Option Addr → Option Addr → Option Addr → Int → Int → Int → Int → Heap → Prop} (E : Keep B h0 L h) (A : StAt L i x s) (O : x.Ok s) (hd : s.d.length ≤ 100000) (hf : s.f.length ≤ 100000) (hQ : ∀ x' h', StI.Ok x' s → Keep B h0 (L ++ x'.e s) h' → Q (some ⟨x'.kd, 0, none⟩) (some ⟨x'.ks, 0, none⟩) (some ⟨x'.kc, 0, none⟩) g.a g.b g.c g.d h') : C_mark_State_Copy B (some ⟨x.kd, 0, none⟩) (some ⟨x.ks, 0, none⟩) (some ⟨x.kc, 0, none⟩) g.a g.b g.c g.d h Q := by
  refine C_mark_State_Copy.of ?_
  unfold S_mark_State_Copy
  intro k15 a15 b15 h16 e16 k17 a17 b17 h18 e18
  have E1 := (E.made a15 b15 e16).made a17 b17 e18
  have g15 : ∀ {M : List (Option (Nat × AObj))} {h1 : Heap}, Keep B h0 (L ++ [some (k15, AObj.vec TY.mark_State (plains [.pointer (some ⟨x.kd, 0, none⟩), .pointer (some ⟨x.ks, 0, none⟩), .pointer (some ⟨x.kc, 0, none⟩), .int .i64 g.a, .int .i64 g.b, .int .i64 g.c, .int .i64 g.d]) 7)] ++ M) h1 → h1 k15 = some (AObj.vec TY.mark_State (plains [.pointer (some ⟨x.kd, 0, none⟩), .pointer (some ⟨x.ks, 0, none⟩), .pointer (some ⟨x.kc, 0, none⟩), .int .i64 g.a, .int .i64 g.b, .int .i64 g.c, .int .i64 g.d]) 7) := fun {M h1} E2 => E2.at L.length (up_app _ (by rw [List.getElem?_append_right (Nat.le_refl _), Nat.sub_self]; rfl))
  have c15 : ∀ {h1 : Heap}, h1 k15 = some (AObj.vec TY.mark_State (plains [.pointer (some ⟨x.kd, 0, none⟩), .pointer (some ⟨x.ks, 0, none⟩), .pointer (some ⟨x.kc, 0, none⟩), .int .i64 g.a, .int .i64 g.b, .int .i64 g.c, .int .i64 g.d]) 7) → cellH B h1 ⟨k15, 0, none⟩ = some (Value.pointer (some ⟨x.kd, 0, none⟩)) ∧ cellH B h1 ⟨k15, 1, none⟩ = some (Value.pointer (some ⟨x.ks, 0, none⟩)) ∧ cellH B h1 ⟨k15, 2, none⟩ = some (Value.pointer (some ⟨x.kc, 0, none⟩)) ∧ CellsAt B h1 ⟨k15, 3, none⟩ 0 [(Value.int .i64 (g.a)), (Value.int .i64 (g.b)), (Value.int .i64 (g.c)), (Value.int .i64 (g.d))] := fun g0 => ⟨cellH_vec g0 rfl, cellH_vec g0 rfl, cellH_vec g0 rfl, cellH_vec g0 rfl, cellH_vec g0 rfl, cellH_vec g0 rfl, cellH_vec g0 rfl, trivial⟩
  obtain ⟨q1, q2, q3, q4⟩ := c15 (g15 E1)
  refine ⟨_, q1, _, q2, _, q3, _, _, _, _, q4, ?_⟩
  have A1 := (A.app (M := [some (k15, AObj.vec TY.mark_State (plains [.pointer (some ⟨x.kd, 0, none⟩), .pointer (some ⟨x.ks, 0, none⟩), .pointer (some ⟨x.kc, 0, none⟩), .int .i64 g.a, .int .i64 g.b, .int .i64 g.c, .int .i64 g.d]) 7)])).app (M := [some (k17, AObj.vec TY.mark_State (plains [.pointer none, .pointer none, .pointer none, .int .i64 0, .int .i64 0, .int .i64 0, .int .i64 0]) 7)])
  refine copy_int_wp E1 A1.d O.d hd fun kd vd rd h34 Rd E2 => ?_
  rw [List.append_assoc] at E2
  obtain ⟨q1, q2, q3, q4⟩ := c15 (g15 E2)
  refine ⟨q1, q2, q3, q4, ?_⟩
  rw [← List.append_assoc] at E2
  refine sheet_copy_wp E2 (A1.app (M := drE_int kd vd rd)) O hf fun ks kf vf rf h40 Rf E3 => ?_
  have E3' := E3
  rw [List.append_assoc, List.append_assoc] at E3'
  obtain ⟨q1, q2, q3, q4⟩ := c15 (g15 E3')
  refine ⟨q1, q2, q3, q4, ?_⟩
  refine cursor_copy_wp E3 ((A1.app (M := drE_int kd vd rd)).app (M := [some (ks, shO kf), some (kf, drO_file_File vf), rf])) fun kc h46 E4 => ?_
  have E4' := E4
  rw [List.append_assoc, List.append_assoc, List.append_assoc] at E4'
  obtain ⟨q1, q2, q3, q4⟩ := c15 (g15 E4')
  refine ⟨q1, q2, q3, q4, ?_⟩
  have hi17 : (L ++ [some (k15, AObj.vec TY.mark_State (plains [.pointer (some ⟨x.kd, 0, none⟩), .pointer (some ⟨x.ks, 0, none⟩), .pointer (some ⟨x.kc, 0, none⟩), .int .i64 g.a, .int .i64 g.b, .int .i64 g.c, .int .i64 g.d]) 7)] ++ [some (k17, AObj.vec TY.mark_State (plains [.pointer none, .pointer none, .pointer none, .int .i64 0, .int .i64 0, .int .i64 0, .int .i64 0]) 7)] ++ drE_int kd vd rd ++ [some (ks, shO kf), some (kf, drO_file_File vf), rf] ++ [some (kc, curO s)])[L.length + 1]? = some (some (k17, AObj.vec TY.mark_State (plains [.pointer none, .pointer none, .pointer none, .int .i64 0, .int .i64 0, .int .i64 0, .int .i64 0]) 7)) := by
    refine up_app _ (up_app _ (up_app _ ?_))
    rw [List.append_assoc, List.getElem?_append_right (by omega), show L.length + 1 - L.length = 1 by omega]; rfl
  refine ⟨_, stores_whole (E4.at _ hi17) rfl (by simp) (by simp [isOne]) (by simp), ?_⟩
  have E5 := E4.put (o' := .vec TY.mark_State (plains [.pointer (some ⟨kd, 0, none⟩), .pointer (some ⟨ks, 0, none⟩), .pointer (some ⟨kc, 0, none⟩), .int .i64 g.a, .int .i64 g.b, .int .i64 g.c, .int .i64 g.d]) 7) (L.length + 1) hi17
  have g17 := E5.at (L.length + 1) (by rw [List.getElem?_set_self (List.getElem?_eq_some_iff.1 hi17).1])
  refine ⟨_, _, _, _, _, _, _, ⟨cellH_vec g17 rfl, cellH_vec g17 rfl, cellH_vec g17 rfl, cellH_vec g17 rfl, cellH_vec g17 rfl, cellH_vec g17 rfl, cellH_vec g17 rfl, trivial⟩, Fin.of ?_⟩
  refine hQ ⟨kd, vd, rd, ks, kf, vf, rf, kc⟩ _ ⟨Rd, Rf⟩ ?_
  have e5 : (L ++ [some (k15, AObj.vec TY.mark_State (plains [.pointer (some ⟨x.kd, 0, none⟩), .pointer (some ⟨x.ks, 0, none⟩), .pointer (some ⟨x.kc, 0, none⟩), .int .i64 g.a, .int .i64 g.b, .int .i64 g.c, .int .i64 g.d]) 7)] ++ [some (k17, AObj.vec TY.mark_State (plains [.pointer none, .pointer none, .pointer none, .int .i64 0, .int .i64 0, .int .i64 0, .int .i64 0]) 7)] ++ drE_int kd vd rd ++ [some (ks, shO kf), some (kf, drO_file_File vf), rf] ++ [some (kc, curO s)]).set (L.length + 1) (some (k17, .vec TY.mark_State (plains [.pointer (some ⟨kd, 0, none⟩), .pointer (some ⟨ks, 0, none⟩), .pointer (some ⟨kc, 0, none⟩), .int .i64 g.a, .int .i64 g.b, .int .i64 g.c, .int .i64 g.d]) 7)) = L ++ ([some (k15, AObj.vec TY.mark_State (plains [.pointer (some ⟨x.kd, 0, none⟩), .pointer (some ⟨x.ks, 0, none⟩), .pointer (some ⟨x.kc, 0, none⟩), .int .i64 g.a, .int .i64 g.b, .int .i64 g.c, .int .i64 g.d]) 7), some (k17, .vec TY.mark_State (plains [.pointer (some ⟨kd, 0, none⟩), .pointer (some ⟨ks, 0, none⟩), .pointer (some ⟨kc, 0, none⟩), .int .i64 g.a, .int .i64 g.b, .int .i64 g.c, .int .i64 g.d]) 7)] ++ StI.e ⟨kd, vd, rd, ks, kf, vf, rf, kc⟩ s) := by
    simp only [List.append_assoc]
    rw [List.set_append_right _ _ (by omega), show L.length + 1 - L.length = 1 by omega]
    rfl
  rw [e5] at E5
  exact E5.dropMid
theorem MRow.len (R : MRow r (.slice a m c) l) : m = l.length := (Row.rd (B := fun _ => none) R MarkR.len (by omega)).1
theorem stack_len_wp {Q : Int → Heap → Prop} (E : Keep B h0 L h) (A : SkAt L i k v r) (R : MRow r v l) (hQ : Q (l.length : Nat) h) : C_mark_Stack_Len B (some ⟨k, 0, none⟩) h Q := by
  refine C_mark_Stack_Len.of ?_
  unfold S_mark_Stack_Len
  obtain ⟨a, m, c, rfl⟩ := Row.slice R
  obtain rfl := MRow.len R
  exact ⟨fun e => (by cases e), fun _ => ⟨_, rfl, .inl ⟨a, _, c, E.cell i A.p rfl, Fin.of hQ⟩⟩⟩
theorem push_wp {Q : Bool → Heap → Prop} (E : Keep B h0 L h) (A : SkAt L i k v r) (R : MRow r v l) (hl : l.length ≤ 10000) (S : StAt L j x s) (O : x.Ok s) (hd : s.d.length ≤ 100000) (hf : s.f.length ≤ 100000)
    (hQ : ∀ x' v' r' h', StI.Ok x' s → MRow r' v' (l ++ [⟨x', g, mm, place⟩]) → Keep B h0 ((L.set i (some (k, skO v'))).set (i + 1) r' ++ x'.e s) h' → Q true h') : C_mark_Stack_Push B (some ⟨k, 0, none⟩) (some ⟨x.kd, 0, none⟩) (some ⟨x.ks, 0, none⟩) (some ⟨x.kc, 0, none⟩) g.a g.b g.c g.d mm.a mm.b mm.c mm.d place h Q := by
  refine C_mark_Stack_Push.of ?_
  unfold S_mark_Stack_Push
  have hil : i < L.length := (List.getElem?_eq_some_iff.1 A.p).1
  have hil1 : i + 1 < L.length := (List.getElem?_eq_some_iff.1 A.q).1
  intro k15 a15 b15 h16 e16
  have E1 := E.made a15 b15 e16
  have g1 := E1.last
  obtain ⟨a, m, c, rfl⟩ := Row.slice R
  obtain rfl := MRow.len R
  have hfl := flatMap_length MarkR.len l
  refine ⟨fun e => (by cases e), fun _ => ⟨_, _, _, _, _, _, _, ⟨cellH_vec g1 rfl, cellH_vec g1 rfl, cellH_vec g1 rfl, cellH_vec g1 rfl, cellH_vec g1 rfl, cellH_vec g1 rfl, cellH_vec g1 rfl, trivial⟩, ?_⟩⟩
  refine state_copy_wp (g := g) E1 S.app O hd hf fun x' h25 O' E2 => ?_
  have mid : ∀ (y : Option (Nat × AObj)) (M : List (Option (Nat × AObj))), (L ++ [y] ++ M)[L.length]? = some y := fun y M => up_app _ (by rw [List.getElem?_append_right (Nat.le_refl _), Nat.sub_self]; rfl)
  have midset : ∀ (y z : Option (Nat × AObj)) (M : List (Option (Nat × AObj))), (L ++ [y] ++ M).set L.length z = L ++ [z] ++ M := fun y z M => by
    rw [List.append_assoc, List.set_append_right _ _ (Nat.le_refl _), Nat.sub_self, List.append_assoc]; rfl
  obtain ⟨h33, s1, -, s3⟩ := StoresAt.over (k := k15) (nn := 12) (t := TY.mark_Mark) [.pointer (some ⟨x'.kd, 0, none⟩), .pointer (some ⟨x'.ks, 0, none⟩), .pointer (some ⟨x'.kc, 0, none⟩), .int .i64 g.a, .int .i64 g.b, .int .i64 g.c, .int .i64 g.d] h25 0 0 [] (MarkR.cells ⟨x, g, mm, place⟩) (by simp [isOne]) (E2.at L.length (mid _ _)) rfl (by simp)
  have s4 := s3 (by simp)
  refine ⟨h33, s1, _, rfl, a, l.length, c, ?_⟩
  have E3 := E2.put (o' := .vec TY.mark_Mark (plains (MarkR.cells ⟨x', g, mm, place⟩)) 12) L.length (mid _ _)
  rw [midset] at E3
  have e3 : h33 = h25.set k15 (.vec TY.mark_Mark (plains (MarkR.cells ⟨x', g, mm, place⟩)) 12) := s4
  rw [← e3] at E3
  have gp : ∀ {M : List (Option (Nat × AObj))} {h1 : Heap}, Keep B h0 (L ++ M) h1 → cellH B h1 ⟨k, 0, none⟩ = some (.slice a l.length c) := fun {M h1} E4 => E4.cell i (up_app _ A.p) rfl
  have gc : ∀ {M : List (Option (Nat × AObj))} {h1 : Heap}, Keep B h0 (L ++ [some (k15, .vec TY.mark_Mark (plains (MarkR.cells ⟨x', g, mm, place⟩)) 12)] ++ M) h1 → CellsAt B h1 ⟨k15, 0, none⟩ 0 (MarkR.cells ⟨x', g, mm, place⟩) := fun {M h1} E4 => CellsAt.of_vec (MarkR.cells ⟨x', g, mm, place⟩) 0 (E4.at L.length (mid _ _)) fun j y hj => by rw [plains_get, Nat.zero_add, hj]; rfl
  have E3a := E3
  rw [List.append_assoc] at E3a
  refine ⟨gp E3a, _, _, _, _, _, _, _, _, _, _, _, _, gc E3, fun k57 a57 b57 h58 e58 => ?_⟩
  have E4 := E3.made a57 b57 e58
  have E4a := E4
  rw [List.append_assoc, List.append_assoc] at E4a
  have E4b := E4
  rw [List.append_assoc (L ++ _)] at E4b
  refine ⟨gp E4a, gc E4b, ?_⟩
  have g57 := E4.last
  refine E4.pushS (i + 1) (n := 1) (ys := MarkR.cells ⟨x', g, mm, place⟩) (up_app _ (up_app _ (up_app _ A.q))) R TK.slc_mark TK.zero_mark rfl (by omega) (by omega) TK.sl_mark ⟨rfl, MarkR.one _, .inl ⟨_, _, rfl, CellsAt.of_vec (MarkR.cells ⟨x', g, mm, place⟩) 0 g57 fun j y hj => by show (plains (MarkR.cells ⟨x', g, mm, place⟩))[_]? = _; rw [plains_get, Nat.zero_add, hj]; rfl⟩⟩ (by rw [hfl, MarkR.len]; omega) fun a' m' c' r' h61 R' E5 => ?_
  have hset : ∀ (N : List (Option (Nat × AObj))) (y : Option (Nat × AObj)), (L ++ N).set (i + 1) y = L.set (i + 1) y ++ N := fun N y => List.set_append_left _ _ hil1
  rw [List.append_assoc, List.append_assoc, hset] at E5
  have hp5 : (L.set (i + 1) r' ++ ([some (k15, .vec TY.mark_Mark (plains (MarkR.cells ⟨x', g, mm, place⟩)) 12)] ++ (x'.e s ++ [some (k57, .vec TY.mark_Mark (plains (MarkR.cells ⟨x', g, mm, place⟩)) 12)])))[i]? = some (some (k, skO (.slice a l.length c))) := up_app _ (by rw [List.getElem?_set_ne (by omega)]; exact A.p)
  refine ⟨_, _, _, rfl, E5.cell i hp5 rfl, ?_, _, rfl, ?_⟩
  · have g6 := E5.at L.length (k := k15) (o := .vec TY.mark_Mark (plains (MarkR.cells ⟨x', g, mm, place⟩)) 12) (by rw [List.getElem?_append_right (Nat.le_of_eq (List.length_set ..)), List.length_set, Nat.sub_self]; rfl)
    exact CellsAt.of_vec (MarkR.cells ⟨x', g, mm, place⟩) 0 g6 fun j y hj => by rw [plains_get, Nat.zero_add, hj]; rfl
  · obtain ⟨es, E6⟩ := E5.store i 0 (.slice a' m' c') hp5 rfl
    refine ⟨_, es, Fin.of (hQ x' (.slice a' m' c') r' _ O' ?_ ?_)⟩
    · unfold MRow; rw [List.flatMap_append]; exact R'
    · rw [List.set_append_left _ _ (by rw [List.length_set]; omega), List.set_comm _ _ (by omega)] at E6
      rw [← List.append_assoc, ← List.append_assoc] at E6
      have E7 := Keep.pop E6
      rw [List.append_assoc] at E7
      exact E7.dropMid
end
end Go.Proofs.Ythloobpjkeodgaa.H

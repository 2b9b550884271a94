/- The law ActsDoes: the walk. No condition. -/
import Derived.Test.YthloobpjkeodgaaAg
import Derived.Test.YthloobpjkeodgaaHk
import Derived.Test.YthloobpjkeodgaaHl
namespace Go.Proofs.Ythloobpjkeodgaa.H
open Go Go.RowKit
set_option linter.unusedVariables false
set_option maxRecDepth 100000

structure StepR where
  c : ActR
  m0 : Int
  m1 : Int
  m2 : Int
  m3 : Int
def StepR.cells (x : StepR) : List Value := [.int .i64 x.c.kind, .int .i64 x.c.a, .int .i64 x.c.b, .int .i64 x.m0, .int .i64 x.m1, .int .i64 x.m2, .int .i64 x.m3]
theorem TK.steps16_sl : PG.underlying TY.s_countermandlaw16_Step = some (.slice TY.countermandlaw16_Step) := by kernel_rfl
theorem TK.step16_kd : leafB PG 5 TY.countermandlaw16_Step = some [.int .i64, .int .i64, .int .i64, .int .i64, .int .i64, .int .i64, .int .i64] := by kernel_rfl
theorem StepR_arg {H : Type} {enc : TypeId × Value → H} {w : World} {base : Nat} {spare : Nat → Bool} {held : Bool} {a : Option Addr} {len cap : Nat} {d : DataW H} {p : List MemPlace} (h : DataW.Trod enc PG w base spare held TY.s_countermandlaw16_Step (.slice a len cap) d p) :
    ∃ l : List StepR, len = l.length ∧ Reads (roOf w) noHeap a 7 StepR.cells l ∧ ∀ x ∈ l, True :=
  arg_rows StepR.cells (fun x => True) TK.steps16_sl TK.step16_kd rfl (by omega) (fun vs h => by
    obtain ⟨z1, v1, rfl, _, h1⟩ := h.int
    obtain ⟨z2, v2, rfl, _, h2⟩ := h1.int
    obtain ⟨z3, v3, rfl, _, h3⟩ := h2.int
    obtain ⟨z4, v4, rfl, _, h4⟩ := h3.int
    obtain ⟨z5, v5, rfl, _, h5⟩ := h4.int
    obtain ⟨z6, v6, rfl, _, h6⟩ := h5.int
    obtain ⟨z7, v7, rfl, _, h7⟩ := h6.int
    obtain rfl := h7.nil
    exact ⟨⟨⟨z1, z2, z3⟩, z4, z5, z6, z7⟩, rfl, trivial⟩) h
abbrev AcRow (r : Option (Nat × AObj)) (v : Value) (l : List ActR) : Prop := Row r v TY.countermandref16_Act 3 (l.flatMap ActR.cells)
theorem AcRow.rd {B : RO} {r : Option (Nat × AObj)} {a : Option Addr} {m c : Nat} {l : List ActR} (R : AcRow r (.slice a m c) l) : m = l.length ∧ RowRd B r a 3 ActR.cells l := Row.rd R ActR_len (by omega)
theorem GoodK.sub {l m : List ActR} (h : GoodK l) (hs : ∀ x ∈ m, x ∈ l) : GoodK m := fun x hx => h x (hs x hx)

section
variable {B : RO} {h0 h h' : Heap} {a1 : Option Addr} {c3 n2 : Nat} {Q : Bool → Heap → Prop} {k8 : Nat} {x : ActV} {rA : Option (Nat × AObj)} {a : Option Addr} {c : Nat} {all : List ActR} {X : List (Option (Nat × AObj))}

/-! Of nil -/
theorem send_nil {t d : Int} (hQ : Q false h) : C_acts_Acts_Send B none t d h Q := by
  refine C_acts_Acts_Send.of ?_
  unfold S_acts_Acts_Send
  exact ⟨fun _ => Fin.of hQ, fun e => absurd rfl e⟩
theorem later_nil {t d : Int} (hQ : Q false h) : C_acts_Acts_Later B none t d h Q := by
  refine C_acts_Acts_Later.of ?_
  unfold S_acts_Acts_Later
  exact ⟨fun _ => Fin.of hQ, fun e => absurd rfl e⟩
theorem note_nil {t : Int} (hQ : Q false h) : C_acts_Acts_Note B none t h Q := by
  refine C_acts_Acts_Note.of ?_
  unfold S_acts_Acts_Note
  exact ⟨fun _ => Fin.of hQ, fun e => absurd rfl e⟩
theorem output_nil {Q : Option Addr → Nat → Nat → Heap → Prop} (hQ : Q none 0 0 h) : C_acts_Acts_Output B none h Q := by
  refine C_acts_Acts_Output.of ?_
  unfold S_acts_Acts_Output
  exact ⟨fun _ => Fin.of hQ, fun e => absurd rfl e⟩
theorem notes_nil {Q : Option Addr → Nat → Nat → Heap → Prop} (hQ : Q none 0 0 h) : C_acts_Acts_Notes B none h Q := by
  refine C_acts_Acts_Notes.of ?_
  unfold S_acts_Acts_Notes
  exact ⟨fun _ => Fin.of hQ, fun e => absurd rfl e⟩
theorem flush_nil {Q : Option Addr → Nat → Nat → Heap → Prop} (hQ : Q none 0 0 h) : C_acts_Acts_Flush B none h Q := by
  refine C_acts_Acts_Flush.of ?_
  unfold S_acts_Acts_Flush
  exact ⟨fun _ => Fin.of hQ, fun e => absurd rfl e⟩
/-- The step is done: all is what it must be, and the next one comes. -/
theorem ActsDoes_J4 {i49 i64 : Int} {m51 : Nat} {J54 : Option Addr → Nat → Nat → Int → Nat → Heap → Prop} (E : Keep B h0 (x.e k8 ++ (rA :: X)) h) (W : ARows (toS all) x) (R : AcRow rA (.slice a all.length c) all) (hl : all.length ≤ 1000)
    (hJ : ∀ h', Keep B h0 (x.e k8 ++ [rA]) h' → ∃ m', m' < m51 ∧ J54 a all.length c (IntKind.wrap .i64 (i49 + 1)) m' h') : S_countermandlaw16_ActsDoes_J4 B a1 n2 c3 k8 i49 m51 J54 i64 a all.length c h Q := by
  unfold S_countermandlaw16_ActsDoes_J4
  have ol := fun k => ofA_len all k
  refine output_wp (i := 0) E ⟨rfl, rfl, rfl, rfl, rfl⟩ W fun aO mO cO rO h85 RO E1 => ?_
  obtain ⟨rfl, hrdO⟩ := Row.rd (B := B) RO OutC_len (by omega)
  have rdA : ∀ {h' : Heap} {Y : List (Option (Nat × AObj))}, Keep B h0 (x.e k8 ++ (rA :: X) ++ Y) h' → Reads B h' a 3 ActR.cells all := fun E => (AcRow.rd R).2 _ fun k o e => E.at 5 (by rw [← e]; rfl)
  refine of16_wp (n := 0) (rdA E1) (by omega) fun a90 m90 c90 r90 h89 R90 E2' => ?_
  have E2 : Keep B h0 (x.e k8 ++ (rA :: X) ++ ([rO] ++ [r90])) h89 := by rw [← List.append_assoc]; exact E1.append E2'
  refine of16_wp (n := 1) (rdA E2) (by omega) fun a94 m94 c94 r94 h93 R94 E3' => ?_
  have E3 : Keep B h0 (x.e k8 ++ (rA :: X) ++ [rO] ++ [r90] ++ [r94]) h93 := by
    have := E2.append E3'
    simpa only [List.append_assoc] using this
  obtain ⟨hm90, hrd90⟩ := AcRow.rd (B := B) R90
  obtain ⟨hm94, hrd94⟩ := AcRow.rd (B := B) R94
  subst hm90 hm94
  have f90 := flatMap_length ActR_len (ofA all 0)
  have f94 := flatMap_length ActR_len (ofA all 1)
  have i90 : (x.e k8 ++ (rA :: X) ++ [rO] ++ [r90] ++ [r94])[(x.e k8 ++ (rA :: X) ++ [rO]).length]? = some r90 := by
    rw [List.getElem?_append_left (by simp), List.getElem?_append_right (Nat.le_refl _), Nat.sub_self]; rfl
  refine E3.pushS (x.e k8 ++ (rA :: X) ++ [rO]).length i90 R90 TK.slc_acts TK.zero_act rfl (by omega) (by omega) TK.sl_acts (Row.src (B := B) R94 (fun k o e => E3.get _ k o (by rw [List.getElem?_append_right (Nat.le_refl _), Nat.sub_self, e]; rfl)) ActR_len (by omega) ActR_one) (by have := ol 0; have := ol 1; rw [f90, f94]; omega) fun a98 m98 c98 r98 h97 R98 E4 => ?_
  have E5 : Keep B h0 (x.e k8 ++ (rA :: X) ++ [rO] ++ [r98]) h97 := by
    rw [List.set_append_left _ _ (by simp), List.set_append_right _ _ (Nat.le_refl _), Nat.sub_self] at E4
    exact E4.pop
  have R98' : AcRow r98 (.slice a98 m98 c98) (ofA all 0 ++ ofA all 1) := by unfold AcRow; rw [List.flatMap_append]; exact R98
  obtain ⟨hm98, hrd98⟩ := AcRow.rd (B := B) R98'
  refine ⟨a98, m98, c98, rfl, ?_⟩
  have ho : (ofA all 0 ++ ofA all 1).map outP = (toS all).outs ++ (toS all).later := by rw [List.map_append]; rfl
  refine outs16_wp (hrdO _ fun k o e => E5.pop.get _ k o (by rw [List.getElem?_append_right (Nat.le_refl _), Nat.sub_self, e]; rfl)) (hrd98 _ fun k o e => E5.get _ k o (by rw [List.getElem?_append_right (Nat.le_refl _), Nat.sub_self, e]; rfl)) ho rfl hm98 (by have := ol 0; have := ol 1; rw [List.length_append]; omega) ⟨fun _ => ?_, fun e => by cases e⟩
  have E6 : Keep B h0 (x.e k8 ++ (rA :: X)) h97 := E5.pop.pop
  refine undosA_wp (i := 0) E6 ⟨rfl, rfl, rfl, rfl, rfl⟩ W fun aU mU cU rU h103 RU E7 => ?_
  obtain ⟨rfl, hrdU⟩ := Row.rd (B := B) RU OpenC_len (by omega)
  refine undo16_wp (rdA E7) (by omega) fun aV mV cV rV h107 RV E8' => ?_
  have E8 := E7.append E8'
  obtain ⟨rfl, hrdV⟩ := AcRow.rd (B := B) RV
  refine opens16_wp (hrdU _ fun k o e => E8.popL.get _ k o (by rw [List.getElem?_append_right (Nat.le_refl _), Nat.sub_self, e]; rfl)) (hrdV _ fun k o e => E8.get _ k o (by rw [List.getElem?_append_right (Nat.le_refl _), Nat.sub_self, e]; rfl)) (undoA_openP all) rfl rfl (by unfold undoA; rw [List.length_map, List.length_reverse]; have := ol 3; omega) ⟨fun _ => Fin.of (hJ _ ?_), fun e => by cases e⟩
  have := E8.take 6
  exact this
theorem ActsDoes_J2 {i49 i64 : Int} {m51 : Nat} {J54 : Option Addr → Nat → Nat → Int → Nat → Heap → Prop} (E : Keep B h0 (x.e k8 ++ (rA :: X)) h) (W : ARows (toS all) x) (R : AcRow rA (.slice a all.length c) all) (hl : all.length ≤ 1000) (hg : GoodK all)
    (hJ : ∀ h', Keep B h0 (x.e k8 ++ [rA]) h' → ∃ m', m' < m51 ∧ J54 a all.length c (IntKind.wrap .i64 (i49 + 1)) m' h') : S_countermandlaw16_ActsDoes_J2 B a1 n2 c3 k8 i49 m51 J54 i64 a all.length c h Q := by
  unfold S_countermandlaw16_ActsDoes_J2
  have ol := fun k => ofA_len all k
  have rdA : ∀ {h' : Heap} {Y : List (Option (Nat × AObj))}, Keep B h0 (x.e k8 ++ (rA :: Y)) h' → Reads B h' a 3 ActR.cells all := fun E => (AcRow.rd R).2 _ fun k o e => E.at 5 (by rw [← e]; rfl)
  refine of16_wp (n := 2) (rdA E) (by omega) fun a74 m74 c74 r74 h73 R74 E1' => ?_
  have E1 := E.append E1'
  obtain ⟨rfl, hrd74⟩ := AcRow.rd (B := B) R74
  refine notes_wp (i := 0) E1 ⟨rfl, rfl, rfl, rfl, rfl⟩ W fun a78 m78 c78 r78 h77 R78 E2 => ?_
  obtain ⟨rfl, hrd78⟩ := Row.rd (B := B) R78 NoteC_len (by omega)
  have hn : (toS all).notes.length = (ofA all 2).length := List.length_map ..
  refine ⟨fun _ => ?_, fun n => absurd (by rw [hn]) n⟩
  refine marksA_wp (i := 0) E2 ⟨rfl, rfl, rfl, rfl, rfl⟩ W fun h128 E3 => count16_wp (rdA (Y := X ++ [r74] ++ [r78]) (by simpa only [List.cons_append, List.append_assoc] using E3)) (by omega) hg ⟨fun _ => Fin.of ?_, fun n => absurd ?_ n⟩
  · unfold S_countermandlaw16_ActsDoes_J3
    refine ⟨fun i m h' => ∃ j : Nat, j ≤ (toS all).notes.length ∧ i = j ∧ m = (toS all).notes.length - j ∧ h' = h128, (toS all).notes.length, Fin.of ⟨0, by omega, rfl, by omega, rfl⟩, ?_⟩
    rintro _ _ h114 ⟨j, hj, rfl, rfl, rfl⟩
    refine ⟨fun hlt => ?_, fun _ => Fin.of (ActsDoes_J4 (X := X ++ [r74] ++ [r78]) (by simpa only [List.cons_append, List.append_assoc] using E3) W R hl hJ)⟩
    have hj' : j < (ofA all 2).length := by rw [← hn]; omega
    have hlt' : (ofA all 2).length ≤ 1000 := by have := ol 2; omega
    have hw : IntKind.wrap .i64 ((j : Int) + 1) = ((j + 1 : Nat) : Int) := by rw [w64 (by omega) (by omega)]; omega
    have hg74 := List.getElem?_eq_getElem hj'
    generalize (ofA all 2)[j] = y at hg74
    have hg78 : (toS all).notes[j]? = some y.a := by
      show ((ofA all 2).map (·.a))[j]? = _
      rw [List.getElem?_map, hg74]; rfl
    obtain ⟨A1, e1, _, q1, _⟩ := hrd78 h114 (fun k o e => E3.get _ k o (by rw [List.getElem?_append_right (Nat.le_refl _), Nat.sub_self, e]; rfl)) j _ hg78
    obtain ⟨A2, f1, _, _, q2, _⟩ := hrd74 h114 (fun k o e => E3.pop.get _ k o (by rw [List.getElem?_append_right (Nat.le_refl _), Nat.sub_self, e]; rfl)) j _ hg74
    refine ⟨A1, e1, by omega, hlt, _, by rw [Int.toNat_natCast]; exact q1, A2, f1, by omega, by omega, _, by rw [Int.toNat_natCast]; exact q2, fun _ => Fin.of ⟨_, by omega, j + 1, by omega, hw, rfl, rfl⟩, fun n => absurd rfl n⟩
  · simp [eqL, leafEq, toS]
theorem nils16 (hQ : Q true h) : S_countermandlaw16_ActsDoes_J1 B h Q := by
  unfold S_countermandlaw16_ActsDoes_J1
  refine send_nil ⟨fun e => (by cases e), fun _ => later_nil ⟨fun e => (by cases e), fun _ => note_nil ⟨fun e => (by cases e), fun _ => opened_nil ⟨fun e => (by cases e), fun _ => output_nil (notes_nil (undos_nil (flush_nil ?_)))⟩⟩⟩⟩
  refine C_acts_Acts_Back.of ?_
  unfold S_acts_Acts_Back
  intro k9 a9 b9 h10 e10
  have E := (Keep.nil B h).made a9 b9 e10
  refine ⟨fun _ => Fin.ent E.back (Fin.of ⟨fun _ => ?_, fun n => absurd rfl n⟩), fun n => absurd rfl n⟩
  refine C_acts_Acts_Mark.of ?_
  unfold S_acts_Acts_Mark
  intro k6 a6 b6 h7 e7
  have E := (Keep.nil B h).made a6 b6 e7
  refine ⟨fun _ => ⟨_, stores_whole (E.at 0 rfl) rfl (by simp) (by simp [isOne]) (by simp), ?_⟩, fun n => absurd rfl n⟩
  have E := E.put (o' := .vec TY.acts_Mark (plains [.int .i64 0, .int .i64 0, .int .i64 0, .int .i64 0]) 4) 0 rfl
  refine ⟨_, _, _, _, ⟨E.cell 0 rfl rfl, E.cell 0 rfl rfl, E.cell 0 rfl rfl, E.cell 0 rfl rfl, trivial⟩, Fin.ent E.back (Fin.of (Fin.of ?_))⟩
  simpa [eqL, leafEq] using hQ
theorem flush_split {l s g : List ActR} (S : SplA (mk4 (l.length : Nat) 0 0 0) l s g) (hg : GoodK l) : toS g = { toS l with outs := [] } := by
  unfold toS
  rw [S.eg 0, S.eg 1, S.eg 2, S.eg 3]
  have := ofA_len l 0
  simp [mk4, List.drop_of_length_le this]
theorem ActsDoes_wp {list : List StepR} (hr : Reads B h a1 7 StepR.cells list) (hQ : Q true h) : C_countermandlaw16_ActsDoes B a1 list.length c3 h Q := by
  refine C_countermandlaw16_ActsDoes.of ?_
  unfold S_countermandlaw16_ActsDoes
  refine alive16_wp ⟨fun _ => ⟨fun _ => Fin.of hQ, fun hl => ?_⟩, fun e => by cases e⟩
  intro k8 a8 b8 h9 e9
  have E0 : Keep B h (ActV.z.e k8 ++ [none]) h9 := ((Keep.nil B h).made a8 b8 e9).gap.gap.gap.gap.gap
  refine ⟨fun a n c i m h' => ∃ (j : Nat) (x : ActV) (rA : Option (Nat × AObj)) (all : List ActR), j ≤ list.length ∧ i = j ∧ m = list.length - j ∧ n = all.length ∧ ARows (toS all) x ∧ AcRow rA (.slice a n c) all ∧ all.length ≤ j ∧ GoodK all ∧ Keep B h (x.e k8 ++ [rA]) h', list.length, Fin.of ⟨0, ActV.z, none, [], by omega, rfl, by omega, rfl, ARows.z, Row.nil _ _, by simp, fun x hx => by simp at hx, E0⟩, ?_⟩
  clear E0 e9
  rintro a46 _ c48 _ _ h50 ⟨j, x, rA, all, hj, rfl, rfl, rfl, W, R, hal, hg, E⟩
  refine ⟨fun hlt => ?_, fun _ => Fin.ent E.back (Fin.of (nils16 hQ))⟩
  have hj' : j < list.length := by omega
  have hw : IntKind.wrap .i64 ((j : Int) + 1) = ((j + 1 : Nat) : Int) := by rw [w64 (by omega) (by omega)]; omega
  obtain ⟨A, e1, _, e4⟩ := (hr.over E.le E.nw) j list[j] (List.getElem?_eq_getElem hj')
  generalize list[j] = st at e4
  refine ⟨A, e1, by omega, hlt, st.c.kind, st.c.a, st.c.b, st.m0, st.m1, st.m2, st.m3, e4, fun k65 a65 b65 h66 e66 => ?_⟩
  have E1 := E.made a65 b65 e66
  refine ⟨_, stores_whole (E1.at 6 rfl) rfl (by simp) (by simp [isOne]) (by simp), ?_⟩
  have E2 : Keep B h (x.e k8 ++ (rA :: [some (k65, .vec TY.countermandlaw16_Step (plains st.cells) 7)])) _ := E1.put (o' := .vec TY.countermandlaw16_Step (plains st.cells) 7) 6 rfl
  clear E1 e66
  have cells3 : ∀ {h' : Heap} {x : ActV} {rA : Option (Nat × AObj)} {Y : List (Option (Nat × AObj))}, Keep B h (x.e k8 ++ (rA :: some (k65, .vec TY.countermandlaw16_Step (plains st.cells) 7) :: Y)) h' → CellsAt B h' ⟨k65, 0, none⟩ 0 [(Value.int .i64 st.c.kind), (Value.int .i64 st.c.a), (Value.int .i64 st.c.b)] := fun E => ⟨E.cell 6 rfl rfl, E.cell 6 rfl rfl, E.cell 6 rfl rfl, trivial⟩
  have cells4 : ∀ {h' : Heap} {x : ActV} {rA : Option (Nat × AObj)} {Y : List (Option (Nat × AObj))}, Keep B h (x.e k8 ++ (rA :: some (k65, .vec TY.countermandlaw16_Step (plains st.cells) 7) :: Y)) h' → CellsAt B h' ⟨k65, 3, none⟩ 0 [(Value.int .i64 st.m0), (Value.int .i64 st.m1), (Value.int .i64 st.m2), (Value.int .i64 st.m3)] := fun E => ⟨by rw [addr_more]; exact E.cell 6 rfl rfl, by rw [addr_more]; exact E.cell 6 rfl rfl, by rw [addr_more]; exact E.cell 6 rfl rfl, by rw [addr_more]; exact E.cell 6 rfl rfl, trivial⟩
  let J : Option Addr → Nat → Nat → Int → Nat → Heap → Prop := fun a n c i m h' => ∃ (j : Nat) (x : ActV) (rA : Option (Nat × AObj)) (all : List ActR), j ≤ list.length ∧ i = j ∧ m = list.length - j ∧ n = all.length ∧ ARows (toS all) x ∧ AcRow rA (.slice a n c) all ∧ all.length ≤ j ∧ GoodK all ∧ Keep B h (x.e k8 ++ [rA]) h'
  have next : ∀ {h' : Heap} {x : ActV} {rA : Option (Nat × AObj)} {all : List ActR} {a : Option Addr} {c : Nat} {Y : List (Option (Nat × AObj))}, all.length ≤ j + 1 → ARows (toS all) x → AcRow rA (.slice a all.length c) all → GoodK all → Keep B h (x.e k8 ++ (rA :: Y)) h' → S_countermandlaw16_ActsDoes_J2 B a1 list.length c3 k8 j (list.length - j) J st.m3 a all.length c h' Q := fun {h' x rA all a c Y} hal W R hg E =>
    ActsDoes_J2 E W R (by omega) hg fun h2 E2 => ⟨list.length - (j + 1), by omega, j + 1, x, rA, all, by omega, hw, rfl, rfl, W, R, hal, hg, E2⟩
  have rdA : ∀ {h' : Heap} {Y : List (Option (Nat × AObj))}, Keep B h (x.e k8 ++ (rA :: Y)) h' → Reads B h' a46 3 ActR.cells all := fun E => (AcRow.rd R).2 _ fun k o e => E.at 5 (by rw [← e]; rfl)
  have ol := fun k => ofA_len all k
  have J5t : ∀ {h67 : Heap}, Keep B h (x.e k8 ++ (rA :: [some (k65, .vec TY.countermandlaw16_Step (plains st.cells) 7)])) h67 → (0 ≤ st.c.kind ∧ st.c.kind < 4) → S_countermandlaw16_ActsDoes_J5 B a1 list.length c3 k8 a46 all.length c48 j (list.length - j) J st.m3 k65 st.c.kind true h67 Q := fun {h67} E2 hk => by
    unfold S_countermandlaw16_ActsDoes_J5
    refine ⟨fun _ => ⟨_, _, _, cells3 E2, _, _, _, cells3 E2, ?_⟩, fun e => by cases e⟩
    have W' := W
    refine does_wp (i := 0) E2 ⟨rfl, rfl, rfl, rfl, rfl⟩ W (by show ((ofA all 0).map outP).length < 10000; rw [List.length_map]; have := ol 0; omega) (by show ((ofA all 1).map outP).length < 10000; rw [List.length_map]; have := ol 1; omega) (by show ((ofA all 2).map (·.a)).length < 10000; rw [List.length_map]; have := ol 2; omega) (by show ((ofA all 3).map openP).length < 10000; rw [List.length_map]; have := ol 3; omega) fun x' h213 W' E3 => ?_
    have E3 : Keep B h (x'.e k8 ++ (rA :: [some (k65, .vec TY.countermandlaw16_Step (plains st.cells) 7)])) h213 := E3
    rw [toS_do all st.c hk.1 hk.2] at W'
    refine ⟨cells3 E3, cells3 E3, good16_wp hk.1 hk.2 ⟨cells3 E3, cells3 E3, fun _ => ⟨_, _, _, cells3 E3, good16_wp hk.1 hk.2 ⟨fun hgd => ?_, fun hgd => Fin.of ?_⟩⟩, fun n => absurd rfl n⟩⟩
    · rw [if_pos hgd] at W'
      refine ⟨_, _, _, cells3 E3, fun k230 a230 b230 h231 e231 => ?_⟩
      have fl := flatMap_length ActR_len all
      refine E3.push1 5 rfl R TK.slc_acts TK.zero_act rfl (by omega) (by omega) TK.sl_acts rfl (ActR_one st.c) (by rw [fl, ActR_len]; omega) a230 b230 e231 fun a' m' c' r' h' R' E4 => ?_
      have R2 : AcRow r' (.slice a' m' c') (all ++ [st.c]) := by
        unfold AcRow
        rw [List.flatMap_append]
        simpa using R'
      obtain ⟨hm', -⟩ := AcRow.rd (B := B) R2
      subst hm'
      exact ⟨a', _, c', rfl, Fin.of (next (by simp; omega) W' R2 (fun y hy => by
        rcases List.mem_append.1 hy with hy | hy
        · exact hg y hy
        · rw [List.mem_singleton] at hy; subst hy; exact hk) E4)⟩
    · rw [if_neg (by rw [hgd]; simp)] at W'
      exact next (by omega) W' R hg E3
  have J5f : ∀ {h67 : Heap}, Keep B h (x.e k8 ++ (rA :: [some (k65, .vec TY.countermandlaw16_Step (plains st.cells) 7)])) h67 → S_countermandlaw16_ActsDoes_J5 B a1 list.length c3 k8 a46 all.length c48 j (list.length - j) J st.m3 k65 st.c.kind false h67 Q := fun {h67} E2 => by
    unfold S_countermandlaw16_ActsDoes_J5
    refine ⟨fun e => (by cases e), fun _ => ⟨fun h4 => ?_, fun n4 => ⟨fun h5 => ?_, fun n5 => Fin.ent E2.back (Fin.of hQ)⟩⟩⟩
    · refine ⟨_, _, _, _, cells4 E2, fun i m h' => ∃ q : Nat, q ≤ 4 ∧ i = q ∧ m = 4 - q ∧ h' = h67 ∧ (1 ≤ q → 0 ≤ st.m0) ∧ (2 ≤ q → 0 ≤ st.m1) ∧ (3 ≤ q → 0 ≤ st.m2) ∧ (4 ≤ q → 0 ≤ st.m3), 4, Fin.of ⟨0, by omega, rfl, rfl, rfl, by omega, by omega, by omega, by omega⟩, ?_⟩
      rintro _ _ h176 ⟨q, hq, rfl, rfl, rfl, p0, p1, p2, p3⟩
      refine ⟨fun hlt => ?_, fun _ => Fin.of ?_⟩
      · have hwq : IntKind.wrap .i64 ((q : Int) + 1) = ((q + 1 : Nat) : Int) := by rw [w64 (by omega) (by omega)]; omega
        have hq4 : q = 0 ∨ q = 1 ∨ q = 2 ∨ q = 3 := by omega
        rcases hq4 with rfl | rfl | rfl | rfl
        · exact ⟨by omega, by omega, st.m0, rfl, fun _ => Fin.ent E2.back (Fin.of hQ), fun hn => Fin.of ⟨3, by omega, 1, by omega, hwq, rfl, rfl, by omega, by omega, by omega, by omega⟩⟩
        · exact ⟨by omega, by omega, st.m1, rfl, fun _ => Fin.ent E2.back (Fin.of hQ), fun hn => Fin.of ⟨2, by omega, 2, by omega, hwq, rfl, rfl, by omega, by omega, by omega, by omega⟩⟩
        · exact ⟨by omega, by omega, st.m2, rfl, fun _ => Fin.ent E2.back (Fin.of hQ), fun hn => Fin.of ⟨1, by omega, 3, by omega, hwq, rfl, rfl, by omega, by omega, by omega, by omega⟩⟩
        · exact ⟨by omega, by omega, st.m3, rfl, fun _ => Fin.ent E2.back (Fin.of hQ), fun hn => Fin.of ⟨0, by omega, 4, by omega, hwq, rfl, rfl, by omega, by omega, by omega, by omega⟩⟩
      · unfold S_countermandlaw16_ActsDoes_J6
        refine ⟨_, _, _, _, cells4 E2, first16_wp (rdA E2) (by omega) hg fun a151 m151 c151 r151 a154 m154 c154 r154 s g h150 S R1 R2 E3' => ?_⟩
        have E3 : Keep B h (x.e k8 ++ (rA :: some (k65, .vec TY.countermandlaw16_Step (plains st.cells) 7) :: [r151, r154])) h150 := E2.append E3'
        obtain ⟨rfl, hrd1⟩ := AcRow.rd (B := B) R1
        obtain ⟨rfl, hrd2⟩ := AcRow.rd (B := B) R2
        refine ⟨_, _, _, _, cells4 E3, backA_wp (i := 0) E3 ⟨rfl, rfl, rfl, rfl, rfl⟩ W fun aU mU cU rU x' h161 RU W' E4 => ?_⟩
        have E4 : Keep B h (x'.e k8 ++ (rA :: some (k65, .vec TY.countermandlaw16_Step (plains st.cells) 7) :: [r151, r154, rU])) h161 := E4
        obtain ⟨rfl, hrdU⟩ := Row.rd (B := B) RU OpenC_len (by omega)
        have hgl := S.lg
        have hsl := S.ls
        refine undo16_wp (hrd2 _ fun k o e => E4.at 8 (by rw [← e]; rfl)) (by omega) fun aV mV cV rV h165 RV E5' => ?_
        have E5 : Keep B h (x'.e k8 ++ (rA :: some (k65, .vec TY.countermandlaw16_Step (plains st.cells) 7) :: [r151, r154, rU, rV])) h165 := E4.append E5'
        obtain ⟨rfl, hrdV⟩ := AcRow.rd (B := B) RV
        have hug : (undoA g).map openP = undoL ((toS all).opens.drop (min (toS all).opens.length st.m3.toNat)) := by
          rw [undoA_openP]
          congr 1
          have := S.eg 3
          rw [this, List.map_drop]
          show ((ofA all 3).map openP).drop st.m3.toNat = ((ofA all 3).map openP).drop _
          have hdm : ∀ (l : List (Int × Int)) (n : Nat), l.drop n = l.drop (min l.length n) := fun l n => by
            rcases Nat.le_total l.length n with hle | hle
            · rw [Nat.min_eq_left hle, List.drop_of_length_le hle, List.drop_length]
            · rw [Nat.min_eq_right hle]
          exact hdm _ _
        refine opens16_wp (hrdU _ fun k o e => E5.at 9 (by rw [← e]; rfl)) (hrdV _ fun k o e => E5.at 10 (by rw [← e]; rfl)) hug rfl rfl (by unfold undoA; rw [List.length_map, List.length_reverse]; have := ofA_len g 3; omega) ⟨fun _ => Fin.of ?_, fun e => by cases e⟩
        rw [← toS_stay S] at W'
        exact next (Y := []) (by omega) W' R1 (hg.sub S.ms) (E5.picks [0, 1, 2, 3, 4, 7] (by decide))
    · refine flush_wp (i := 0) E2 ⟨rfl, rfl, rfl, rfl, rfl⟩ W fun aF mF cF h185 RF W' E3 => ?_
      obtain ⟨rfl, hrdF⟩ := Row.rd (B := B) RF OutC_len (by omega)
      have E3' : Keep B h ([some (k8, actO (.slice none 0 0) x.v1 x.v2 x.v3), x.r0, x.r1, x.r2, x.r3] ++ (rA :: [some (k65, .vec TY.countermandlaw16_Step (plains st.cells) 7)])) h185 := E3
      have rdA2 : ∀ {h' : Heap} {Y : List (Option (Nat × AObj))}, Keep B h ([some (k8, actO (.slice none 0 0) x.v1 x.v2 x.v3), x.r0, x.r1, x.r2, x.r3] ++ (rA :: Y)) h' → Reads B h' a46 3 ActR.cells all := fun E => (AcRow.rd R).2 _ fun k o e => E.at 5 (by rw [← e]; rfl)
      refine of16_wp (n := 0) (rdA2 E3') (by omega) fun aO mO cO rO h189 RO E4' => ?_
      have E4 : Keep B h ([some (k8, actO (.slice none 0 0) x.v1 x.v2 x.v3), x.r0, x.r1, x.r2, x.r3] ++ (rA :: [some (k65, .vec TY.countermandlaw16_Step (plains st.cells) 7), rO])) h189 := E3'.append E4'
      obtain ⟨rfl, hrdO⟩ := AcRow.rd (B := B) RO
      refine outs16_wp (hrdF _ fun k o e => E4.at 1 (by rw [← e]; rfl)) (hrdO _ fun k o e => E4.at 7 (by rw [← e]; rfl)) rfl rfl rfl (by have := ol 0; omega) ⟨fun _ => ?_, fun e => by cases e⟩
      refine first16_wp (rdA2 E4) (by omega) hg fun a196 m196 c196 r196 a199 m199 c199 r199 s g h195 S R1 R2 E5' => Fin.of ?_
      have E5 : Keep B h ([some (k8, actO (.slice none 0 0) x.v1 x.v2 x.v3), x.r0, x.r1, x.r2, x.r3] ++ (rA :: [some (k65, .vec TY.countermandlaw16_Step (plains st.cells) 7), rO, r196, r199])) h195 := E4.append E5'
      obtain ⟨rfl, -⟩ := AcRow.rd (B := B) R2
      have hgl := S.lg
      rw [← flush_split S hg] at W'
      have E6 := E5.lose 1
      exact next (x := { x with v0 := .slice none 0 0, r0 := none }) (Y := []) (by omega) W' R2 (hg.sub S.mg) (E6.picks [0, 1, 2, 3, 4, 9] (by decide))
  exact ⟨_, E2.cell 6 rfl rfl, fun e => Fin.of (J5t E2 ⟨by omega, by omega⟩), fun n0 => ⟨fun e => Fin.of (J5t E2 ⟨by omega, by omega⟩), fun n1 => ⟨fun e => Fin.of (J5t E2 ⟨by omega, by omega⟩), fun n2 => ⟨fun e => Fin.of (J5t E2 ⟨by omega, by omega⟩), fun n3 => Fin.of (J5f E2)⟩⟩⟩⟩
end
theorem ActsDoes_calls {H : Type} {enc : TypeId × Value → H} (W : World) {a : Option Addr} {len cap : Nat} {d : DataW H} {p : List MemPlace} (k : DataW.Trod enc PG W 0 (fun _ => true) true TY.s_countermandlaw16_Step (.slice a len cap) d p) :
    Calls PG FN.countermandlaw16_ActsDoes #[.slice a len cap] W fun e w' => e = .returned (.bool true) ∧ Below W.heap.size W w' := by
  obtain ⟨l, rfl, hr, hok⟩ := StepR_arg k
  refine Spec.calls (Spec.mono (ActsDoes_wp (Q := fun b _ => b = true) hr rfl) ?_)
  rintro v h' ⟨b, rfl, rfl⟩
  rfl
end Go.Proofs.Ythloobpjkeodgaa.H

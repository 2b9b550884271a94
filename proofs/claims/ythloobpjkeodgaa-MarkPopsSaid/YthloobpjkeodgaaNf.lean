/- Marks: MarkPops: push, pop, clear. No condition. -/
import Derived.Test.YthloobpjkeodgaaNe
import Derived.Test.YthloobpjkeodgaaXfT
namespace Go.Proofs.Ythloobpjkeodgaa.H
open Go Go.RowKit
set_option linter.unusedVariables false
set_option maxRecDepth 100000

theorem flat_snoc (F : List (Option (Nat × AObj))) (its : List It) (z : It) (M : List (Option (Nat × AObj))) : F ++ (its ++ [z]).flatMap It.e ++ M = F ++ its.flatMap It.e ++ (z.e ++ M) := by
  rw [List.flatMap_append, List.flatMap_singleton]; simp only [List.append_assoc]
section
variable {B : RO} {h0 h h' : Heap} {L M : List (Option (Nat × AObj))} {r rp rS rR : Option (Nat × AObj)} {i k k8 k18 k21 k67 q N n : Nat} {a a1 a52 : Option Addr} {c c3 c54 : Nat} {v vS : Value} {its : List It} {cur z : It} {Q : Bool → Heap → Prop} {ps : List (Int × Int)} {l : List MarkR}
theorem semH_clear0 {t ty : TypeId} {e sz bz cc : Nat} {a : Option Addr} {K : Value → Heap → Prop} (ht : slcB PG t = some (e, sz, bz)) (hk : K (.tuple #[]) h) : semH PG B (Builtin.clear_ #[t] ty #[.slice a 0 cc]) h K := by
  unfold slcB at ht
  split at ht
  · rename_i e' hu
    show semH PG B (do
        match ← underlying t, (.slice a 0 cc : Value) with
        | _, .map none | _, .slice none _ _ | _, .slice _ 0 _ => pure ()
        | _, .map (some r) =>
          let .map _ clock ← getObj r | stuck "clear: map expected"
          setObj r (.map #[] clock)
        | .slice elem, .slice (some a) n _ =>
          storeCells a (Builtin.zeroCells (← zeroValue elem).cells n).toList
        | _, _ => stuck "clear: map or slice expected"
        pure (.tuple #[])) h K
    rw [semH_und hu]
    cases a with
    | none => exact hk
    | some A => exact hk
  · cases ht
theorem clear_wp {Q : Heap → Prop} (E : Keep B h0 L h) (A : SkAt L i k v r) (R : MRow r v l) (hQ : ∀ v' r' h', MRow r' v' [] → Keep B h0 ((L.set i (some (k, skO v'))).set (i + 1) r') h' → Q h') : C_mark_Stack_Clear B (some ⟨k, 0, none⟩) h Q := by
  refine C_mark_Stack_Clear.of ?_
  unfold S_mark_Stack_Clear
  obtain ⟨a, m, c, rfl⟩ := Row.slice R
  obtain rfl := MRow.len R
  have hil : i < L.length := (List.getElem?_eq_some_iff.1 A.p).1
  have hil1 : i + 1 < L.length := (List.getElem?_eq_some_iff.1 A.q).1
  have hcap := Row.cap R
  refine ⟨fun e => (by cases e), fun _ => ⟨_, rfl, .inl ⟨a, _, c, E.cell i A.p rfl, ?_⟩⟩⟩
  have tail : ∀ {h9 : Heap} {r' : Option (Nat × AObj)}, MRow r' (.slice a 0 c) [] → Keep B h0 (L.set (i + 1) r') h9 → ((Value.tuple #[] : Value) = Value.tuple #[] ∧ ∃ A10 : Addr, (some (⟨k, 0, none⟩ : Addr)) = some A10 ∧ LdSl B h9 A10 fun a12 n13 c14 h15 => 0 ≤ (0 : Int) ∧ (0 : Int) ≤ (0 : Int) ∧ (0 : Int) ≤ (c14 : Nat) ∧ ∃ A16 : Addr, (some (⟨k, 0, none⟩ : Addr)) = some A16 ∧ ∃ h18 : Heap, storeH h15 A16 (Value.slice (if c14 = Int.toNat (0) then a12 else Option.map (·.add (Int.toNat (0) * 12)) a12) (Int.toNat (0) - Int.toNat (0)) (c14 - Int.toNat (0))) = some h18 ∧ Fin B h18 Q) := fun {h9 r'} R' E1 => by
    have hp : (L.set (i + 1) r')[i]? = some (some (k, skO (.slice a l.length c))) := by rw [List.getElem?_set_ne (by omega)]; exact A.p
    obtain ⟨h18, es, E2⟩ : ∃ h', storeH h9 ⟨k, 0, none⟩ (.slice a 0 c) = some h' ∧ Keep B h0 ((L.set (i + 1) r').set i (some (k, skO (.slice a 0 c)))) h' := ⟨_, E1.store i 0 (.slice a 0 c) hp rfl⟩
    rw [List.set_comm _ _ (by omega)] at E2
    refine ⟨rfl, _, rfl, .inl ⟨a, _, c, E1.cell i hp rfl, by omega, by omega, by omega, _, rfl, h18, ?_, Fin.of (hQ (.slice a 0 c) r' h18 R' E2)⟩⟩
    simp only [Int.toNat_zero, optAddZ, Nat.sub_zero]; exact es
  rcases Nat.eq_zero_or_pos l.length with hz | hpz
  · have : l = [] := List.length_eq_zero_iff.1 hz
    subst this
    refine semH_clear0 TK.slc_mark ?_
    refine tail R ?_
    have : L.set (i + 1) r = L := by
      obtain ⟨hl, e⟩ := List.getElem?_eq_some_iff.1 A.q
      rw [← e]; exact List.set_getElem_self hl
    rw [this]; exact E
  · have hfl := flatMap_length MarkR.len l
    rcases R with ⟨_, e1, e2⟩ | ⟨kr, m', c', nn, js, e0, e1, e3, e4, e5⟩
    · rw [e2] at hfl; simp at hfl; omega
    · cases e1
      have hle : (l.length : Nat) * 12 ≤ nn := Nat.le_trans (Nat.mul_le_mul_right _ e4) e5
      have hzl : ((Builtin.zeroCells zeroM.toArray l.length).toList).length = l.length * 12 := by
        rw [Array.length_toList, zeroCells_size]; rfl
      have hzo : ∀ y ∈ (Builtin.zeroCells zeroM.toArray l.length).toList, isOne y = true := fun y hy => by
        rw [Builtin.zeroCells, Array.toList_map] at hy
        obtain ⟨p, _, rfl⟩ := List.mem_map.1 hy
        have hall : ∀ p, p < 12 → isOne (zeroM.toArray[p]!) = true := by decide
        exact hall _ (Nat.mod_lt _ (by decide))
      obtain ⟨h9, st, E2⟩ := E.storesV (i + 1) (k := kr) (nn := nn) (t := TY.mark_Mark) (fs := []) (gs := l.flatMap MarkR.cells ++ js) (by rw [A.q, e0]; rfl) _ hzo 0 rfl (by rw [hzl]; omega)
      refine semH_clearSl TK.slc_mark TK.zero_mark (by omega) rfl st (tail (.inr ⟨kr, 0, c, nn, _, rfl, rfl, by simp, by omega, e5⟩) E2)
theorem Pops_push {A C : Int} (E : Keep B h0 (PFx k8 k18 k21 vS rS rR cur ++ its.flatMap It.e ++ (cur.e ++ [some (k67, .vec TY.countermandlaw17_Step (plains [.int .i64 3, .int .i64 A, .int .i64 C]) 3)])) h) (P : PI q its cur vS rS rR a52 c54) (hq : q < N) (hN : N ≤ 80)
    {S : Bool → Heap → Prop} (hS : ∀ b h244, S b h244 = (∃ a247 : Option Addr, ∃ n248 : Nat, ∃ c249 : Nat, ∃ i250 : Int, ∃ i251 : Int, CellsAt B h244 ⟨k21, 0, none⟩ 0 [(Value.slice a247 n248 c249), (Value.int .i64 (i250)), (Value.int .i64 (i251))] ∧
      ∃ i254 : Int, cellH B h244 ⟨k67, 1, none⟩ = some (Value.int .i64 (i254)) ∧
      C_countermandref17_Copy B a247 n248 c249 (i250) (i251) h244 (fun a257 n258 c259 i260 i261 h256 =>
      CellsAt B h256 ⟨k21, 0, none⟩ 0 [(Value.slice a247 n248 c249), (Value.int .i64 (i250)), (Value.int .i64 (i251))] ∧ cellH B h256 ⟨k67, 1, none⟩ = some (Value.int .i64 (i254)) ∧
      ∀ k264 : Nat, h256 k264 = none → B k264 = none → ∀ h265 : Heap, h265 = Heap.set h256 k264 (.vec TY.countermandref17_Mark (plains [(Value.slice a257 n258 c259), (Value.int .i64 (i260)), (Value.int .i64 (i261)), (Value.int .i64 (i254))]) 4) →
      CellsAt B h265 ⟨k21, 0, none⟩ 0 [(Value.slice a247 n248 c249), (Value.int .i64 (i250)), (Value.int .i64 (i251))] ∧ cellH B h265 ⟨k67, 1, none⟩ = some (Value.int .i64 (i254)) ∧
      semH PG B (Builtin.append_ #[TY.s_countermandref17_Mark, TY.s_countermandref17_Mark] TY.s_countermandref17_Mark #[(Value.slice a52 its.length c54), (Value.slice (some ⟨k264, 0, none⟩) 1 1)]) h265 (fun v h268 => ∃ a269 : Option Addr, ∃ n270 : Nat, ∃ c271 : Nat, v = (Value.slice a269 n270 c271) ∧
      CellsAt B h268 ⟨k21, 0, none⟩ 0 [(Value.slice a247 n248 c249), (Value.int .i64 (i250)), (Value.int .i64 (i251))] ∧ cellH B h268 ⟨k67, 1, none⟩ = some (Value.int .i64 (i254)) ∧
      Fin B h268 (fun h' => S_countermandlaw17_MarkPops_J2 B a1 N c3 k8 k18 k21 (q : Nat) (N - q) (PJ B h0 k8 k18 k21 N) a269 n270 c271 h' Q))))) :
    C_mark_Stack_Push B (some ⟨k8, 0, none⟩) (some ⟨cur.x.kd, 0, none⟩) (some ⟨cur.x.ks, 0, none⟩) (some ⟨cur.x.kc, 0, none⟩) cur.g.a cur.g.b cur.g.c cur.g.d C A 0 0 A h S := by
  have hp := P.cu.pl
  have hlen := P.len
  have hdl : cur.s.d.length ≤ 1000 := by rw [P.cu.d]; have := dOf_len cur.ps; omega
  refine push_wp (i := 0) (j := (PFx k8 k18 k21 vS rS rR cur ++ its.flatMap It.e).length) (g := cur.g) (mm := ⟨C, A, 0, 0⟩) (place := A) E ⟨rfl, rfl⟩ P.ms (by rw [List.length_map]; omega) ⟨⟨upM 0 rfl, upM 1 rfl⟩, upM 2 rfl, ⟨upM 3 rfl, upM 4 rfl⟩, upM 5 rfl⟩ P.cu.o (by omega) (by rw [P.cu.f]; simp) fun x' v' r' h244 O' R' E1 => ?_
  rw [hS]
  have E2 : Keep B h0 (PFx k8 k18 k21 v' r' rR cur ++ its.flatMap It.e ++ (cur.e ++ [some (k67, .vec TY.countermandlaw17_Step (plains [.int .i64 3, .int .i64 A, .int .i64 C]) 3)] ++ x'.e cur.s)) h244 := by
    have : Keep B h0 (PFx k8 k18 k21 v' r' rR cur ++ its.flatMap It.e ++ (cur.e ++ [some (k67, .vec TY.countermandlaw17_Step (plains [.int .i64 3, .int .i64 A, .int .i64 C]) 3)]) ++ x'.e cur.s) h244 := E1
    rw [List.append_assoc] at this; exact this
  refine ⟨_, _, _, _, _, ⟨E2.cell 3 rfl (j := 0) rfl, E2.cell 3 rfl (j := 1) rfl, E2.cell 3 rfl (j := 2) rfl, trivial⟩, _, E2.cM 7 rfl (i := 1) rfl, ref17_copy_wp (w := 6) E2 rfl P.cu.pr (by omega) fun a' c' rp' h256 Rp E3 => ⟨⟨E3.cell 3 rfl (j := 0) rfl, E3.cell 3 rfl (j := 1) rfl, E3.cell 3 rfl (j := 2) rfl, trivial⟩, E3.cM 7 rfl (i := 1) rfl, fun k264 a264 b264 h265 e265 => ?_⟩⟩
  have E4 := E3.nM a264 b264 e265
  refine ⟨⟨E4.cell 3 rfl (j := 0) rfl, E4.cell 3 rfl (j := 1) rfl, E4.cell 3 rfl (j := 2) rfl, trivial⟩, E4.cM 7 rfl (i := 1) rfl, ?_⟩
  let z : It := ⟨x', cur.s, cur.g, cur.ps, a', c', rp', ⟨C, A, 0, 0⟩, A⟩
  have hrl := flatMap_length It.rc_len its
  refine E3.push1 4 rfl P.rs TK.slc_rmark TK.zero_rmark rfl (by omega) (by omega) TK.sl_rmark (ys := z.rc) rfl z.rc_one (by rw [hrl, It.rc_len]; omega) a264 b264 e265 fun a'' m'' c'' r'' h268 R'' E5 => ⟨a'', m'', c'', rfl, ?_⟩
  have E6 : Keep B h0 (PFx k8 k18 k21 v' r' r'' cur ++ its.flatMap It.e ++ (cur.e ++ [some (k67, .vec TY.countermandlaw17_Step (plains [.int .i64 3, .int .i64 A, .int .i64 C]) 3)] ++ x'.e cur.s ++ [rp'])) h268 := E5
  refine ⟨⟨E6.cell 3 rfl (j := 0) rfl, E6.cell 3 rfl (j := 1) rfl, E6.cell 3 rfl (j := 2) rfl, trivial⟩, E6.cM 7 rfl (i := 1) rfl, Fin.of ?_⟩
  have hm := Row.len R''
  rw [List.length_append, hrl, It.rc_len] at hm
  have hm2 : m'' = (its ++ [z]).length := by rw [List.length_append, List.length_singleton]; omega
  subst hm2
  have E7 : Keep B h0 (PFx k8 k18 k21 v' r' r'' cur ++ its.flatMap It.e ++ (z.e ++ cur.e)) h268 := E6.sM [8, 9, 10, 11, 12, 13, 14, 0, 1, 2, 3, 4, 5, 6] (by decide)
  rw [← flat_snoc] at E7
  refine Pops_J2 E7 ⟨by rw [List.length_append, List.length_singleton]; omega, P.cu.mono (by omega), fun y hy => ?_, fun y hy => ?_, ?_, ?_⟩ hq hN
  · rcases List.mem_append.1 hy with hy | hy
    · exact (P.al y hy).mono (by omega)
    · rw [List.mem_singleton] at hy; subst hy
      exact ⟨O', P.cu.d, P.cu.f, P.cu.c0, P.cu.c1, by show cur.ps.length ≤ q + 1; omega, Rp⟩
  · rcases List.mem_append.1 hy with hy | hy
    · exact P.pl y hy
    · rw [List.mem_singleton] at hy; subst hy; rfl
  · rw [List.map_append]; exact R'
  · rw [List.flatMap_append, List.flatMap_singleton]; exact R''
end
end Go.Proofs.Ythloobpjkeodgaa.H

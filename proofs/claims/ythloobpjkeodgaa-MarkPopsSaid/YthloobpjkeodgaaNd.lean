/- Marks: Clear; MarkPops. No condition. -/
import Derived.Test.YthloobpjkeodgaaNc
import Derived.Test.YthloobpjkeodgaaXfT
namespace Go.Proofs.Ythloobpjkeodgaa.H
open Go Go.RowKit
set_option linter.unusedVariables false
set_option maxRecDepth 100000

/-- A state with the document's: what a mark keeps. -/
structure It where
  x : StI
  s : StV
  g : Reg4
  ps : List (Int × Int)
  a : Option Addr
  c : Nat
  rp : Option (Nat × AObj)
  mm : Reg4
  place : Int
def PRow (r : Option (Nat × AObj)) (v : Value) (ps : List (Int × Int)) : Prop := Row r v TY.countermandref13_Put 2 (ps.flatMap entC_int)
structure It.ok (z : It) (n : Nat) : Prop where
  o : z.x.Ok z.s
  d : z.s.d = dOf z.ps
  f : z.s.f = []
  c0 : 0 ≤ z.s.c0
  c1 : z.s.c0 ≤ 64
  pl : z.ps.length ≤ n
  pr : PRow z.rp (.slice z.a z.ps.length z.c) z.ps
theorem It.ok.mono {z : It} {n m : Nat} (k : z.ok n) (h : n ≤ m) : z.ok m := ⟨k.o, k.d, k.f, k.c0, k.c1, by have := k.pl; omega, k.pr⟩
def It.e (z : It) : List (Option (Nat × AObj)) := [some (z.x.kd, drO_int z.x.vd), z.x.rd, some (z.x.ks, shO z.x.kf), some (z.x.kf, drO_file_File z.x.vf), z.x.rf, some (z.x.kc, curO z.s), z.rp]
def It.mk' (z : It) : MarkR := ⟨z.x, z.g, z.mm, z.place⟩
def It.rc (z : It) : List Value := [.slice z.a z.ps.length z.c, .int .i64 z.s.c0, .int .i64 z.g.a, .int .i64 z.place]
theorem It.rc_len (z : It) : z.rc.length = 4 := rfl
theorem It.rc_one (z : It) : ∀ y ∈ z.rc, isOne y = true := fun y hy => by
  simp only [It.rc, List.mem_cons, List.not_mem_nil, or_false] at hy
  rcases hy with rfl | rfl | rfl | rfl <;> rfl
def It.st (z : It) : AObj := .vec TY.mark_State (plains [.pointer (some ⟨z.x.kd, 0, none⟩), .pointer (some ⟨z.x.ks, 0, none⟩), .pointer (some ⟨z.x.kc, 0, none⟩), .int .i64 z.g.a, .int .i64 z.g.b, .int .i64 z.g.c, .int .i64 z.g.d]) 7
def It.rf (z : It) : AObj := .vec TY.countermandref17_State (plains [.slice z.a z.ps.length z.c, .int .i64 z.s.c0, .int .i64 z.g.a]) 3
def PFx (k8 k18 k21 : Nat) (vS : Value) (rS rR : Option (Nat × AObj)) (cur : It) : List (Option (Nat × AObj)) := [some (k8, skO vS), rS, some (k18, cur.st), some (k21, cur.rf), rR]
structure PI (n : Nat) (its : List It) (cur : It) (vS : Value) (rS rR : Option (Nat × AObj)) (a52 : Option Addr) (c54 : Nat) : Prop where
  len : its.length ≤ n
  cu : cur.ok n
  al : ∀ z ∈ its, z.ok n
  pl : ∀ z ∈ its, z.mm.b = z.place
  ms : MRow rS vS (its.map It.mk')
  rs : Row rR (.slice a52 its.length c54) TY.countermandref17_Mark 4 (its.flatMap It.rc)
theorem TK.slc_rmark : slcB PG TY.s_countermandref17_Mark = some (TY.countermandref17_Mark, 4, 48) := by kernel_rfl
theorem TK.zero_rmark : zeroB PG TY.countermandref17_Mark = some [.slice none 0 0, .int .i64 0, .int .i64 0, .int .i64 0] := by kernel_rfl
theorem TK.sl_rmark : slT PG TY.s_countermandref17_Mark = true := by kernel_rfl
def stepC (x : Int × Int × Int) : List Value := [.int .i64 x.1, .int .i64 x.2.1, .int .i64 x.2.2]
/-- What holds of the loop. -/
def PJ (B : RO) (h0 : Heap) (k8 k18 k21 N : Nat) : Option Addr → Nat → Nat → Int → Nat → Heap → Prop := fun a52 n53 c54 i55 m57 h' =>
  ∃ (q : Nat) (its : List It) (cur : It) (vS : Value) (rS rR : Option (Nat × AObj)), n53 = its.length ∧ i55 = q ∧ q ≤ N ∧ m57 = N - q ∧ PI q its cur vS rS rR a52 c54 ∧ Keep B h0 (PFx k8 k18 k21 vS rS rR cur ++ its.flatMap It.e ++ cur.e) h'
section
variable {B : RO} {h0 h h' : Heap} {L M : List (Option (Nat × AObj))} {r rS rR : Option (Nat × AObj)} {i k k8 k18 k21 q N n : Nat} {a a1 a52 : Option Addr} {c c3 c54 : Nat} {v vS : Value} {its : List It} {cur : It} {Q : Bool → Heap → Prop}
theorem PRow.rd {ps : List (Int × Int)} (R : PRow r (.slice a ps.length c) ps) (hr : ∀ k o, r = some (k, o) → h k = some o) : Reads B h a 2 entC_int ps := (Row.rd (B := B) R entC_int_len (by omega)).2 h hr
theorem Pops_J2 (E : Keep B h0 (PFx k8 k18 k21 vS rS rR cur ++ its.flatMap It.e ++ cur.e) h) (P : PI (q + 1) its cur vS rS rR a52 c54) (hq : q < N) (hN : N ≤ 80) :
    S_countermandlaw17_MarkPops_J2 B a1 N c3 k8 k18 k21 (q : Nat) (N - q) (PJ B h0 k8 k18 k21 N) a52 its.length c54 h Q := by
  unfold S_countermandlaw17_MarkPops_J2
  have hw : IntKind.wrap .i64 ((q : Int) + 1) = ((q + 1 : Nat) : Int) := by rw [w64 (by omega) (by omega)]; omega
  have hp := P.cu.pl
  refine ⟨_, _, _, _, _, _, _, ⟨E.cell 2 rfl (j := 0) rfl, E.cell 2 rfl (j := 1) rfl, E.cell 2 rfl (j := 2) rfl, E.cell 2 rfl (j := 3) rfl, E.cell 2 rfl (j := 4) rfl, E.cell 2 rfl (j := 5) rfl, E.cell 2 rfl (j := 6) rfl, trivial⟩, _, _, _, _, _, ⟨E.cell 3 rfl (j := 0) rfl, E.cell 3 rfl (j := 1) rfl, E.cell 3 rfl (j := 2) rfl, trivial⟩, ?_⟩
  refine same17_wp (x := cur.x) (s := cur.s) (g := cur.g) (ps := cur.ps) (i := (PFx k8 k18 k21 vS rS rR cur ++ its.flatMap It.e).length + 0) (j := (PFx k8 k18 k21 vS rS rR cur ++ its.flatMap It.e).length + 5) E ⟨upM 0 rfl, upM 1 rfl⟩ (by rw [← P.cu.d]; exact P.cu.o.d) (upM 5 rfl) (by omega) (fun h' E' => PRow.rd P.cu.pr fun k o e => E'.gM 6 (by rw [← e]; rfl)) rfl rfl fun h87 E1 => ⟨fun _ => ?_, fun e => by cases e⟩
  refine stack_len_wp (i := 0) E1 ⟨rfl, rfl⟩ P.ms ⟨fun _ => ?_, fun hn => absurd (by rw [List.length_map]) hn⟩
  exact Fin.of ⟨N - (q + 1), by omega, q + 1, its, cur, vS, rS, rR, rfl, hw, by omega, rfl, P, E1⟩
theorem Pops_J3 {k67 b : Nat} {A C : Int} {rX : Option (Nat × AObj)} {aX : Option Addr} {cX : Nat} {vd : Value} {rd : Option (Nat × AObj)} {t u w : Nat}
    (E : Keep B h0 (PFx k8 k18 k21 vS rS rR cur ++ its.flatMap It.e ++ M) h) (P : PI q its cur vS rS rR a52 c54) (hq : q < N) (hN : N ≤ 80)
    (hM : ∀ (j : Nat), j < 7 → M[j]? = ({ cur with x := { cur.x with vd := vd, rd := rd }, s := { cur.s with d := insD cur.s.d A C } } : It).e[j]?) (hd : DRow_int rd vd (insD cur.s.d A C))
    (ht : M[t]? = some rX) (RX : PRow rX (.slice aX cur.ps.length cX) cur.ps) (hu : M[u]? = some (some (b, .vec TY.countermandref13_Put (plains [.int .i64 A, .int .i64 C]) 2))) (ht7 : 7 ≤ t) (hw : M[w]? = some (some (k67, .vec TY.countermandlaw17_Step (plains [.int .i64 0, .int .i64 A, .int .i64 C]) 3))) (hw7 : 7 ≤ w) (hwt : w ≠ t) :
    S_countermandlaw17_MarkPops_J3 B a1 N c3 k8 k18 k21 a52 its.length c54 (q : Nat) (N - q) (PJ B h0 k8 k18 k21 N) k67 cur.a cur.ps.length cur.c A C aX cur.ps.length cX (some ⟨b, 0, none⟩) 1 1 h Q := by
  unfold S_countermandlaw17_MarkPops_J3
  have hp := P.cu.pl
  refine E.pushS ((PFx k8 k18 k21 vS rS rR cur ++ its.flatMap It.e).length + t) (n := 1) (ys := [.int .i64 A, .int .i64 C]) (upM t ht) RX TK.slc_put TK.zero_put rfl (by omega) (by omega) TK.sl_put ⟨rfl, by simp [isOne], .inl ⟨_, _, rfl, E.cM u hu (i := 0) rfl, E.cM u hu (i := 1) rfl, trivial⟩⟩ (by rw [flatMap_length entC_int_len]; simp; omega) fun a' m' c' r' h168 R' E1 => ⟨a', m', c', rfl, ?_⟩
  rw [setM] at E1
  have hMw : (M.set t r')[w]? = some (some (k67, .vec TY.countermandlaw17_Step (plains [.int .i64 0, .int .i64 A, .int .i64 C]) 3)) := by rw [List.getElem?_set_ne (fun e => hwt e.symm)]; exact hw
  refine ⟨E1.cell 3 rfl (j := 0) rfl, E1.cM w hMw (i := 1) rfl, E1.cM w hMw (i := 2) rfl, ?_⟩
  have R2 : PRow r' (.slice a' m' c') (cur.ps ++ [(A, C)]) := by unfold PRow; rw [List.flatMap_append, List.flatMap_singleton]; exact R'
  have hm := Row.len R2
  rw [flatMap_length entC_int_len, List.length_append, List.length_singleton] at hm
  have hm2 : m' = (cur.ps ++ [(A, C)]).length := by rw [List.length_append, List.length_singleton]; omega
  subst hm2
  let z : It := { cur with x := { cur.x with vd := vd, rd := rd }, s := { cur.s with d := insD cur.s.d A C }, ps := cur.ps ++ [(A, C)], a := a', c := c', rp := r' }
  obtain ⟨h175, es, E3⟩ : ∃ h', storeH h168 ⟨k21, 0, none⟩ (.slice a' (cur.ps ++ [(A, C)]).length c') = some h' ∧ Keep B h0 (PFx k8 k18 k21 vS rS rR z ++ its.flatMap It.e ++ M.set t r') h' := by
    obtain ⟨es, E2⟩ := E1.store 3 0 (.slice a' (cur.ps ++ [(A, C)]).length c') (k := k21) (t := TY.countermandref17_State) (n := 3) (fs := plains [.slice cur.a cur.ps.length cur.c, .int .i64 cur.s.c0, .int .i64 cur.g.a]) rfl rfl
    exact ⟨_, es, E2⟩
  refine ⟨_, es, Fin.of ?_⟩
  have E4 : Keep B h0 (PFx k8 k18 k21 vS rS rR z ++ its.flatMap It.e ++ z.e) h175 := by
    refine (E3.sM [0, 1, 2, 3, 4, 5, t] (by simp; omega)).sub fun i y hy => ?_
    have hz : z.e = [0, 1, 2, 3, 4, 5, t].map fun j => (M.set t r').getD j none := by
      have g : ∀ j, j < 6 → (M.set t r').getD j none = (({ cur with x := { cur.x with vd := vd, rd := rd }, s := { cur.s with d := insD cur.s.d A C } } : It).e[j]?).getD none := fun j hj => by
        rw [List.getD_eq_getElem?_getD, List.getElem?_set_ne (by omega), hM j (by omega)]
      have gt : (M.set t r').getD t none = r' := by
        rw [List.getD_eq_getElem?_getD, List.getElem?_set_self (List.getElem?_eq_some_iff.1 ht).1]; rfl
      simp only [List.map_cons, List.map_nil, g 0 (by omega), g 1 (by omega), g 2 (by omega), g 3 (by omega), g 4 (by omega), g 5 (by omega), gt]
      rfl
    rw [hz] at hy
    exact hy
  refine Pops_J2 (cur := z) E4 ⟨by have := P.len; omega, ?_, fun y hy => (P.al y hy).mono (by omega), P.pl, P.ms, P.rs⟩ hq hN
  refine ⟨⟨hd, P.cu.o.f⟩, ?_, P.cu.f, P.cu.c0, P.cu.c1, by show (cur.ps ++ [(A, C)]).length ≤ q + 1; rw [List.length_append, List.length_singleton]; omega, R2⟩
  show insD cur.s.d A C = dOf (cur.ps ++ [(A, C)])
  rw [dOf_snoc, P.cu.d]
end
end Go.Proofs.Ythloobpjkeodgaa.H

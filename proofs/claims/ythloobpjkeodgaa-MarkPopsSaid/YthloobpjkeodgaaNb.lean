/- Marks popped; the law MarkStack. No condition. -/
import Derived.Test.YthloobpjkeodgaaNa
namespace Go.Proofs.Ythloobpjkeodgaa.H
open Go Go.RowKit
set_option linter.unusedVariables false
set_option maxRecDepth 100000

def zeroM : List Value := [.pointer none, .pointer none, .pointer none, .int .i64 0, .int .i64 0, .int .i64 0, .int .i64 0, .int .i64 0, .int .i64 0, .int .i64 0, .int .i64 0, .int .i64 0]
section
variable {B : RO} {h0 h h' : Heap} {L : List (Option (Nat × AObj))} {r : Option (Nat × AObj)} {i j k : Nat} {a : Option Addr} {m c : Nat} {v : Value} {l : List MarkR} {z : MarkR}
theorem delete_wp {Q : Option Addr → Nat → Nat → Heap → Prop} (E : Keep B h0 L h) (hq : L[i]? = some r) (R : MRow r (.slice a (l.length + 1) c) (l ++ [z])) (hl : l.length ≤ 10000)
    (hQ : ∀ r' h', MRow r' (.slice a l.length c) l → Keep B h0 (L.set i r') h' → Q a l.length c h') : C_slices_Delete_s_mark_Mark_mark_Mark B a (l.length + 1) c (l.length : Nat) ((l.length + 1 : Nat)) h Q := by
  refine C_slices_Delete_s_mark_Mark_mark_Mark.of ?_
  unfold S_slices_Delete_s_mark_Mark_mark_Mark
  have hcap := Row.cap R
  have hfl := flatMap_length MarkR.len l
  have hil := (List.getElem?_eq_some_iff.1 hq).1
  have Rc := Row.cut R (n := l.length) (by omega)
  have hfa : (l ++ [z]).flatMap MarkR.cells = l.flatMap MarkR.cells ++ z.cells := by rw [List.flatMap_append]; simp
  refine ⟨by omega, by omega, by omega, by omega, fun e => by omega, fun _ => ⟨by omega, by omega, by omega, by omega, by omega, by omega, ?_⟩⟩
  simp only [Int.toNat_natCast, Int.toNat_zero, Nat.sub_zero, optAddZ, Nat.sub_self]
  have tf := slT_facts TK.sl_mark
  have hsrc : ∀ A' : Option Addr, Src B h (.slice A' 0 (c - (l.length + 1))) 12 0 [] := fun A' => by
    refine ⟨rfl, by simp, ?_⟩
    cases A' with
    | none => exact .inr (.inl ⟨_, rfl, rfl⟩)
    | some A => exact .inl ⟨A, _, rfl, trivial⟩
  refine semH_append (n := 0) (ys := []) TK.slc_mark TK.zero_mark rfl (by omega) (by omega) tf.1 tf.2 (E.sl i hq Rc) (hsrc _) (by rw [hfa, ← hfl, List.take_left, hfl]; simp; omega) fun v' h'' ap => ?_
  rcases ap with ⟨_, rfl, rfl⟩ | ⟨k', m', n', c', nn, js, hn, _, _, _, h2, _⟩
  · rcases R with ⟨_, e1, e2⟩ | ⟨kr, m', c', nn, js, rfl, e1, e3, e4, e5⟩
    · rw [hfa] at e2; simp [MarkR.cells] at e2
    · cases e1
      refine ⟨_, _, _, rfl, by omega, by omega, by omega, ?_⟩
      have ne : ¬ c = l.length := by omega
      simp only [if_neg ne, Option.map_some, addr_more, Nat.zero_add, show l.length + 1 - l.length = 1 by omega]
      have h5 : (l.length + 1) * 12 ≤ nn := Nat.le_trans (Nat.mul_le_mul_right _ e4) e5
      obtain ⟨h26, st, E2⟩ := E.storesV i (k := kr) (nn := nn) (t := TY.mark_Mark) (fs := l.flatMap MarkR.cells) (gs := z.cells ++ js) (by rw [hq, hfa, List.append_assoc]) zeroM (by simp [zeroM, isOne]) (l.length * 12) hfl (by simp [zeroM]; omega)
      refine semH_clearSl TK.slc_mark TK.zero_mark (by omega) (zeroCells_one _).symm st ⟨rfl, Fin.of (hQ _ _ (.inr ⟨kr, l.length, c, nn, zeroM ++ (z.cells ++ js).drop zeroM.length, ?_, rfl, hfl.symm, by omega, e5⟩) E2)⟩
      rw [← List.append_assoc]
  · have : n' = 0 := by simp at h2; omega
    exact absurd this hn
theorem pop_wp {Q : Option Addr → Option Addr → Option Addr → Int → Int → Int → Int → Int → Int → Int → Int → Int → Bool → Heap → Prop} (E : Keep B h0 L h) (A : SkAt L i k v r) (R : MRow r v l) (hl : l.length ≤ 10000)
    (h0' : l = [] → ∀ h', Keep B h0 L h' → Q none none none 0 0 0 0 0 0 0 0 0 false h')
    (hQ : ∀ l' z v' r' h', l = l' ++ [z] → MRow r' v' l' → Keep B h0 ((L.set i (some (k, skO v'))).set (i + 1) r') h' → Q (some ⟨z.x.kd, 0, none⟩) (some ⟨z.x.ks, 0, none⟩) (some ⟨z.x.kc, 0, none⟩) z.g.a z.g.b z.g.c z.g.d z.m.a z.m.b z.m.c z.m.d z.place true h') : C_mark_Stack_Pop B (some ⟨k, 0, none⟩) h Q := by
  refine C_mark_Stack_Pop.of ?_
  unfold S_mark_Stack_Pop
  have hil : i < L.length := (List.getElem?_eq_some_iff.1 A.p).1
  have hil1 : i + 1 < L.length := (List.getElem?_eq_some_iff.1 A.q).1
  intro k15 a15 b15 h16 e16
  have E1 : Keep B h0 (L ++ [some (k15, .vec TY.mark_Mark (plains zeroM) 12)]) h16 := E.made a15 b15 e16
  obtain ⟨a, m, c, rfl⟩ := Row.slice R
  obtain rfl := MRow.len R
  refine ⟨fun e => (by cases e), fun _ => ⟨_, rfl, .inl ⟨a, _, c, E1.cell i (up_app _ A.p) rfl, fun hz => ?_, fun hnz => Fin.of ?_⟩⟩⟩
  · refine ⟨_, stores_whole (us := zeroM) E1.last rfl (by simp) (by simp [isOne]) (by simp), ?_⟩
    have E2 := E1.putLast (.vec TY.mark_Mark (plains zeroM) 12)
    have g := E2.last
    exact ⟨_, _, _, _, _, _, _, _, _, _, _, _, ⟨cellH_vec g rfl, cellH_vec g rfl, cellH_vec g rfl, cellH_vec g rfl, cellH_vec g rfl, cellH_vec g rfl, cellH_vec g rfl, cellH_vec g rfl, cellH_vec g rfl, cellH_vec g rfl, cellH_vec g rfl, cellH_vec g rfl, trivial⟩, Fin.of (h0' (List.length_eq_zero_iff.1 (by omega)) _ E2.pop)⟩
  · unfold S_mark_Stack_Pop_J1
    obtain ⟨l', z, rfl⟩ : ∃ l' z, l = l' ++ [z] := ⟨l.dropLast, l.getLast (fun e => by rw [e] at hnz; simp at hnz), (List.dropLast_concat_getLast _).symm⟩
    have hll : (l' ++ [z]).length = l'.length + 1 := by simp
    have hw1 : IntKind.wrap .i64 ((((l' ++ [z]).length : Nat) : Int) - 1) = ((l'.length : Nat) : Int) := by rw [w64 (by omega) (by omega)]; omega
    have hw2 : IntKind.wrap .i64 (((l'.length : Nat) : Int) + 1) = ((l'.length + 1 : Nat) : Int) := by rw [w64 (by omega) (by omega)]; omega
    obtain ⟨-, hrd⟩ := Row.rd (B := B) R MarkR.len (by omega)
    obtain ⟨A', e1, _, e4⟩ := hrd h16 (fun k o e => E1.at (i + 1) (by rw [up_app _ A.q, e])) l'.length z (by simp)
    refine ⟨_, rfl, .inl ⟨a, _, c, E1.cell i (up_app _ A.p) rfl, _, rfl, .inl ⟨a, _, c, E1.cell i (up_app _ A.p) rfl, A', e1, ?_⟩⟩⟩
    rw [hw1, hw2]
    refine ⟨by omega, by omega, _, _, _, _, _, _, _, _, _, _, _, _, e4, fun k45 a45 b45 h46 e46 => ?_⟩
    have E2 : Keep B h0 (L ++ [some (k15, .vec TY.mark_Mark (plains zeroM) 12)] ++ [some (k45, .vec TY.mark_Mark (plains zeroM) 12)]) h46 := E1.made a45 b45 e46
    refine ⟨_, stores_whole (us := zeroM) E2.last rfl (by simp) (by simp [isOne]) (by simp), ?_⟩
    have E3 := E2.putLast (.vec TY.mark_Mark (plains z.cells) 12)
    refine ⟨_, rfl, .inl ⟨a, (l' ++ [z]).length, c, E3.cell i (up_app _ (up_app _ A.p)) rfl, ?_⟩⟩
    rw [hll] at R hl ⊢
    refine delete_wp (i := i + 1) E3 (up_app _ (up_app _ A.q)) R (by omega) fun r' h54 R' E4 => ?_
    rw [List.append_assoc, List.set_append_left _ _ hil1] at E4
    have hp : (L.set (i + 1) r' ++ ([some (k15, .vec TY.mark_Mark (plains zeroM) 12)] ++ [some (k45, .vec TY.mark_Mark (plains z.cells) 12)]))[i]? = some (some (k, skO (.slice a (l' ++ [z]).length c))) := up_app _ (by rw [List.getElem?_set_ne (by omega)]; exact A.p)
    obtain ⟨es, E5⟩ := E4.store i 0 (.slice a l'.length c) hp rfl
    refine ⟨_, rfl, _, es, ?_⟩
    rw [List.set_append_left _ _ (by rw [List.length_set]; omega), List.set_comm _ _ (by omega), ← List.append_assoc] at E5
    have g45 := E5.last
    refine ⟨_, _, _, _, _, _, _, _, _, _, _, _, ⟨cellH_vec g45 rfl, cellH_vec g45 rfl, cellH_vec g45 rfl, cellH_vec g45 rfl, cellH_vec g45 rfl, cellH_vec g45 rfl, cellH_vec g45 rfl, cellH_vec g45 rfl, cellH_vec g45 rfl, cellH_vec g45 rfl, cellH_vec g45 rfl, cellH_vec g45 rfl, trivial⟩, ?_⟩
    have E6 := E5.swapLast.pop
    have E7 := E5.pop
    have g15 := E7.last
    refine ⟨_, stores_whole (us := zeroM) g15 rfl (by simp) (by simp [isOne]) (by simp), ?_⟩
    have E8 := E7.putLast (.vec TY.mark_Mark (plains z.cells) 12)
    have g := E8.last
    exact ⟨_, _, _, _, _, _, _, _, _, _, _, _, ⟨cellH_vec g rfl, cellH_vec g rfl, cellH_vec g rfl, cellH_vec g rfl, cellH_vec g rfl, cellH_vec g rfl, cellH_vec g rfl, cellH_vec g rfl, cellH_vec g rfl, cellH_vec g rfl, cellH_vec g rfl, cellH_vec g rfl, trivial⟩, Fin.of (hQ l' z _ r' _ rfl R' E8.pop)⟩
theorem alive17_wp {Q : Bool → Heap → Prop} (hQ : Q true h) : C_countermandlaw17_alive B h Q := by
  refine C_countermandlaw17_alive.of ?_
  unfold S_countermandlaw17_alive
  intro k2 a2 b2 h3 e3
  have E0 := ((Keep.nil B h).made a2 b2 e3).gap
  refine fresh_wp (g := ⟨1, 0, 0, 0⟩) fun x h4 O E1 => ?_
  have E2 := E0.append E1
  intro k12 a12 b12 h13 e13
  have E3 := E2.made a12 b12 e13
  refine ⟨_, stores_whole E3.last rfl (by simp) (by simp [isOne]) (by simp), ?_⟩
  have E4 := E3.putLast (.vec TY.mark_State (plains [.pointer (some ⟨x.kd, 0, none⟩), .pointer (some ⟨x.ks, 0, none⟩), .pointer (some ⟨x.kc, 0, none⟩), .int .i64 1, .int .i64 0, .int .i64 0, .int .i64 0]) 7)
  have g := E4.last
  refine ⟨_, _, _, _, _, _, _, ⟨cellH_vec g rfl, cellH_vec g rfl, cellH_vec g rfl, cellH_vec g rfl, cellH_vec g rfl, cellH_vec g rfl, cellH_vec g rfl, trivial⟩, ?_⟩
  refine push_wp (i := 0) (j := 2) (l := []) (g := ⟨1, 0, 0, 0⟩) (mm := ⟨0, 0, 0, 0⟩) (place := 5) E4 ⟨rfl, rfl⟩ (Row.nil _ _) (by simp) ⟨⟨rfl, rfl⟩, rfl, ⟨rfl, rfl⟩, rfl⟩ O (by simp [StV.z]) (by simp [StV.z]) fun x' v' r' h47 O' R' E5 => ⟨fun _ => ?_, fun e => by cases e⟩
  refine stack_len_wp (i := 0) E5 ⟨rfl, rfl⟩ R' ⟨fun _ => Fin.of ?_, fun hn => absurd rfl hn⟩
  unfold S_countermandlaw17_alive_J1
  refine pop_wp (i := 0) E5 ⟨rfl, rfl⟩ R' (by simp) (fun e => by cases e) fun l' z v2 r2 h17 el R2 E6 => ⟨fun _ => ?_, fun e => by cases e⟩
  obtain ⟨rfl, hz⟩ := List.append_inj' (show ([] : List MarkR) ++ [_] = l' ++ [z] from el) rfl
  cases hz
  intro k34 a34 b34 h35 e35
  have E7 := E6.made a34 b34 e35
  refine ⟨_, stores_whole E7.last rfl (by simp) (by simp [isOne]) (by simp), ?_⟩
  have E8 := E7.putLast (.vec TY.mark_Mark (plains (MarkR.cells ⟨x', ⟨1, 0, 0, 0⟩, ⟨0, 0, 0, 0⟩, 5⟩)) 12)
  exact ⟨_, cellH_vec E8.last rfl, fun _ => ⟨by omega, by omega, _, cellH_vec E8.last rfl, Fin.ent E8.back (Fin.of hQ)⟩, fun hn => absurd rfl hn⟩
def intP (n : Int) : List Value := [.int .i64 n]
theorem TK.places_sl : PG.underlying TY.s_int = some (.slice TY.int) := by kernel_rfl
theorem TK.place_kd : leafB PG 5 TY.int = some [.int .i64] := by kernel_rfl
theorem Place_arg {H : Type} {enc : TypeId × Value → H} {w : World} {base : Nat} {spare : Nat → Bool} {held : Bool} {a : Option Addr} {len cap : Nat} {d : DataW H} {p : List MemPlace} (h : DataW.Trod enc PG w base spare held TY.s_int (.slice a len cap) d p) :
    ∃ l : List Int, len = l.length ∧ Reads (roOf w) noHeap a 1 intP l ∧ ∀ x ∈ l, True :=
  arg_rows intP (fun _ => True) TK.places_sl TK.place_kd rfl (by omega) (fun vs h => by
    obtain ⟨z1, v1, rfl, _, h1⟩ := h.int
    obtain rfl := h1.nil
    exact ⟨z1, rfl, trivial⟩) h
def msL (k8 : Nat) (v : Value) (r : Option (Nat × AObj)) : List (Option (Nat × AObj)) := [some (k8, skO v), r]
/-- What is told of marks here. -/
def Told (l : List MarkR) (ps : List Int) : Prop := l.map (fun z => (z.g.a, z.place)) = ps.map fun p => (p, p)
end
end Go.Proofs.Ythloobpjkeodgaa.H

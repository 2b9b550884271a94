/- Vault: first, look, Open: contracts. No condition. -/
import Derived.Test.YtcncdfmnpmmikaaVa
import Derived.Test.YtcncdfmnpmmikaaWe
import Derived.Test.YtcncdfmnpmmikaaHy
import Derived.Test.YtcncdfmnpmmikaaHl
import Derived.Test.YtcncdfmnpmmikaaXvT
namespace Go.Proofs.Ytcncdfmnpmmikaa.H
open Go Go.RowKit
set_option linter.unusedVariables false
set_option maxRecDepth 100000

def foundO (im : List UInt8) (v : Value) : AObj := .vec TY.vault_Found (plains [.string (ba im), v]) 2
def vltO (kD kl : Nat) (e : Nat) (ready : Bool) : AObj := .vec TY.vault_Vault (plains [.pointer (some ⟨kD, 0, none⟩), .pointer (some ⟨kl, 0, none⟩), .int .i64 (e : Nat), .bool ready]) 4
theorem strC_one (l : List UInt8) : ∀ y ∈ strC l, isOne y = true := fun y hy => by simp [strC] at hy; subst hy; rfl
theorem allL_small (b : List UInt8) : (allL b).length ≤ b.length := by
  have h1 := wholeL_le b
  have h2 := rowL_len (allL_spec b).1
  have h3 : ∀ ls : List (List UInt8), ls.length ≤ (ls.map fun l => l.length + 6).sum := fun ls => by
    induction ls with
    | nil => simp
    | cons l t ih => simp only [List.map_cons, List.sum_cons, List.length_cons]; omega
  have := h3 (allL b)
  unfold wholeL at h1
  omega
section
variable {B : RO} {h0 h h' : Heap} {L : List (Option (Nat × AObj))} {r : Option (Nat × AObj)} {i j kD kl k sz : Nat} {cs : List Chg} {v : Value} {area : Int} {torn : Bool}
theorem first_wp {l : List UInt8} {Q : Int → ByteArray → Bool → Heap → Prop} (hN : firstL l = none → ∀ e im, Q e im false h) (hS : ∀ n r, firstL l = some (n, r) → Q (n : Nat) (ba r) true h) : C_vault_first B (ba l) h Q := by
  refine C_vault_first.of ?_
  unfold S_vault_first
  refine rof_wp rfl fun k6 a6 b6 => ?_
  have E := (Keep.nil B h).new (o := rdO l false) a6 b6
  have back : ∀ {h1 : Heap} {e : Int} {im : ByteArray} {b : Bool}, Keep B h [] h1 → Q e im b h → Fin B h1 (Q e im b) := fun E q => Fin.ent E.back (Fin.of q)
  refine rnat_wp (by decide) (E.at 0 rfl) ?_
  have E1 := E.put (o' := rdO (rNat 1 l false).2.1 (rNat 1 l false).2.2) 0 rfl
  refine rnat_wp (by decide) (E1.at 0 rfl) ?_
  have E2 := E1.put (o' := rdO (rNat 1099511627776 (rNat 1 l false).2.1 (rNat 1 l false).2.2).2.1 (rNat 1099511627776 (rNat 1 l false).2.1 (rNat 1 l false).2.2).2.2) 0 rfl
  refine rleft_wp (E2.at 0 rfl) (rraw_wp (E2.at 0 rfl) ?_)
  have E3 := E2.put (o' := rdO (rRaw ((rNat 1099511627776 (rNat 1 l false).2.1 (rNat 1 l false).2.2).2.1.length : Nat) (rNat 1099511627776 (rNat 1 l false).2.1 (rNat 1 l false).2.2).2.1 (rNat 1099511627776 (rNat 1 l false).2.1 (rNat 1 l false).2.2).2.2).2.1 (rRaw ((rNat 1099511627776 (rNat 1 l false).2.1 (rNat 1 l false).2.2).2.1.length : Nat) (rNat 1099511627776 (rNat 1 l false).2.1 (rNat 1 l false).2.2).2.1 (rNat 1099511627776 (rNat 1 l false).2.1 (rNat 1 l false).2.2).2.2).2.2) 0 rfl
  refine rbad_wp (E3.at 0 rfl) ?_
  have E4 := E3.take 0
  clear E E1 E2 E3
  have rb : rRaw ((([] : List UInt8).length : Nat) : Int) [] true = ([], [], true) := by simp [rRaw]
  cases t0 : natT 1 l with
  | none =>
    have f0 : rNat 1 l false = (0, [], true) := rNat_none t0
    have f1 : rNat 1099511627776 ([] : List UInt8) true = (0, [], true) := rNat_bad _
    have hf : firstL l = none := by
      cases l with
      | nil => rfl
      | cons b t =>
        refine firstL_b fun e => ?_
        subst e
        have := natT_ok (most := 1) (n := 0) (by omega) (by omega) t
        rw [natB_0] at this
        have e2 : natT 1 (0 :: t) = some (0, t) := this
        rw [e2] at t0; cases t0
    simp only [f0, f1, rb] at E4 ⊢
    exact ⟨fun _ => back E4 (hN hf _ _), fun e => by cases e⟩
  | some p =>
    obtain ⟨kx, r1⟩ := p
    have f0 : rNat 1 l false = (kx, r1, false) := rNat_some t0
    obtain ⟨el, hk⟩ := natT_eq t0
    cases t1 : natT 1099511627776 r1 with
    | none =>
      have f1 : rNat 1099511627776 r1 false = (0, [], true) := rNat_none t1
      have hf : firstL l = none := by
        rw [el]
        by_cases h1 : kx = 1
        · subst h1; rw [natB_1]; exact firstL_b (by decide)
        · have : kx = 0 := by omega
          subst this; rw [natB_0]; exact firstL_n t1
      simp only [f0, f1, rb] at E4 ⊢
      exact ⟨fun _ => back E4 (hN hf _ _), fun e => by cases e⟩
    | some p =>
      obtain ⟨n, r2⟩ := p
      have f1 : rNat 1099511627776 r1 false = (n, r2, false) := rNat_some t1
      have f2 : rRaw ((r2.length : Nat) : Int) r2 false = (r2, [], false) := by
        have := rRaw_ok r2 []
        rwa [List.append_nil] at this
      simp only [f0, f1, f2] at E4 ⊢
      refine ⟨fun e => (by cases e), fun _ => ⟨fun hk0 => ?_, fun hk0 => ?_⟩⟩
      · have : kx = 0 := by omega
        subst this
        rw [natB_0] at el
        by_cases hn : n = 0
        · subst hn
          have hf : firstL l = none := by rw [el]; exact firstL_z t1
          rw [decide_eq_false (by omega)]
          exact back E4 (hN hf _ _)
        · have hf : firstL l = some (n, r2) := by rw [el]; exact firstL_s t1 hn
          rw [decide_eq_true (by omega)]
          exact back E4 (hS n r2 hf)
      · have : kx = 1 := by omega
        subst this
        rw [natB_1] at el
        have hf : firstL l = none := by rw [el]; exact firstL_b (by decide)
        exact back E4 (hN hf _ _)
theorem look_wp {Q : Int → ByteArray → Option Addr → Nat → Nat → Heap → Prop} (E : Keep B h0 L h) (A : DAt L i kD cs k v r) (hj : L[j]? = some (some (kl, walO kD area sz torn))) (ok : DOk cs) (ha : area = 0 ∨ area = 1)
    (hQ : ∀ a c r' h', SRow r' (.slice a (toldL (bl (textD area cs))).ls.length c) (toldL (bl (textD area cs))).ls → Keep B h0 (L ++ [r']) h' → Q ((toldL (bl (textD area cs))).e : Nat) (ba (toldL (bl (textD area cs))).im) a (toldL (bl (textD area cs))).ls.length c h') : C_vault_look B (some ⟨kl, 0, none⟩) h Q := by
  refine C_vault_look.of ?_
  unfold S_vault_look
  intro k7 a7 b7 h8 e8 k9 a9 b9 h10 e10 k11 a11 b11 h12 e12 k13 a13 b13 h14 e14 k15 a15 b15 h16 e16
  have E1 := ((((E.start.nM a7 b7 e8).nM a9 b9 e10).nM a11 b11 e12).nM a13 b13 e14).nM a15 b15 e16
  refine ⟨_, storeH_vec (E1.gM 3 rfl) rfl, ?_⟩
  have E2 := E1.pM (o' := .vec TY.int (plains [.int .i64 0]) 1) 3 rfl
  refine ⟨_, storeH_vec (E2.gM 4 rfl) rfl, ?_⟩
  have E3 := E2.pM (o' := .vec TY.int (plains [.int .i64 0]) 1) 4 rfl
  refine walall_wp fun kc ac bc => ?_
  have E4 := E3.nM (o := .vec TY.p_wal_Log [.plain (.pointer (some ⟨kl, 0, none⟩))] 1) ac bc rfl
  have it := walall_iter (B := B) (kl := kl) (kD := kD) (sz := sz) (torn := torn) (k := k) (v := v) (k3 := kc) ha ok
  have hsm := allL_small (bl (textD area cs))
  have hts := ok.size area
  rw [bl_length] at hsm
  unfold toldL at hQ
  generalize allL (bl (textD area cs)) = rs at it hsm hQ
  -- the end
  have fin : ∀ {h1 : Heap} {ep : Nat} {im : List UInt8} {acc : List (List UInt8)} {a : Option Addr} {c qn : Nat} {r' : Option (Nat × AObj)}, toldR rs = ⟨ep, im, acc⟩ → SRow r' (.slice a acc.length c) acc → Keep B h0 (L ++ [some (k7, .vec TY.int (plains [.int .i64 0]) 1), some (k9, foundO [] (.slice none 0 0)), some (k11, foundO im (.slice a acc.length c)), some (k13, .vec TY.int (plains [.int .i64 (ep : Nat)]) 1), some (k15, .vec TY.int (plains [.int .i64 (qn : Nat)]) 1), r', some (kc, .vec TY.p_wal_Log [.plain (.pointer (some ⟨kl, 0, none⟩))] 1)]) h1 →
      ∃ i66 : Int, cellH B h1 ⟨k13, 0, none⟩ = some (Value.int .i64 (i66)) ∧
      ∃ s68 : ByteArray, ∃ a69 : Option Addr, ∃ n70 : Nat, ∃ c71 : Nat, CellsAt B h1 ⟨k11, 0, none⟩ 0 [(Value.string s68), (Value.slice a69 n70 c71)] ∧
      ∃ h73 : Heap, storeH h1 ⟨k7, 0, none⟩ (Value.int .i64 (i66)) = some h73 ∧
      cellH B h73 ⟨k13, 0, none⟩ = some (Value.int .i64 (i66)) ∧ CellsAt B h73 ⟨k11, 0, none⟩ 0 [(Value.string s68), (Value.slice a69 n70 c71)] ∧
      ∃ h76 : Heap, StoresAt ⟨k9, 0, none⟩ h73 0 [(Value.string s68), (Value.slice a69 n70 c71)] h76 ∧
      ∃ i77 : Int, cellH B h76 ⟨k7, 0, none⟩ = some (Value.int .i64 (i77)) ∧ ∃ s78 : ByteArray, ∃ a79 : Option Addr, ∃ n80 : Nat, ∃ c81 : Nat, CellsAt B h76 ⟨k9, 0, none⟩ 0 [(Value.string s78), (Value.slice a79 n80 c81)] ∧ Fin B h76 (Q (i77) s78 a79 n80 c81) := fun {h1 ep im acc a c qn r'} ht R E => by
    refine ⟨_, E.cM 3 rfl (i := 0) rfl, _, _, _, _, ⟨E.cM 2 rfl (i := 0) rfl, E.cM 2 rfl (i := 1) rfl, trivial⟩, _, storeH_vec (E.gM 0 rfl) rfl, ?_⟩
    have F1 := E.pM (o' := .vec TY.int (plains [.int .i64 (ep : Nat)]) 1) 0 rfl
    refine ⟨F1.cM 3 rfl (i := 0) rfl, ⟨F1.cM 2 rfl (i := 0) rfl, F1.cM 2 rfl (i := 1) rfl, trivial⟩, _, stores_whole (F1.gM 1 rfl) rfl (by simp) (by simp [isOne]) (by simp), ?_⟩
    have F2 := F1.pM (o' := foundO im (.slice a acc.length c)) 1 rfl
    refine ⟨_, F2.cM 0 rfl (i := 0) rfl, _, _, _, _, ⟨F2.cM 1 rfl (i := 0) rfl, F2.cM 1 rfl (i := 1) rfl, trivial⟩, Fin.of ?_⟩
    rw [ht] at hQ
    exact hQ a c r' _ R (F2.sM [5] (by decide))
  refine ⟨rs.map ba, walG kc kl kD area sz torn cs k v, fun q h' => ∃ (ep : Nat) (im : List UInt8) (acc : List (List UInt8)) (a : Option Addr) (c : Nat) (r' : Option (Nat × AObj)), (q = 0 → ep = 0 ∧ im = [] ∧ acc = []) ∧ (1 ≤ q → toldR rs = ⟨ep, im, acc ++ loadsL (rs.drop q)⟩) ∧ acc.length ≤ q ∧ SRow r' (.slice a acc.length c) acc ∧ Keep B h0 (L ++ [some (k7, .vec TY.int (plains [.int .i64 0]) 1), some (k9, foundO [] (.slice none 0 0)), some (k11, foundO im (.slice a acc.length c)), some (k13, .vec TY.int (plains [.int .i64 (ep : Nat)]) 1), some (k15, .vec TY.int (plains [.int .i64 (q : Nat)]) 1), r', some (kc, .vec TY.p_wal_Log [.plain (.pointer (some ⟨kl, 0, none⟩))] 1)]) h', by rw [List.map_map]; exact it, walG_ins, ?_, Fin.of ⟨0, [], [], none, 0, none, fun _ => ⟨rfl, rfl, rfl⟩, fun e => by omega, by simp, Row.nil _ _, ?_⟩, ?_, ?_⟩
  · rintro q h' ⟨ep, im, acc, a, c, r', _, _, _, _, E⟩
    exact ⟨E.gM 6 rfl, E.at j (up_app _ hj), E.at i (up_app _ A.p)⟩
  · have E5 : Keep B h0 (L ++ [some (k7, .vec TY.int (plains [.int .i64 0]) 1), some (k9, foundO [] (.slice none 0 0)), some (k11, foundO [] (.slice none 0 0)), some (k13, .vec TY.int (plains [.int .i64 0]) 1), some (k15, .vec TY.int (plains [.int .i64 0]) 1), some (kc, .vec TY.p_wal_Log [.plain (.pointer (some ⟨kl, 0, none⟩))] 1)]) _ := E4
    exact E5.sM [0, 1, 2, 3, 4, 6, 5] (by decide)
  · clear E E1 E2 E3 E4 e8 e10 e12 e14 e16
    rintro q h23 s21 hg ⟨ep, im, acc, a, c, r', i0, i1, hal, R, E⟩
    rw [List.getElem?_map] at hg
    obtain ⟨l, hl, rfl⟩ := Option.map_eq_some_iff.1 hg
    obtain ⟨hq, hx⟩ := List.getElem?_eq_some_iff.1 hl
    have hw : IntKind.wrap .i64 ((q : Int) + 1) = ((q + 1 : Nat) : Int) := by rw [w64 (by omega) (by omega)]; omega
    refine ⟨_, E.cM 4 rfl (i := 0) rfl, _, storeH_vec (E.gM 4 rfl) rfl, ?_⟩
    rw [hw]
    have E1 := E.pM (o' := .vec TY.int (plains [.int .i64 ((q + 1 : Nat) : Int)]) 1) 4 rfl
    have hdr : rs.drop q = l :: rs.drop (q + 1) := by rw [List.drop_eq_getElem_cons hq, hx]
    refine ⟨_, E1.cM 4 rfl (i := 0) rfl, fun h1 => ?_, fun h1 => ?_⟩
    · have : q = 0 := by omega
      subst this
      obtain ⟨rfl, rfl, rfl⟩ := i0 rfl
      rw [List.drop_zero] at hdr
      refine first_wp (fun hf e im => ⟨fun e => (by cases e), fun _ => ?_⟩) fun n r2 hf => ⟨fun _ => ?_, fun e => by cases e⟩
      · have E1' : Keep B h0 (L ++ [some (k7, .vec TY.int (plains [.int .i64 0]) 1), some (k9, foundO [] (.slice none 0 0))]) _ := E1.tM 2
        refine ⟨_, storeH_vec (E1'.gM 0 rfl) rfl, ?_⟩
        have F1 := E1'.pM (o' := .vec TY.int (plains [.int .i64 0]) 1) 0 rfl
        refine ⟨_, stores_whole (F1.gM 1 rfl) rfl (by simp) (by simp [isOne]) (by simp), ?_⟩
        have F2 := F1.pM (o' := foundO [] (.slice none 0 0)) 1 rfl
        refine ⟨_, F2.cM 0 rfl (i := 0) rfl, _, _, _, _, ⟨F2.cM 1 rfl (i := 0) rfl, F2.cM 1 rfl (i := 1) rfl, trivial⟩, Fin.of ?_⟩
        rw [hdr, toldR_none hf] at hQ
        exact hQ none 0 none _ (Row.nil _ _) F2.zM.gap
      · refine ⟨_, storeH_vec (E1.gM 3 rfl) rfl, ?_⟩
        have F1 := E1.pM (o' := .vec TY.int (plains [.int .i64 (n : Nat)]) 1) 3 rfl
        refine ⟨_, storeH_vec (F1.gM 2 rfl) rfl, Fin.of ?_⟩
        have F2 := F1.pM (o' := foundO r2 (.slice a 0 c)) 2 rfl
        exact ⟨n, r2, [], a, c, r', fun e => by omega, fun _ => by rw [hdr, toldR_some hf]; simp, by simp, R, F2⟩
    · have hq1 : 1 ≤ q := by omega
      have ht := i1 hq1
      rw [hdr] at ht
      refine ⟨fun hs => ?_, fun hs => ?_⟩
      · have : l = [] := ba_inj (by rw [hs]; rfl)
        subst this
        rw [loadsL_nil, List.append_nil] at ht
        exact fin ht R E1
      · cases l with
        | nil => exact absurd rfl hs
        | cons b r2 =>
          have hb : byteAt (ba (b :: r2)) (Int.toNat 0) = ((b.toNat : Nat) : Int) := by
            obtain ⟨b', e1, e2⟩ := byteAt_w (s := ba (b :: r2)) (i := 0) (by rw [ba_size]; simp)
            rw [bl_ba] at e1
            cases e1
            exact e2
          refine ⟨by omega, by rw [ba_size]; simp, fun h1' => Fin.of ?_, fun h1' => ?_⟩
          · rw [hb] at h1'
            have hb1 : b = 1 := by
              have : b.toNat = (1 : UInt8).toNat := by show b.toNat = 1; omega
              exact UInt8.toNat.inj this
            subst hb1
            rw [loadsL_yes] at ht
            unfold S_vault_look_J1
            refine ⟨a, _, c, E1.cM 2 rfl (i := 1) rfl, by omega, by rw [ba_size]; simp; omega, by omega, fun k56 a56 b56 h57 e57 => ?_⟩
            have ex : ByteArray.extract (ba (1 :: r2)) (Int.toNat 1) (Int.toNat (((ba (1 :: r2)).size : Nat) : Int)) = ba r2 := by
              rw [ba_size, Int.toNat_natCast]; exact extract_ba_end (1 :: r2) 1
            rw [ex] at e57
            have c11 : cellH B h57 ⟨k11, 1, none⟩ = some (Value.slice a acc.length c) := by
              have F := E1.nM a56 b56 e57
              exact F.cM 2 rfl (i := 1) rfl
            refine ⟨c11, ?_⟩
            refine E1.push1 (L.length + 5) (upM 5 rfl) R TK.slc_strs TK.zero_str rfl (by omega) (by omega) TK.sl_strs (ys := strC r2) rfl (strC_one r2) (by rw [flatMap_length strC_len, strC_len]; omega) a56 b56 e57 fun a' m' c' r'' h59 R' E2 => ⟨a', m', c', rfl, ?_⟩
            rw [setM] at E2
            refine ⟨E2.cM 2 rfl (i := 1) rfl, _, storeH_vec (E2.gM 2 rfl) rfl, Fin.of ?_⟩
            have hm := Row.len R'
            rw [List.length_append, flatMap_length strC_len, strC_len] at hm
            have hm2 : m' = (acc ++ [r2]).length := by rw [List.length_append, List.length_singleton]; omega
            subst hm2
            have F2 := E2.pM (o' := foundO im (.slice a' (acc ++ [r2]).length c')) 2 rfl
            refine ⟨ep, im, acc ++ [r2], a', c', r'', fun e => by omega, fun _ => by rw [ht]; simp [List.append_assoc], by rw [List.length_append, List.length_singleton]; omega, ?_, F2⟩
            unfold SRow
            rw [List.flatMap_append, List.flatMap_singleton]; exact R'
          · rw [hb] at h1'
            have hb1 : b ≠ 1 := fun e => by subst e; exact h1' rfl
            rw [loadsL_no hb1, List.append_nil] at ht
            exact fin ht R E1
  · rintro h23 ⟨ep, im, acc, a, c, r', i0, i1, hal, R, E⟩
    rw [List.length_map] at i0 i1 E
    refine fin ?_ R E
    rcases Nat.eq_zero_or_pos rs.length with hz | hp
    · have : rs = [] := List.length_eq_zero_iff.1 hz
      obtain ⟨rfl, rfl, rfl⟩ := i0 hz
      rw [this, toldR_nil]
    · rw [i1 hp, List.drop_length]; simp [loadsL]
theorem vopen_nil {Q : Option Addr → ByteArray → Option Addr → Nat → Nat → Int → Heap → Prop} (hQ : Q none (ba []) none 0 0 2 h) : C_vault_Open B none h Q := by
  refine C_vault_Open.of ?_
  unfold S_vault_Open
  intro k8 a8 b8 h9 e9
  have E := (Keep.nil B h).made a8 b8 e9
  refine ⟨fun _ => ⟨_, stores_whole E.last rfl (by simp) (by simp [isOne]) (by simp), ?_⟩, fun hn => absurd rfl hn⟩
  have E1 := E.putLast (foundO [] (.slice none 0 0))
  exact ⟨_, _, _, _, ⟨cellH_vec E1.last rfl, cellH_vec E1.last rfl, trivial⟩, Fin.ent E1.back (Fin.of hQ)⟩
/-- The log that an opened vault has. -/
def vlog (kD : Nat) (ar : Int) (cs : List Chg) : AObj := walO kD ar (wholeL (bl (textD ar cs))) (tornOf (bl (textD ar cs)))
noncomputable def aOf (cs : List Chg) : Int := areaL (bl (textD 0 cs)) (bl (textD 1 cs))
noncomputable def fOf (cs : List Chg) : TDL := foundL (bl (textD 0 cs)) (bl (textD 1 cs))
theorem vopen_wp {Q : Option Addr → ByteArray → Option Addr → Nat → Nat → Int → Heap → Prop} (E : Keep B h0 L h) (A : DAt L i kD cs k v r) (ok : DOk cs)
    (hQ : ∀ kv kl a c r' h', SRow r' (.slice a (fOf cs).ls.length c) (fOf cs).ls → Keep B h0 (L ++ [some (kv, vltO kD kl (fOf cs).e false), some (kl, vlog kD (aOf cs) cs), r']) h' → Q (some ⟨kv, 0, none⟩) (ba (fOf cs).im) a (fOf cs).ls.length c 0 h') : C_vault_Open B (some ⟨kD, 0, none⟩) h Q := by
  refine C_vault_Open.of ?_
  unfold S_vault_Open
  intro k8 a8 b8 h9 e9
  have E1 := E.start.nM a8 b8 e9
  refine ⟨fun e => (by cases e), fun _ => ?_⟩
  intro k16 a16 b16 h17 e17 k18 a18 b18 h19 e19
  have E2 := (E1.nM a16 b16 e17).nM a18 b18 e19
  refine ⟨fun ix m h' => (ix = 0 ∧ m = 2 ∧ Keep B h0 (L ++ [some (k8, foundO [] (.slice none 0 0)), some (k16, .vec TY.vault_Vault (plains [.pointer (some ⟨kD, 0, none⟩), .pointer none, .int .i64 0, .bool false]) 4), some (k18, foundO [] (.slice none 0 0))]) h') ∨
      ∃ (ar : Int) (T : TDL) (kl : Nat) (a : Option Addr) (c : Nat) (r' : Option (Nat × AObj)), (ix = 1 ∧ m = 1 ∧ ar = 0 ∧ T = toldL (bl (textD 0 cs)) ∨ ix = 2 ∧ m = 0 ∧ ar = aOf cs ∧ T = fOf cs) ∧ SRow r' (.slice a T.ls.length c) T.ls ∧ Keep B h0 (L ++ [some (k8, foundO [] (.slice none 0 0)), some (k16, vltO kD kl T.e false), some (k18, foundO T.im (.slice a T.ls.length c)), some (kl, vlog kD ar cs), r']) h', 2, Fin.of (.inl ⟨rfl, rfl, E2⟩), ?_⟩
  clear E E1 E2 e9 e17 e19
  rintro _ _ h21 hor
  have w1 : IntKind.wrap .i64 ((0 : Int) + 1) = 1 := w64 (by omega) (by omega)
  have w2 : IntKind.wrap .i64 ((1 : Int) + 1) = 2 := w64 (by omega) (by omega)
  refine ⟨fun hlt => ?_, fun hge => ?_⟩
  · rcases hor with ⟨rfl, rfl, E⟩ | ⟨ar, T, kl, a, c, r', ⟨rfl, rfl, rfl, rfl⟩ | ⟨rfl, rfl, _, _⟩, R, E⟩
    · refine walopen_wp E (A.app _) (.inl rfl) ok fun kl h27 E1 => ?_
      rw [List.append_assoc] at E1
      refine look_wp (j := L.length + 3) E1 (A.app _) (upM 3 rfl) ok (.inl rfl) fun a c r' h30 R E2 => ?_
      rw [List.append_assoc] at E2
      generalize hT : toldL (bl (textD 0 cs)) = T at R
      intro k36 a36 b36 h37 e37
      have E3 := E2.nM a36 b36 e37
      refine ⟨_, stores_whole (E3.gM 5 rfl) rfl (by simp) (by simp [isOne]) (by simp), ?_⟩
      have E4 := E3.pM (o' := foundO T.im (.slice a T.ls.length c)) 5 rfl
      refine ⟨none, E4.cM 1 rfl (i := 1) rfl, fun _ => Fin.of ?_, fun hn => absurd rfl hn⟩
      unfold S_vault_Open_J1
      refine ⟨fun _ => ⟨_, _, _, _, ⟨E4.cM 5 rfl (i := 0) rfl, E4.cM 5 rfl (i := 1) rfl, trivial⟩, _, storeH_vec (E4.gM 1 rfl) rfl, ?_⟩, fun e => by cases e⟩
      have E5 := E4.pM (o' := .vec TY.vault_Vault (plains [.pointer (some ⟨kD, 0, none⟩), .pointer (some ⟨kl, 0, none⟩), .int .i64 0, .bool false]) 4) 1 rfl
      refine ⟨⟨E5.cM 5 rfl (i := 0) rfl, E5.cM 5 rfl (i := 1) rfl, trivial⟩, _, storeH_vec (E5.gM 1 rfl) rfl, ?_⟩
      have E6 := E5.pM (o' := vltO kD kl T.e false) 1 rfl
      refine ⟨⟨E6.cM 5 rfl (i := 0) rfl, E6.cM 5 rfl (i := 1) rfl, trivial⟩, _, stores_whole (E6.gM 2 rfl) rfl (by simp) (by simp [isOne]) (by simp), ?_⟩
      have E7 := E6.pM (o' := foundO T.im (.slice a T.ls.length c)) 2 rfl
      exact Fin.of ⟨1, by omega, .inr ⟨0, T, kl, a, c, r', .inl ⟨w1, rfl, rfl, rfl⟩, R, E7.tM 5⟩⟩
    · refine walopen_wp E (A.app _) (.inr rfl) ok fun kl2 h27 E1 => ?_
      rw [List.append_assoc] at E1
      refine look_wp (j := L.length + 5) E1 (A.app _) (upM 5 rfl) ok (.inr rfl) fun a2 c2 r2 h30 R2 E2 => ?_
      rw [List.append_assoc] at E2
      generalize hT0 : toldL (bl (textD 0 cs)) = T at R E E1 E2
      generalize hT1 : toldL (bl (textD 1 cs)) = U at R2
      intro k36 a36 b36 h37 e37
      have E3 := E2.nM a36 b36 e37
      refine ⟨_, stores_whole (E3.gM 7 rfl) rfl (by simp) (by simp [isOne]) (by simp), ?_⟩
      have E4 := E3.pM (o' := foundO U.im (.slice a2 U.ls.length c2)) 7 rfl
      refine ⟨_, E4.cM 1 rfl (i := 1) rfl, fun e => (by cases e), fun _ => ⟨_, E4.cM 1 rfl (i := 2) rfl, fun hgt => Fin.of ?_, fun hle => Fin.of ?_⟩⟩
      · unfold S_vault_Open_J1
        have hlt2 : (toldL (bl (textD 0 cs))).e < (toldL (bl (textD 1 cs))).e := by rw [hT0, hT1]; omega
        have eF : fOf cs = U := by unfold fOf foundL; rw [if_pos hlt2, hT1]
        have eA : aOf cs = 1 := by unfold aOf areaL; rw [if_pos hlt2]
        refine ⟨fun _ => ⟨_, _, _, _, ⟨E4.cM 7 rfl (i := 0) rfl, E4.cM 7 rfl (i := 1) rfl, trivial⟩, _, storeH_vec (E4.gM 1 rfl) rfl, ?_⟩, fun e => by cases e⟩
        have E5 := E4.pM (o' := .vec TY.vault_Vault (plains [.pointer (some ⟨kD, 0, none⟩), .pointer (some ⟨kl2, 0, none⟩), .int .i64 (T.e : Nat), .bool false]) 4) 1 rfl
        refine ⟨⟨E5.cM 7 rfl (i := 0) rfl, E5.cM 7 rfl (i := 1) rfl, trivial⟩, _, storeH_vec (E5.gM 1 rfl) rfl, ?_⟩
        have E6 := E5.pM (o' := vltO kD kl2 U.e false) 1 rfl
        refine ⟨⟨E6.cM 7 rfl (i := 0) rfl, E6.cM 7 rfl (i := 1) rfl, trivial⟩, _, stores_whole (E6.gM 2 rfl) rfl (by simp) (by simp [isOne]) (by simp), ?_⟩
        have E7 := E6.pM (o' := foundO U.im (.slice a2 U.ls.length c2)) 2 rfl
        exact Fin.of ⟨0, by omega, .inr ⟨1, U, kl2, a2, c2, r2, .inr ⟨w2, rfl, eA.symm, eF.symm⟩, R2, E7.sM [0, 1, 2, 5, 6] (by decide)⟩⟩
      · unfold S_vault_Open_J1
        have hlt2 : ¬ (toldL (bl (textD 0 cs))).e < (toldL (bl (textD 1 cs))).e := by rw [hT0, hT1]; omega
        have eF : fOf cs = T := by unfold fOf foundL; rw [if_neg hlt2, hT0]
        have eA : aOf cs = 0 := by unfold aOf areaL; rw [if_neg hlt2]
        exact ⟨fun e => (by cases e), fun _ => Fin.of ⟨0, by omega, .inr ⟨0, T, kl, a, c, r', .inr ⟨w2, rfl, eA.symm, eF.symm⟩, R, E4.tM 5⟩⟩⟩
    · omega
  · rcases hor with ⟨rfl, rfl, E⟩ | ⟨ar, T, kl, a, c, r', ⟨rfl, rfl, rfl, rfl⟩ | ⟨rfl, rfl, rfl, rfl⟩, R, E⟩
    · omega
    · omega
    · refine ⟨_, _, _, _, ⟨E.cM 2 rfl (i := 0) rfl, E.cM 2 rfl (i := 1) rfl, trivial⟩, _, stores_whole (E.gM 0 rfl) rfl (by simp) (by simp [isOne]) (by simp), ?_⟩
      have E1 := E.pM (o' := foundO (fOf cs).im (.slice a (fOf cs).ls.length c)) 0 rfl
      exact ⟨⟨E1.cM 2 rfl (i := 0) rfl, E1.cM 2 rfl (i := 1) rfl, trivial⟩, _, _, _, _, ⟨E1.cM 0 rfl (i := 0) rfl, E1.cM 0 rfl (i := 1) rfl, trivial⟩, Fin.of (hQ k16 kl a c r' _ R (E1.sM [1, 3, 4] (by decide)))⟩
end
end Go.Proofs.Ytcncdfmnpmmikaa.H

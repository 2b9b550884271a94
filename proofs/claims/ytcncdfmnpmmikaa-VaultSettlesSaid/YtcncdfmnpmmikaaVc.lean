/- Vault: Settle, Append, Force, Size, Epoch: contracts. No condition. -/
import Derived.Test.YtcncdfmnpmmikaaVb
import Derived.Test.YtcncdfmnpmmikaaXvT
namespace Go.Proofs.Ytcncdfmnpmmikaa.H
open Go Go.RowKit
set_option linter.unusedVariables false
set_option maxRecDepth 100000

theorem tD_app (area : Int) (cs : List Chg) (s : ByteArray) : textD area (cs ++ [Chg.mk area false s]) = textD area cs ++ s := by
  rw [textD_one]; simp [chgD]
theorem tD_reset (area : Int) (cs : List Chg) (s : ByteArray) : textD area (cs ++ [Chg.mk area true s]) = ByteArray.mk #[] := by
  rw [textD_one]; simp [chgD]
theorem tD_other {area : Int} (cs : List Chg) (c : Chg) (h : c.a ≠ area) : textD area (cs ++ [c]) = textD area cs := by
  rw [textD_one]; simp [chgD, h]
section
variable {B : RO} {h0 h h' : Heap} {L M : List (Option (Nat × AObj))} {r : Option (Nat × AObj)} {i j kD kv kl k sz e : Nat} {cs : List Chg} {v : Value} {area ar : Int} {torn ready : Bool}
theorem DAt.m (q : Nat) (hp : M[q]? = some (some (kD, dskO cs k v))) (hq : M[q + 1]? = some r) : DAt (L ++ M) (L.length + q) kD cs k v r := ⟨upM q hp, upM (q + 1) hq⟩
theorem setDM (q : Nat) : setD (L ++ M) (L.length + q) kD cs k v r = L ++ setD M q kD cs k v r := by
  unfold setD
  rw [setM, show L.length + q + 1 = L.length + (q + 1) from rfl, setM]
/-- A vault's blocks. -/
def vE (kD kv kl : Nat) (cs : List Chg) (k : Nat) (v : Value) (r : Option (Nat × AObj)) (e : Nat) (ready : Bool) (w : AObj) : List (Option (Nat × AObj)) := [some (kD, dskO cs k v), r, some (kv, vltO kD kl e ready), some (kl, w)]
theorem vepoch_wp {Q : Int → Heap → Prop} (g : h kv = some (vltO kD kl e ready)) (hQ : Q (e : Nat) h) : C_vault_Vault_Epoch B (some ⟨kv, 0, none⟩) h Q := by
  refine C_vault_Vault_Epoch.of ?_
  unfold S_vault_Vault_Epoch
  exact ⟨fun e => (by cases e), fun _ => ⟨_, rfl, _, cellH_vec g rfl, Fin.of hQ⟩⟩
theorem vepoch_nil {Q : Int → Heap → Prop} (hQ : Q 0 h) : C_vault_Vault_Epoch B none h Q := by
  refine C_vault_Vault_Epoch.of ?_
  unfold S_vault_Vault_Epoch
  exact ⟨fun _ => Fin.of hQ, fun e => absurd rfl e⟩
theorem vsize_wp {Q : Int → Heap → Prop} (E : Keep B h0 L h) (hv : L[i]? = some (some (kv, vltO kD kl e ready))) (hj : L[j]? = some (some (kl, walO kD area sz torn))) (hQ : Q ((sz : Nat) : Int) h) : C_vault_Vault_Size B (some ⟨kv, 0, none⟩) h Q := by
  refine C_vault_Vault_Size.of ?_
  unfold S_vault_Vault_Size
  exact ⟨fun e => (by cases e), fun _ => ⟨_, rfl, _, E.cellA i (m := 0) hv rfl, walsize_wp E hj (Fin.of hQ)⟩⟩
theorem vsize_nil {Q : Int → Heap → Prop} (hQ : Q 0 h) : C_vault_Vault_Size B none h Q := by
  refine C_vault_Vault_Size.of ?_
  unfold S_vault_Vault_Size
  exact ⟨fun _ => Fin.of hQ, fun e => absurd rfl e⟩
theorem vforce_nil {Q : Heap → Prop} (hQ : Q h) : C_vault_Vault_Force B none h Q := by
  refine C_vault_Vault_Force.of ?_
  unfold S_vault_Vault_Force
  exact ⟨fun _ => Fin.of hQ, fun e => absurd rfl e⟩
theorem vforce_wp {Q : Heap → Prop} (E : Keep B h0 (L ++ vE kD kv kl cs k v r e ready (walO kD ar sz torn)) h) (R : CRow r v (cs.drop k)) (hk : k ≤ cs.length) (ok : DOk cs) (hl : cs.length ≤ 100000)
    (hQ : ∀ h', Keep B h0 (L ++ vE kD kv kl cs cs.length (.slice none 0 0) none e ready (walO kD ar sz torn)) h' → Q h') : C_vault_Vault_Force B (some ⟨kv, 0, none⟩) h Q := by
  refine C_vault_Vault_Force.of ?_
  unfold S_vault_Vault_Force
  refine ⟨fun e => (by cases e), fun _ => ⟨_, rfl, _, E.cellA (L.length + 2) (m := 0) (upM 2 rfl) rfl, walforce_wp (j := L.length + 3) E (DAt.m 0 rfl rfl) (upM 3 rfl) R hk ok hl fun h6 E1 => Fin.of (hQ _ ?_)⟩⟩
  rw [setDM] at E1; exact E1
theorem vappend_nil {s : ByteArray} {Q : Int → Heap → Prop} (hQ : Q 2 h) : C_vault_Vault_Append B none s h Q := by
  refine C_vault_Vault_Append.of ?_
  unfold S_vault_Vault_Append
  exact ⟨fun _ => Fin.of hQ, fun e => absurd rfl e⟩
theorem vappend_stale {s : ByteArray} {Q : Int → Heap → Prop} (g : h kv = some (vltO kD kl e false)) (hQ : Q 9 h) : C_vault_Vault_Append B (some ⟨kv, 0, none⟩) s h Q := by
  refine C_vault_Vault_Append.of ?_
  unfold S_vault_Vault_Append
  exact ⟨fun e => (by cases e), fun _ => ⟨_, rfl, false, cellH_vec g rfl, fun e => (by cases e), fun _ => Fin.of hQ⟩⟩
theorem vappend_wp {s : ByteArray} {Q : Int → Heap → Prop} (E : Keep B h0 (L ++ vE kD kv kl cs k v r e true (walO kD ar sz false)) h) (R : CRow r v (cs.drop k)) (hk : k ≤ cs.length) (ok : DOk cs) (hl : cs.length ≤ 100000) (hs : s.size ≤ 100000000) (hsz : sz ≤ 16384) (ha : ar = 0 ∨ ar = 1)
    (hL : 1024 < s.size + 1 → ∀ h', Keep B h0 (L ++ vE kD kv kl cs k v r e true (walO kD ar sz false)) h' → Q 3 h') (hF : s.size + 1 ≤ 1024 → 16384 < (textD ar cs).size + (closeL (1 :: bl s)).length → ∀ h', Keep B h0 (L ++ vE kD kv kl cs k v r e true (walO kD ar sz false)) h' → Q 6 h')
    (hQ : s.size + 1 ≤ 1024 → (textD ar cs).size + (closeL (1 :: bl s)).length ≤ 16384 → ∀ v' r' h', CRow r' v' ((cs ++ [Chg.mk ar false (ba (closeL (1 :: bl s)))]).drop k) → Keep B h0 (L ++ vE kD kv kl (cs ++ [Chg.mk ar false (ba (closeL (1 :: bl s)))]) k v' r' e true (walO kD ar (sz + (closeL (1 :: bl s)).length) false)) h' → Q 0 h') : C_vault_Vault_Append B (some ⟨kv, 0, none⟩) s h Q := by
  refine C_vault_Vault_Append.of ?_
  unfold S_vault_Vault_Append
  refine ⟨fun e => (by cases e), fun _ => ⟨_, rfl, true, E.cellA (L.length + 2) (m := 0) (upM 2 rfl) rfl, fun _ => Fin.of ?_, fun e => by cases e⟩⟩
  unfold S_vault_Vault_Append_J1
  refine ⟨_, rfl, _, E.cellA (L.length + 2) (m := 0) (upM 2 rfl) rfl, fun k14 a14 b14 h15 e15 => ?_⟩
  have E1 := E.nM a14 b14 e15
  refine ⟨E1.cellA (L.length + 2) (m := 0) (upM 2 rfl) rfl, bytes_str (bs := [1]) (E1.gM 4 rfl) rfl (by simp) ?_⟩
  have E2 := E1.tM 4
  have e2 : bl (ba [1] ++ s) = 1 :: bl s := by rw [bl_append, bl_ba]; rfl
  have e3 : (ba [1] ++ s).size = s.size + 1 := by rw [← bl_length, e2, List.length_cons, bl_length]
  refine ⟨ba [1], rfl, E2.cellA (L.length + 2) (m := 0) (upM 2 rfl) rfl, by rw [ba_size]; simp; omega, ?_⟩
  refine walappend_wp (j := L.length + 3) E2 (DAt.m 0 rfl rfl) (upM 3 rfl) (by omega) (by omega) R hk ok hl (by omega) hsz ha (fun hgt => ⟨E2.cellA (L.length + 2) (m := 0) (upM 2 rfl) rfl, Fin.of (hL (by omega) _ E2)⟩) (fun _ ht => by cases ht) (fun h1 h2 => ?_) (fun h1 h2 h3 v' r' h' R' E3 => ?_)
  · intro h3
    rw [e2] at h3
    exact ⟨E2.cellA (L.length + 2) (m := 0) (upM 2 rfl) rfl, Fin.of (hF (by omega) h3 _ E2)⟩
  · rw [e2] at R' E3 h3
    rw [setDM, setM] at E3
    exact ⟨E3.cellA (L.length + 2) (m := 0) (upM 2 rfl) rfl, Fin.of (hQ (by omega) h3 v' r' _ R' E3)⟩
theorem vsettle_nil {s : ByteArray} {Q : Int → Heap → Prop} (hQ : Q 2 h) : C_vault_Vault_Settle B none s h Q := by
  refine C_vault_Vault_Settle.of ?_
  unfold S_vault_Vault_Settle
  exact ⟨fun _ => Fin.of hQ, fun e => absurd rfl e⟩
theorem vsettle_full {s : ByteArray} {Q : Int → Heap → Prop} (g : h kv = some (vltO kD kl e ready)) (he : 1099511627776 ≤ e) (hQ : Q 6 h) : C_vault_Vault_Settle B (some ⟨kv, 0, none⟩) s h Q := by
  refine C_vault_Vault_Settle.of ?_
  unfold S_vault_Vault_Settle
  exact ⟨fun e => (by cases e), fun _ => ⟨_, rfl, _, cellH_vec g rfl, fun _ => Fin.of hQ, fun hn => by omega⟩⟩
/-- What settling tells a disk. -/
def stl (ar : Int) (e : Nat) (im : List UInt8) (cs : List Chg) : List Chg := cs ++ [Chg.mk (1 - ar) true ByteArray.empty] ++ [Chg.mk (1 - ar) false (ba (closeL (imgL (e + 1) im)))] ++ [Chg.mk ar true ByteArray.empty]
theorem stl_new {ar : Int} (ha : ar = 0 ∨ ar = 1) (e : Nat) (im : List UInt8) (cs : List Chg) : textD (1 - ar) (stl ar e im cs) = ba (closeL (imgL (e + 1) im)) := by
  unfold stl
  rw [tD_other _ _ (by simp only; omega), tD_app, tD_reset, ← ba_nil, ← ba_append, List.nil_append]
theorem stl_old (ar : Int) (e : Nat) (im : List UInt8) (cs : List Chg) : textD ar (stl ar e im cs) = ByteArray.mk #[] := by unfold stl; rw [tD_reset]
set_option maxHeartbeats 1000000 in
theorem vsettle_wp {s : ByteArray} {Q : Int → Heap → Prop} (E : Keep B h0 (L ++ vE kD kv kl cs k v r e ready (walO kD ar sz torn)) h) (R : CRow r v (cs.drop k)) (hk : k ≤ cs.length) (ok : DOk cs) (hl : cs.length ≤ 10000) (hs : s.size ≤ 100000000) (ha : ar = 0 ∨ ar = 1) (he : e < 1099511627776)
    (hL : 1024 < (imgL (e + 1) (bl s)).length → ∀ h', Keep B h0 (L ++ vE kD kv kl cs k v r e ready (walO kD ar sz torn)) h' → Q 3 h')
    (hQ : (imgL (e + 1) (bl s)).length ≤ 1024 → DOk (stl ar e (bl s) cs) → ∀ kl' h', Keep B h0 (L ++ vE kD kv kl' (stl ar e (bl s) cs) (stl ar e (bl s) cs).length (.slice none 0 0) none (e + 1) true (walO kD (1 - ar) ((imgL (e + 1) (bl s)).length + 6) false)) h' → Q 0 h') : C_vault_Vault_Settle B (some ⟨kv, 0, none⟩) s h Q := by
  refine C_vault_Vault_Settle.of ?_
  unfold S_vault_Vault_Settle
  refine ⟨fun e => (by cases e), fun _ => ⟨_, rfl, _, E.cellA (L.length + 2) (m := 0) (upM 2 rfl) rfl, fun hge => by omega, fun _ => Fin.of ?_⟩⟩
  unfold S_vault_Vault_Settle_J1
  intro k6 a6 b6 h7 e7
  have E1 := E.nM a6 b6 e7
  refine ⟨_, rfl, _, E1.cellA (L.length + 2) (m := 0) (upM 2 rfl) rfl, fun k11 a11 b11 h12 e12 => ?_⟩
  have hw : IntKind.wrap .i64 ((e : Int) + 1) = ((e + 1 : Nat) : Int) := by rw [w64 (by omega) (by omega)]; omega
  rw [hw] at e12
  have E2 := E1.nM a11 b11 e12
  refine Spec.ent (styl_new (E2.gM 4 rfl)) ?_
  have E3 := E2.pM (o' := stylO []) 4 rfl
  have e1 : natsB [0, ((e + 1 : Nat) : Int)] = 0 :: natB (e + 1) := by
    simp only [natsB, List.flatMap_cons, List.flatMap_nil, List.append_nil]
    rw [show (0 : Int) = ((0 : Nat) : Int) from rfl, natI_nat, natI_nat, natB_0]; rfl
  have hnb := natB_length (n := e + 1) (by omega)
  have hil : (imgL (e + 1) (bl s)).length = 1 + (natB (e + 1)).length + s.size := by simp [imgL, bl_length]; omega
  refine nat_wp (ns := [0, ((e + 1 : Nat) : Int)]) (E3.gM 4 rfl) (fun i n hi => ?_) (by intro n hn; simp at hn; omega) (by simp) ?_
  · have hne : k11 ≠ k6 := fun e => absurd e (E3.ne (L.length + 5) (L.length + 4) (upM 5 rfl) (upM 4 rfl) (by omega))
    match i with
    | 0 => cases hi; exact ⟨_, rfl, hne, cellH_vec (E3.gM 5 rfl) rfl⟩
    | 1 => cases hi; exact ⟨_, rfl, hne, cellH_vec (E3.gM 5 rfl) rfl⟩
    | i + 2 => cases hi
  rw [e1, List.nil_append]
  have E4 := (E3.pM (o' := stylO (0 :: natB (e + 1))) 4 rfl).tM 5
  refine raw_wp (E4.gM 4 rfl) (by simp; omega) ?_
  have E5 := E4.pM (o' := stylO (0 :: natB (e + 1) ++ bl s)) 4 rfl
  have eI : (0 :: natB (e + 1) ++ bl s : List UInt8) = imgL (e + 1) (bl s) := rfl
  rw [eI] at E5 ⊢
  have E5 : Keep B h0 (L ++ [some (kD, dskO cs k v), r, some (kv, vltO kD kl e ready), some (kl, walO kD ar sz torn), some (k6, stylO (imgL (e + 1) (bl s)))]) _ := E5
  refine bytes_wp (E5.gM 4 rfl) ⟨fun hgt => ?_, fun hle => ?_⟩
  · rw [ba_size] at hgt
    exact Fin.of (hL (by omega) _ (E5.tM 4))
  rw [ba_size] at hle
  have hw2 : IntKind.wrap .i64 (1 - ar) = 1 - ar := w64 (by omega) (by omega)
  have ha2 : 1 - ar = 0 ∨ 1 - ar = 1 := by omega
  refine ⟨_, rfl, _, E5.cellA (L.length + 2) (m := 0) (upM 2 rfl) rfl, _, rfl, _, E5.cM 2 rfl (i := 0) rfl, walarea_wp (j := L.length + 3) E5 (upM 3 rfl) ⟨E5.cM 2 rfl (i := 0) rfl, ?_⟩⟩
  rw [hw2]
  refine walopen_wp E5 (DAt.m 0 rfl rfl) ha2 ok fun kl' h32 E6 => ?_
  rw [List.append_assoc] at E6
  have E6 : Keep B h0 (L ++ [some (kD, dskO cs k v), r, some (kv, vltO kD kl e ready), some (kl, walO kD ar sz torn), some (k6, stylO (imgL (e + 1) (bl s))), some (kl', walO kD (1 - ar) (wholeL (bl (textD (1 - ar) cs))) (tornOf (bl (textD (1 - ar) cs))))]) h32 := E6
  refine ⟨E6.cM 2 rfl (i := 0) rfl, ?_⟩
  refine walclear_wp (j := L.length + 5) E6 (DAt.m 0 rfl rfl) (upM 5 rfl) (by omega) (by omega) R hk (by omega) ha2 fun v1 r1 h36 R1 E7 => ?_
  rw [setDM, setM] at E7
  have E7 : Keep B h0 (L ++ [some (kD, dskO (cs ++ [Chg.mk (1 - ar) true ByteArray.empty]) k v1), r1, some (kv, vltO kD kl e ready), some (kl, walO kD ar sz torn), some (k6, stylO (imgL (e + 1) (bl s))), some (kl', walO kD (1 - ar) 0 false)]) h36 := E7
  have ok1 : DOk (cs ++ [Chg.mk (1 - ar) true ByteArray.empty]) := ok.snoc ha2 (by show (textD (1 - ar) _).size ≤ _; rw [tD_reset]; decide)
  have z1 : (textD (1 - ar) (cs ++ [Chg.mk (1 - ar) true ByteArray.empty])).size = 0 := by rw [tD_reset]; rfl
  refine walforce_wp (j := L.length + 5) E7 (DAt.m 0 rfl rfl) (upM 5 rfl) R1 (by rw [List.length_append]; omega) ok1 (by rw [List.length_append]; simp; omega) fun h37 E8 => ?_
  rw [setDM] at E8
  have E8 : Keep B h0 (L ++ [some (kD, dskO (cs ++ [Chg.mk (1 - ar) true ByteArray.empty]) (cs ++ [Chg.mk (1 - ar) true ByteArray.empty]).length (.slice none 0 0)), none, some (kv, vltO kD kl e ready), some (kl, walO kD ar sz torn), some (k6, stylO (imgL (e + 1) (bl s))), some (kl', walO kD (1 - ar) 0 false)]) h37 := E8
  refine bytes_wp (E8.gM 4 rfl) ?_
  have hcl := closeL_len (l := imgL (e + 1) (bl s)) (by omega)
  refine walappend_wp (j := L.length + 5) E8 (DAt.m 0 rfl rfl) (upM 5 rfl) (by omega) (by omega) (by rw [List.drop_length]; exact Row.nil _ _) (Nat.le_refl _) ok1 (by rw [List.length_append]; simp; omega) (by rw [ba_size]; omega) (by omega) ha2 (fun hgt => by rw [ba_size] at hgt; omega) (fun _ ht => by cases ht) (fun _ _ hf => by rw [z1, bl_ba, hcl] at hf; omega) fun _ _ _ v2 r2 h40 R2 E9 => ?_
  rw [bl_ba] at R2 E9
  rw [setDM, setM] at E9
  rw [hcl, Nat.zero_add] at E9
  have E9 : Keep B h0 (L ++ [some (kD, dskO (cs ++ [Chg.mk (1 - ar) true ByteArray.empty] ++ [Chg.mk (1 - ar) false (ba (closeL (imgL (e + 1) (bl s))))]) (cs ++ [Chg.mk (1 - ar) true ByteArray.empty]).length v2), r2, some (kv, vltO kD kl e ready), some (kl, walO kD ar sz torn), some (k6, stylO (imgL (e + 1) (bl s))), some (kl', walO kD (1 - ar) ((imgL (e + 1) (bl s)).length + 6) false)]) h40 := E9
  have ok2 : DOk (cs ++ [Chg.mk (1 - ar) true ByteArray.empty] ++ [Chg.mk (1 - ar) false (ba (closeL (imgL (e + 1) (bl s))))]) := ok1.snoc ha2 (by show (textD (1 - ar) _).size ≤ _; rw [tD_app, ByteArray.size_append, z1, ba_size, hcl]; omega)
  refine walforce_wp (j := L.length + 5) E9 (DAt.m 0 rfl rfl) (upM 5 rfl) R2 (by simp) ok2 (by simp; omega) fun h42 E10 => ?_
  rw [setDM] at E10
  have E10 : Keep B h0 (L ++ [some (kD, dskO (cs ++ [Chg.mk (1 - ar) true ByteArray.empty] ++ [Chg.mk (1 - ar) false (ba (closeL (imgL (e + 1) (bl s))))]) (cs ++ [Chg.mk (1 - ar) true ByteArray.empty] ++ [Chg.mk (1 - ar) false (ba (closeL (imgL (e + 1) (bl s))))]).length (.slice none 0 0)), none, some (kv, vltO kD kl e ready), some (kl, walO kD ar sz torn), some (k6, stylO (imgL (e + 1) (bl s))), some (kl', walO kD (1 - ar) ((imgL (e + 1) (bl s)).length + 6) false)]) h42 := E10
  refine walclear_wp (j := L.length + 3) E10 (DAt.m 0 rfl rfl) (upM 3 rfl) (by omega) (by omega) (by rw [List.drop_length]; exact Row.nil _ _) (Nat.le_refl _) (by simp; omega) ha fun v3 r3 h43 R3 E11 => ?_
  rw [setDM, setM] at E11
  have E11 : Keep B h0 (L ++ [some (kD, dskO (stl ar e (bl s) cs) (cs ++ [Chg.mk (1 - ar) true ByteArray.empty] ++ [Chg.mk (1 - ar) false (ba (closeL (imgL (e + 1) (bl s))))]).length v3), r3, some (kv, vltO kD kl e ready), some (kl, walO kD ar 0 false), some (k6, stylO (imgL (e + 1) (bl s))), some (kl', walO kD (1 - ar) ((imgL (e + 1) (bl s)).length + 6) false)]) h43 := E11
  have ok3 : DOk (stl ar e (bl s) cs) := ok2.snoc ha (by show (textD ar _).size ≤ _; rw [tD_reset]; decide)
  refine walforce_wp (j := L.length + 3) E11 (DAt.m 0 rfl rfl) (upM 3 rfl) R3 (by simp [stl]) ok3 (by simp [stl]; omega) fun h44 E12 => ?_
  rw [setDM] at E12
  have E12 : Keep B h0 (L ++ [some (kD, dskO (stl ar e (bl s) cs) (stl ar e (bl s) cs).length (.slice none 0 0)), none, some (kv, vltO kD kl e ready), some (kl, walO kD ar 0 false), some (k6, stylO (imgL (e + 1) (bl s))), some (kl', walO kD (1 - ar) ((imgL (e + 1) (bl s)).length + 6) false)]) h44 := E12
  refine ⟨_, rfl, _, E12.cellA (L.length + 2) (m := 0) (upM 2 rfl) rfl, _, rfl, ?_⟩
  have s1 := E12.storeA (L.length + 2) 0 1 (.pointer (some ⟨kl', 0, none⟩)) (upM 2 rfl) rfl
  obtain ⟨s1, E13⟩ := s1
  rw [setM] at E13
  refine ⟨_, s1, _, rfl, ?_⟩
  obtain ⟨s2, E14⟩ := E13.storeA (L.length + 2) 0 2 (.int .i64 ((e + 1 : Nat) : Int)) (upM 2 rfl) rfl
  rw [setM] at E14
  rw [hw]
  refine ⟨_, s2, _, rfl, ?_⟩
  obtain ⟨s3, E15⟩ := E14.storeA (L.length + 2) 0 3 (.bool true) (upM 2 rfl) rfl
  rw [setM] at E15
  refine ⟨_, s3, Fin.of (hQ (by omega) ok3 kl' _ ?_)⟩
  have E16 := E15.sM [0, 1, 2, 5] (by decide)
  exact E16
end
end Go.Proofs.Ytcncdfmnpmmikaa.H
